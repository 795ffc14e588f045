/-
  The contracts of slices.Sorted and maps.Keys at this dump, laid by the kit's programs, in plain declarations.
  Rising rows of texts; the keys of a map, sorted.
-/
import Derived.Shelf.SlGeneric
import Derived.Shelf.SlIter.Nil
import Derived.Shelf.SortM.Plain
import Derived.Shelf.SortM.SortNone
import Derived.Ground.GgzProg
import Derived.Ground.SlgmProg
import Derived.Test.YtdjoaboalknlkaaGreatDoorProg
import Derived.Test.YtdjoaboalknlkaaGreatDoorLMapS
import Derived.OwnWalkIn
import Derived.CallsIn
namespace Go.Proofs
open Go.Shelf
def Tryz.keys86_ren : Go.Shelf.Ren := ⟨fun | 7 => 86 | 10 => 107 | n => n, fun | 23 => 59 | 26 => 9 | 3 => 4 | 28 => 149 | 0 => 0 | 27 => 148 | 33 => 87 | 4 => 4 | n => n, fun | n => n⟩
theorem Tryz.keys86 : Go.Proofs.SlLaysZ.n7 Tryz.prog Tryz.keys86_ren := {
  mixed := by kernel_rfl
  f7 := ⟨Tryz.f86.name, by decide, Tryz.func86.trans (congrArg some (by kernel_rfl))⟩
  f10 := ⟨Tryz.f107.name, by decide, Tryz.func107.trans (congrArg some (by kernel_rfl))⟩
  t0 := Tryz.underlying0
  a0 := Tryz.isAgg0
  z0 := Tryz.sizeOf0
  v0 := Tryz.zeroValue0
  t4 := Tryz.underlying4
  a4 := Tryz.isAgg4
  z4 := Tryz.sizeOf4
  v4 := Tryz.zeroValue4
  t23 := Tryz.underlying59
  a23 := Tryz.isAgg59
  z23 := Tryz.sizeOf59
  v23 := Tryz.zeroValue59
  t26 := Tryz.underlying9
  a26 := Tryz.isAgg9
  z26 := Tryz.sizeOf9
  v26 := Tryz.zeroValue9
  t27 := Tryz.underlying148
  a27 := Tryz.isAgg148
  z27 := Tryz.sizeOf148
  v27 := Tryz.zeroValue148
  t28 := Tryz.underlying149
  a28 := Tryz.isAgg149
  z28 := Tryz.sizeOf149
  v28 := Tryz.zeroValue149
  t33 := Tryz.underlying87
  a33 := Tryz.isAgg87
  z33 := Tryz.sizeOf87
  v33 := Tryz.zeroValue87 }
def Tryz.sorted85_ren : Go.Shelf.Ren := ⟨fun | 6 => 85 | 8 => 105 | 9 => 106 | 11 => 128 | 13 => 130 | 12 => 129 | 23 => 156 | 24 => 143 | 14 => 147 | 15 => 148 | 16 => 149 | 17 => 150 | 18 => 151 | 19 => 152 | 20 => 153 | 21 => 154 | 22 => 155 | 25 => 163 | 26 => 164 | 27 => 165 | 28 => 166 | 29 => 167 | 30 => 168 | 31 => 169 | n => n, fun | 26 => 9 | 28 => 149 | 24 => 28 | 0 => 0 | 3 => 3 | 37 => 100 | 48 => 101 | 50 => 165 | 4 => 4 | 40 => 202 | 39 => 201 | 45 => 128 | 5 => 5 | 9 => 9 | 51 => 212 | 55 => 216 | 57 => 224 | 58 => 88 | 33 => 87 | n => n, fun | n => n⟩
theorem Tryz.sorted85 : Go.Proofs.SlLaysZ.n6 Tryz.prog Tryz.sorted85_ren := {
  mixed := by kernel_rfl
  f6 := ⟨Tryz.f85.name, by decide, Tryz.func85.trans (congrArg some (by kernel_rfl))⟩
  f8 := ⟨Tryz.f105.name, by decide, Tryz.func105.trans (congrArg some (by kernel_rfl))⟩
  f11 := ⟨Tryz.f128.name, by decide, Tryz.func128.trans (congrArg some (by kernel_rfl))⟩
  t0 := Tryz.underlying0
  a0 := Tryz.isAgg0
  z0 := Tryz.sizeOf0
  v0 := Tryz.zeroValue0
  t24 := Tryz.underlying28
  a24 := Tryz.isAgg28
  z24 := Tryz.sizeOf28
  v24 := Tryz.zeroValue28
  t26 := Tryz.underlying9
  a26 := Tryz.isAgg9
  z26 := Tryz.sizeOf9
  v26 := Tryz.zeroValue9
  t28 := Tryz.underlying149
  a28 := Tryz.isAgg149
  z28 := Tryz.sizeOf149
  v28 := Tryz.zeroValue149
  i26 := by kernel_rfl }
def Tryz.sort106_ren : Go.Shelf.Ren := ⟨fun | 6 => 106 | 8 => 130 | 9 => 129 | 19 => 156 | 20 => 143 | 21 => 147 | 22 => 148 | 23 => 149 | 24 => 150 | 25 => 151 | 26 => 152 | 27 => 153 | 28 => 154 | 29 => 155 | 36 => 163 | 31 => 164 | 32 => 165 | 37 => 166 | 38 => 167 | 39 => 168 | 41 => 169 | n => n, fun | 27 => 28 | 29 => 9 | 3 => 3 | 32 => 100 | 26 => 28 | 0 => 0 | 44 => 101 | 46 => 165 | 4 => 4 | 36 => 202 | 35 => 201 | 41 => 128 | 5 => 5 | 9 => 9 | 53 => 212 | 57 => 216 | 63 => 224 | 64 => 88 | n => n, fun | n => n⟩
theorem Tryz.sort106 : Go.Proofs.SlLaysM.n6 Tryz.prog Tryz.sort106_ren := {
  mixed := by kernel_rfl
  f6 := ⟨Tryz.f106.name, by decide, Tryz.func106.trans (congrArg some (by kernel_rfl))⟩
  f8 := Tryz.func130.trans (congrArg some (by kernel_rfl))
  f9 := ⟨Tryz.f129.name, by decide, Tryz.func129.trans (congrArg some (by kernel_rfl))⟩
  f19 := Tryz.func156.trans (congrArg some (by kernel_rfl))
  f20 := Tryz.func143.trans (congrArg some (by kernel_rfl))
  f21 := ⟨Tryz.f147.name, by decide, Tryz.func147.trans (congrArg some (by kernel_rfl))⟩
  f22 := ⟨Tryz.f148.name, by decide, Tryz.func148.trans (congrArg some (by kernel_rfl))⟩
  f23 := ⟨Tryz.f149.name, by decide, Tryz.func149.trans (congrArg some (by kernel_rfl))⟩
  f24 := ⟨Tryz.f150.name, by decide, Tryz.func150.trans (congrArg some (by kernel_rfl))⟩
  f25 := ⟨Tryz.f151.name, by decide, Tryz.func151.trans (congrArg some (by kernel_rfl))⟩
  f26 := ⟨Tryz.f152.name, by decide, Tryz.func152.trans (congrArg some (by kernel_rfl))⟩
  f27 := ⟨Tryz.f153.name, by decide, Tryz.func153.trans (congrArg some (by kernel_rfl))⟩
  f28 := ⟨Tryz.f154.name, by decide, Tryz.func154.trans (congrArg some (by kernel_rfl))⟩
  f29 := ⟨Tryz.f155.name, by decide, Tryz.func155.trans (congrArg some (by kernel_rfl))⟩
  f31 := Tryz.func164.trans (congrArg some (by kernel_rfl))
  f32 := Tryz.func165.trans (congrArg some (by kernel_rfl))
  f36 := ⟨Tryz.f163.name, by decide, Tryz.func163.trans (congrArg some (by kernel_rfl))⟩
  f37 := ⟨Tryz.f166.name, by decide, Tryz.func166.trans (congrArg some (by kernel_rfl))⟩
  f38 := ⟨Tryz.f167.name, by decide, Tryz.func167.trans (congrArg some (by kernel_rfl))⟩
  f39 := ⟨Tryz.f168.name, by decide, Tryz.func168.trans (congrArg some (by kernel_rfl))⟩
  f41 := ⟨Tryz.f169.name, by decide, Tryz.func169.trans (congrArg some (by kernel_rfl))⟩
  t0 := Tryz.underlying0
  a0 := Tryz.isAgg0
  z0 := Tryz.sizeOf0
  v0 := Tryz.zeroValue0
  t3 := Tryz.underlying3
  a3 := Tryz.isAgg3
  z3 := Tryz.sizeOf3
  v3 := Tryz.zeroValue3
  t4 := Tryz.underlying4
  a4 := Tryz.isAgg4
  z4 := Tryz.sizeOf4
  v4 := Tryz.zeroValue4
  t5 := Tryz.underlying5
  a5 := Tryz.isAgg5
  z5 := Tryz.sizeOf5
  v5 := Tryz.zeroValue5
  t9 := Tryz.underlying9
  a9 := Tryz.isAgg9
  z9 := Tryz.sizeOf9
  v9 := Tryz.zeroValue9
  t26 := Tryz.underlying28
  a26 := Tryz.isAgg28
  z26 := Tryz.sizeOf28
  v26 := Tryz.zeroValue28
  t27 := Tryz.underlying28
  a27 := Tryz.isAgg28
  z27 := Tryz.sizeOf28
  v27 := Tryz.zeroValue28
  t29 := Tryz.underlying9
  a29 := Tryz.isAgg9
  z29 := Tryz.sizeOf9
  v29 := Tryz.zeroValue9
  t32 := Tryz.underlying100
  a32 := Tryz.isAgg100
  z32 := Tryz.sizeOf100
  v32 := Tryz.zeroValue100
  t35 := Tryz.underlying201
  a35 := Tryz.isAgg201
  z35 := Tryz.sizeOf201
  v35 := Tryz.zeroValue201
  t36 := Tryz.underlying202
  a36 := Tryz.isAgg202
  z36 := Tryz.sizeOf202
  v36 := Tryz.zeroValue202
  t41 := Tryz.underlying128
  a41 := Tryz.isAgg128
  z41 := Tryz.sizeOf128
  v41 := Tryz.zeroValue128
  t44 := Tryz.underlying101
  a44 := Tryz.isAgg101
  z44 := Tryz.sizeOf101
  v44 := Tryz.zeroValue101
  t46 := Tryz.underlying165
  a46 := Tryz.isAgg165
  z46 := Tryz.sizeOf165
  v46 := Tryz.zeroValue165
  t53 := Tryz.underlying212
  a53 := Tryz.isAgg212
  z53 := Tryz.sizeOf212
  v53 := Tryz.zeroValue212
  t57 := Tryz.underlying216
  a57 := Tryz.isAgg216
  z57 := Tryz.sizeOf216
  v57 := Tryz.zeroValue216
  t63 := Tryz.underlying224
  a63 := Tryz.isAgg224
  z63 := Tryz.sizeOf224
  v63 := Tryz.zeroValue224
  t64 := Tryz.underlying88
  a64 := Tryz.isAgg88
  z64 := Tryz.sizeOf88
  v64 := Tryz.zeroValue88 }
def Tryz.keys103_ren : Go.Shelf.Ren := ⟨fun | 7 => 103 | 10 => 126 | n => n, fun | 23 => 104 | 26 => 9 | 3 => 127 | 28 => 149 | 0 => 0 | 27 => 148 | 33 => 87 | 4 => 4 | n => n, fun | n => n⟩
theorem Tryz.keys103 : Go.Proofs.SlLaysZ.n7 Tryz.prog Tryz.keys103_ren := {
  mixed := by kernel_rfl
  f7 := ⟨Tryz.f103.name, by decide, Tryz.func103.trans (congrArg some (by kernel_rfl))⟩
  f10 := ⟨Tryz.f126.name, by decide, Tryz.func126.trans (congrArg some (by kernel_rfl))⟩
  t0 := Tryz.underlying0
  a0 := Tryz.isAgg0
  z0 := Tryz.sizeOf0
  v0 := Tryz.zeroValue0
  t4 := Tryz.underlying4
  a4 := Tryz.isAgg4
  z4 := Tryz.sizeOf4
  v4 := Tryz.zeroValue4
  t23 := Tryz.underlying104
  a23 := Tryz.isAgg104
  z23 := Tryz.sizeOf104
  v23 := Tryz.zeroValue104
  t26 := Tryz.underlying9
  a26 := Tryz.isAgg9
  z26 := Tryz.sizeOf9
  v26 := Tryz.zeroValue9
  t27 := Tryz.underlying148
  a27 := Tryz.isAgg148
  z27 := Tryz.sizeOf148
  v27 := Tryz.zeroValue148
  t28 := Tryz.underlying149
  a28 := Tryz.isAgg149
  z28 := Tryz.sizeOf149
  v28 := Tryz.zeroValue149
  t33 := Tryz.underlying87
  a33 := Tryz.isAgg87
  z33 := Tryz.sizeOf87
  v33 := Tryz.zeroValue87 }
def Tryz.keys104_ren : Go.Shelf.Ren := ⟨fun | 7 => 104 | 10 => 127 | n => n, fun | 23 => 107 | 26 => 9 | 3 => 132 | 28 => 149 | 0 => 0 | 27 => 148 | 33 => 87 | 4 => 4 | n => n, fun | n => n⟩
theorem Tryz.keys104 : Go.Proofs.SlLaysZ.n7 Tryz.prog Tryz.keys104_ren := {
  mixed := by kernel_rfl
  f7 := ⟨Tryz.f104.name, by decide, Tryz.func104.trans (congrArg some (by kernel_rfl))⟩
  f10 := ⟨Tryz.f127.name, by decide, Tryz.func127.trans (congrArg some (by kernel_rfl))⟩
  t0 := Tryz.underlying0
  a0 := Tryz.isAgg0
  z0 := Tryz.sizeOf0
  v0 := Tryz.zeroValue0
  t4 := Tryz.underlying4
  a4 := Tryz.isAgg4
  z4 := Tryz.sizeOf4
  v4 := Tryz.zeroValue4
  t23 := Tryz.underlying107
  a23 := Tryz.isAgg107
  z23 := Tryz.sizeOf107
  v23 := Tryz.zeroValue107
  t26 := Tryz.underlying9
  a26 := Tryz.isAgg9
  z26 := Tryz.sizeOf9
  v26 := Tryz.zeroValue9
  t27 := Tryz.underlying148
  a27 := Tryz.isAgg148
  z27 := Tryz.sizeOf148
  v27 := Tryz.zeroValue148
  t28 := Tryz.underlying149
  a28 := Tryz.isAgg149
  z28 := Tryz.sizeOf149
  v28 := Tryz.zeroValue149
  t33 := Tryz.underlying87
  a33 := Tryz.isAgg87
  z33 := Tryz.sizeOf87
  v33 := Tryz.zeroValue87 }
open Go.RowKit Go.Maps Go.Sort Go.Shelf
/-- slices.Sort's two contracts at this dump, at the fence that asks nothing. -/
theorem Tryz.sorts85 (m : Nat) : AnyZ.SortsIn Tryz.prog Tryz.sorted85_ren Fence.wide m :=
  ⟨fun blk off cap ss W hH hblk hsz => callsIn_wide.2 (AnyM.slices_Sort_string Tryz.sort106 blk off cap ss W hH hblk hsz),
   fun p cap W => callsIn_wide.2 (AnyM.slices_Sort_string_none Tryz.sort106 p cap W)⟩

/-- **maps.Keys[map[string]bool,string,bool], at whatever map, the nil one too:** a function value over ONE NEW BLOCK, which holds the map. -/
theorem Tryz.maps_Keys_86 (mb : Option Nat) (W : World) : CallsIn Fence.wide 5 Tryz.prog 86 #[.map mb] W fun e w' => e = .returned (.func (.func 107) #[] #[.pointer (some ⟨W.heap.size, 0, none⟩)]) ∧ w' = W.alloc (.cells #[.map mb] 59) :=
  AnyZ.keys_in Tryz.keys86 Fence.wide 5 trivial rfl mb W

set_option maxHeartbeats 1000000 in
/-- **slices.Sorted[string] AT WHAT maps.Keys[map[string]bool,string,bool] HANDED BACK FOR A MAP THAT IS NOT nil** ('w': the world AHEAD of maps.Keys' call): A NEW SLICE THAT HOLDS THE MAP's KEYS, SORTED; nil just where it has none; nothing that lay before has turned. -/
theorem Tryz.slices_Sorted_keys_85_86 {H : Type} (b nn : Nat) (D0 : DataW H) (R : Value → Option (DataW H × List MemPlace)) (w : World) (hown : w.ownsMap Tryz.prog 9 R b nn D0) (hmax : Maps.size D0 ≤ maxLen) (hbytes : Maps.size D0 * 16 ≤ 140737488355328) :
    CallsIn Fence.wide 5 Tryz.prog 85 #[.func (.func 107) #[] #[.pointer (some ⟨w.heap.size, 0, none⟩)]] (w.alloc (.cells #[.map (some b)] 59)) fun e w' => ∃ (v : Value) (ss : List (List UInt8)), e = .returned v ∧ ss.Perm (strKeys D0) ∧
      w'.ownsRow (w.alloc (.cells #[.map (some b)] 59)).heap.size 9 1 v ss.length ((ss.mergeSort (fun x y => decide (x ≤ y))).map encStr) ∧ (v = .slice none 0 0 ↔ ss = []) ∧ Below (w.alloc (.cells #[.map (some b)] 59)).heap.size (w.alloc (.cells #[.map (some b)] 59)) w' := by
  have hbl := hown.lt
  have hseq : SeqGives Fence.wide 2 Tryz.prog 107 #[.pointer (some ⟨w.heap.size, 0, none⟩)] encStr (fun ss => ss.Perm (strKeys D0)) (Maps.size D0) (w.alloc (.cells #[.map (some b)] 59)) :=
    AnyZ.keys_gives (ρ := Tryz.keys86_ren) { Tryz.keys86 with } Fence.wide _ trivial rfl (by omega) w.heap.size b nn D0 _ (by simp) (by simp) (by
      obtain ⟨es, clock, hb, Ft, hs, hD⟩ := hown
      exact ⟨es, clock, (Below.heap_alloc _ _ b hbl).trans hb, Ft, hs, hD⟩)
  exact AnyZ.sorted_in Tryz.sorted85 Fence.wide 5 trivial trivial trivial trivial rfl (by omega) (Tryz.sorts85 _) (enters_of Tryz.func106 (by kernel_rfl) rfl) 107 #[.pointer (some ⟨w.heap.size, 0, none⟩)] trivial (enters_of Tryz.func107 (by kernel_rfl) rfl) _ _ hmax hbytes _ hseq

/-- **maps.Keys[map[string]cicerone/clock.source,string,cicerone/clock.source], at whatever map, the nil one too:** a function value over ONE NEW BLOCK, which holds the map. -/
theorem Tryz.maps_Keys_103 (mb : Option Nat) (W : World) : CallsIn Fence.wide 5 Tryz.prog 103 #[.map mb] W fun e w' => e = .returned (.func (.func 126) #[] #[.pointer (some ⟨W.heap.size, 0, none⟩)]) ∧ w' = W.alloc (.cells #[.map mb] 104) :=
  AnyZ.keys_in Tryz.keys103 Fence.wide 5 trivial rfl mb W

set_option maxHeartbeats 1000000 in
/-- **slices.Sorted[string] AT WHAT maps.Keys[map[string]cicerone/clock.source,string,cicerone/clock.source] HANDED BACK FOR A MAP THAT IS NOT nil** ('w': the world AHEAD of maps.Keys' call): A NEW SLICE THAT HOLDS THE MAP's KEYS, SORTED; nil just where it has none; nothing that lay before has turned. -/
theorem Tryz.slices_Sorted_keys_85_103 {H : Type} (b nn : Nat) (D0 : DataW H) (R : Value → Option (DataW H × List MemPlace)) (w : World) (hown : w.ownsMap Tryz.prog 9 R b nn D0) (hmax : Maps.size D0 ≤ maxLen) (hbytes : Maps.size D0 * 16 ≤ 140737488355328) :
    CallsIn Fence.wide 5 Tryz.prog 85 #[.func (.func 126) #[] #[.pointer (some ⟨w.heap.size, 0, none⟩)]] (w.alloc (.cells #[.map (some b)] 104)) fun e w' => ∃ (v : Value) (ss : List (List UInt8)), e = .returned v ∧ ss.Perm (strKeys D0) ∧
      w'.ownsRow (w.alloc (.cells #[.map (some b)] 104)).heap.size 9 1 v ss.length ((ss.mergeSort (fun x y => decide (x ≤ y))).map encStr) ∧ (v = .slice none 0 0 ↔ ss = []) ∧ Below (w.alloc (.cells #[.map (some b)] 104)).heap.size (w.alloc (.cells #[.map (some b)] 104)) w' := by
  have hbl := hown.lt
  have hseq : SeqGives Fence.wide 2 Tryz.prog 126 #[.pointer (some ⟨w.heap.size, 0, none⟩)] encStr (fun ss => ss.Perm (strKeys D0)) (Maps.size D0) (w.alloc (.cells #[.map (some b)] 104)) :=
    AnyZ.keys_gives (ρ := Tryz.keys103_ren) { Tryz.keys103 with } Fence.wide _ trivial rfl (by omega) w.heap.size b nn D0 _ (by simp) (by simp) (by
      obtain ⟨es, clock, hb, Ft, hs, hD⟩ := hown
      exact ⟨es, clock, (Below.heap_alloc _ _ b hbl).trans hb, Ft, hs, hD⟩)
  exact AnyZ.sorted_in Tryz.sorted85 Fence.wide 5 trivial trivial trivial trivial rfl (by omega) (Tryz.sorts85 _) (enters_of Tryz.func106 (by kernel_rfl) rfl) 126 #[.pointer (some ⟨w.heap.size, 0, none⟩)] trivial (enters_of Tryz.func126 (by kernel_rfl) rfl) _ _ hmax hbytes _ hseq

/-- **maps.Keys[map[string][]cicerone/dedupe.Range,string,[]cicerone/dedupe.Range], at whatever map, the nil one too:** a function value over ONE NEW BLOCK, which holds the map. -/
theorem Tryz.maps_Keys_104 (mb : Option Nat) (W : World) : CallsIn Fence.wide 5 Tryz.prog 104 #[.map mb] W fun e w' => e = .returned (.func (.func 127) #[] #[.pointer (some ⟨W.heap.size, 0, none⟩)]) ∧ w' = W.alloc (.cells #[.map mb] 107) :=
  AnyZ.keys_in Tryz.keys104 Fence.wide 5 trivial rfl mb W

set_option maxHeartbeats 1000000 in
/-- **slices.Sorted[string] AT WHAT maps.Keys[map[string][]cicerone/dedupe.Range,string,[]cicerone/dedupe.Range] HANDED BACK FOR A MAP THAT IS NOT nil** ('w': the world AHEAD of maps.Keys' call): A NEW SLICE THAT HOLDS THE MAP's KEYS, SORTED; nil just where it has none; nothing that lay before has turned. -/
theorem Tryz.slices_Sorted_keys_85_104 {H : Type} (b nn : Nat) (D0 : DataW H) (R : Value → Option (DataW H × List MemPlace)) (w : World) (hown : w.ownsMap Tryz.prog 9 R b nn D0) (hmax : Maps.size D0 ≤ maxLen) (hbytes : Maps.size D0 * 16 ≤ 140737488355328) :
    CallsIn Fence.wide 5 Tryz.prog 85 #[.func (.func 127) #[] #[.pointer (some ⟨w.heap.size, 0, none⟩)]] (w.alloc (.cells #[.map (some b)] 107)) fun e w' => ∃ (v : Value) (ss : List (List UInt8)), e = .returned v ∧ ss.Perm (strKeys D0) ∧
      w'.ownsRow (w.alloc (.cells #[.map (some b)] 107)).heap.size 9 1 v ss.length ((ss.mergeSort (fun x y => decide (x ≤ y))).map encStr) ∧ (v = .slice none 0 0 ↔ ss = []) ∧ Below (w.alloc (.cells #[.map (some b)] 107)).heap.size (w.alloc (.cells #[.map (some b)] 107)) w' := by
  have hbl := hown.lt
  have hseq : SeqGives Fence.wide 2 Tryz.prog 127 #[.pointer (some ⟨w.heap.size, 0, none⟩)] encStr (fun ss => ss.Perm (strKeys D0)) (Maps.size D0) (w.alloc (.cells #[.map (some b)] 107)) :=
    AnyZ.keys_gives (ρ := Tryz.keys104_ren) { Tryz.keys104 with } Fence.wide _ trivial rfl (by omega) w.heap.size b nn D0 _ (by simp) (by simp) (by
      obtain ⟨es, clock, hb, Ft, hs, hD⟩ := hown
      exact ⟨es, clock, (Below.heap_alloc _ _ b hbl).trans hb, Ft, hs, hD⟩)
  exact AnyZ.sorted_in Tryz.sorted85 Fence.wide 5 trivial trivial trivial trivial rfl (by omega) (Tryz.sorts85 _) (enters_of Tryz.func106 (by kernel_rfl) rfl) 127 #[.pointer (some ⟨w.heap.size, 0, none⟩)] trivial (enters_of Tryz.func127 (by kernel_rfl) rfl) _ _ hmax hbytes _ hseq

end Go.Proofs
namespace Go.Proofs.YtdjoaboalknlkaaGreatDoor
open Go.RowKit Go.Maps Go.Sort Go.Shelf

/-- a rising row of texts that holds just these -/
def Rising (r ks : List (List UInt8)) : Prop := r.Pairwise (· < ·) ∧ ∀ x, x ∈ r ↔ x ∈ ks

theorem lt_irr (x : List UInt8) : ¬ x < x := List.lt_irrefl x
theorem lt_asy {x y : List UInt8} (h : x < y) (h' : y < x) : False := lt_irr x (List.lt_trans h h')

theorem rising_unique {r r' ks : List (List UInt8)} (h : Rising r ks) (h' : Rising r' ks) : r = r' := by
  have key : ∀ (r r' : List (List UInt8)), r.Pairwise (· < ·) → r'.Pairwise (· < ·) → (∀ x, x ∈ r ↔ x ∈ r') → r = r' := by
    intro r
    induction r with
    | nil => intro r' _ _ hm; cases r' with
      | nil => rfl
      | cons a l => exact absurd ((hm a).2 List.mem_cons_self) (by simp)
    | cons a l ih =>
      intro r' h1 h2 hm
      cases r' with
      | nil => exact absurd ((hm a).1 List.mem_cons_self) (by simp)
      | cons b l' =>
        have h1' := List.pairwise_cons.1 h1
        have h2' := List.pairwise_cons.1 h2
        have hab : a = b := by
          rcases List.mem_cons.1 ((hm a).1 List.mem_cons_self) with e | e
          · exact e
          · rcases List.mem_cons.1 ((hm b).2 List.mem_cons_self) with e' | e'
            · exact e'.symm
            · exact (lt_asy (h1'.1 b e') (h2'.1 a e)).elim
        subst hab
        congr 1
        refine ih l' h1'.2 h2'.2 fun x => ⟨fun hx => ?_, fun hx => ?_⟩
        · rcases List.mem_cons.1 ((hm x).1 (List.mem_cons_of_mem _ hx)) with e | e
          · subst e; exact (lt_irr x (h1'.1 x hx)).elim
          · exact e
        · rcases List.mem_cons.1 ((hm x).2 (List.mem_cons_of_mem _ hx)) with e | e
          · subst e; exact (lt_irr x (h2'.1 x hx)).elim
          · exact e
  exact key r r' h.1 h'.1 fun x => (h.2 x).trans (h'.2 x).symm

theorem rising_sort {ss ks : List (List UInt8)} (hnd : ss.Nodup) (hm : ∀ x, x ∈ ss ↔ x ∈ ks) : Rising (ss.mergeSort (fun x y => decide (x ≤ y))) ks := by
  have hp := List.mergeSort_perm ss (fun x y => decide (x ≤ y))
  have hs := List.pairwise_mergeSort (le := fun x y : List UInt8 => decide (x ≤ y)) (fun a b c h1 h2 => by simp at *; exact List.le_trans h1 h2) (fun a b => by simp; exact List.le_total a b) ss
  have hn : (ss.mergeSort (fun x y => decide (x ≤ y))).Nodup := hp.nodup_iff.2 hnd
  refine ⟨?_, fun x => hp.mem_iff.trans (hm x)⟩
  refine List.pairwise_iff_getElem.2 fun i j hi hj hij => ?_
  have h1 := List.pairwise_iff_getElem.1 hs i j hi hj hij
  have h2 := List.pairwise_iff_getElem.1 hn i j hi hj hij
  generalize (ss.mergeSort (fun x y => decide (x ≤ y)))[i] = a at *
  generalize (ss.mergeSort (fun x y => decide (x ≤ y)))[j] = b at *
  have h1' : a ≤ b := by simpa using h1
  rcases Decidable.em (a < b) with h | h
  · exact h
  · exact absurd (List.le_antisymm h1' (by exact List.not_lt.1 h)) h2

theorem strKeys_mapD (r : Row Value) : strKeys (mapD r) = r.map (·.1) := by
  unfold mapD strKeys
  simp [Function.comp_def]
  intro a b _; rfl
theorem bb_lt {a b : List UInt8} (h : bytesBefore a b = true) : a < b := by
  have key : ∀ a b : List UInt8, Op.bytesLess a b = bytesBefore a b := fun a => by
    induction a with
    | nil => intro b; cases b <;> simp [Op.bytesLess, bytesBefore]
    | cons x a ih => intro b; cases b with
      | nil => simp [Op.bytesLess, bytesBefore]
      | cons y b => simp only [Op.bytesLess, bytesBefore, ih b]
  rw [← key, bytesLess_eq] at h
  exact of_decide_eq_true h
theorem keys_rising {α : Type} {m : Row α} (h : RowUp m) : Rising (m.map (·.1)) (m.map (·.1)) := ⟨List.pairwise_map.2 (h.imp fun h => bb_lt h), fun _ => Iff.rfl⟩
def SrcPost (w : World) (ks : List (List UInt8)) (e : Ending) (w' : World) : Prop := ∃ v, e = .returned v ∧ w'.ownsRow w.heap.size 9 1 v ks.length (ks.map encStr) ∧ Below w.heap.size w w'
end Go.Proofs.YtdjoaboalknlkaaGreatDoor
