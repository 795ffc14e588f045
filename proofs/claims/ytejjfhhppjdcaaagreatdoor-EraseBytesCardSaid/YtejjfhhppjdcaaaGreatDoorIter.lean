/-
  The contracts of slices.Sorted and maps.Keys at this dump, laid by the kit's programs, in plain declarations.
-/
import Derived.Shelf.SlGeneric
import Derived.Shelf.SlIter.Nil
import Derived.Shelf.SortM.Plain
import Derived.Shelf.SortM.SortNone
import Derived.Ground.GgzProg
import Derived.Ground.SlgmProg
import Derived.Test.YtejjfhhppjdcaaaGreatDoorProg
namespace Go.Proofs
open Go.Shelf
def Tryz.keys70_ren : Go.Shelf.Ren := ⟨fun | 7 => 70 | 10 => 108 | n => n, fun | 23 => 98 | 26 => 9 | 3 => 114 | 28 => 112 | 0 => 0 | 27 => 111 | 33 => 45 | 4 => 4 | n => n, fun | n => n⟩
theorem Tryz.keys70 : Go.Proofs.SlLaysZ.n7 Tryz.prog Tryz.keys70_ren := {
  mixed := by kernel_rfl
  f7 := ⟨Tryz.f70.name, by decide, Tryz.func70.trans (congrArg some (by kernel_rfl))⟩
  f10 := ⟨Tryz.f108.name, by decide, Tryz.func108.trans (congrArg some (by kernel_rfl))⟩
  t0 := Tryz.underlying0
  a0 := Tryz.isAgg0
  z0 := Tryz.sizeOf0
  v0 := Tryz.zeroValue0
  t4 := Tryz.underlying4
  a4 := Tryz.isAgg4
  z4 := Tryz.sizeOf4
  v4 := Tryz.zeroValue4
  t23 := Tryz.underlying98
  a23 := Tryz.isAgg98
  z23 := Tryz.sizeOf98
  v23 := Tryz.zeroValue98
  t26 := Tryz.underlying9
  a26 := Tryz.isAgg9
  z26 := Tryz.sizeOf9
  v26 := Tryz.zeroValue9
  t27 := Tryz.underlying111
  a27 := Tryz.isAgg111
  z27 := Tryz.sizeOf111
  v27 := Tryz.zeroValue111
  t28 := Tryz.underlying112
  a28 := Tryz.isAgg112
  z28 := Tryz.sizeOf112
  v28 := Tryz.zeroValue112
  t33 := Tryz.underlying45
  a33 := Tryz.isAgg45
  z33 := Tryz.sizeOf45
  v33 := Tryz.zeroValue45 }
def Tryz.sorted69_ren : Go.Shelf.Ren := ⟨fun | 6 => 69 | 8 => 106 | 9 => 107 | 11 => 135 | 13 => 137 | 12 => 136 | 23 => 160 | 24 => 161 | 14 => 151 | 15 => 152 | 16 => 153 | 17 => 154 | 18 => 155 | 19 => 156 | 20 => 157 | 21 => 158 | 22 => 159 | 25 => 168 | 26 => 169 | 27 => 170 | 28 => 171 | 29 => 172 | 30 => 173 | 31 => 185 | n => n, fun | 26 => 9 | 28 => 112 | 24 => 37 | 0 => 0 | 3 => 3 | 37 => 165 | 48 => 162 | 50 => 193 | 4 => 4 | 40 => 185 | 39 => 184 | 45 => 189 | 5 => 5 | 9 => 9 | 51 => 200 | 55 => 204 | 57 => 213 | 58 => 214 | 33 => 45 | n => n, fun | n => n⟩
theorem Tryz.sorted69 : Go.Proofs.SlLaysZ.n6 Tryz.prog Tryz.sorted69_ren := {
  mixed := by kernel_rfl
  f6 := ⟨Tryz.f69.name, by decide, Tryz.func69.trans (congrArg some (by kernel_rfl))⟩
  f8 := ⟨Tryz.f106.name, by decide, Tryz.func106.trans (congrArg some (by kernel_rfl))⟩
  f11 := ⟨Tryz.f135.name, by decide, Tryz.func135.trans (congrArg some (by kernel_rfl))⟩
  t0 := Tryz.underlying0
  a0 := Tryz.isAgg0
  z0 := Tryz.sizeOf0
  v0 := Tryz.zeroValue0
  t24 := Tryz.underlying37
  a24 := Tryz.isAgg37
  z24 := Tryz.sizeOf37
  v24 := Tryz.zeroValue37
  t26 := Tryz.underlying9
  a26 := Tryz.isAgg9
  z26 := Tryz.sizeOf9
  v26 := Tryz.zeroValue9
  t28 := Tryz.underlying112
  a28 := Tryz.isAgg112
  z28 := Tryz.sizeOf112
  v28 := Tryz.zeroValue112
  i26 := by kernel_rfl }
def Tryz.sort107_ren : Go.Shelf.Ren := ⟨fun | 6 => 107 | 8 => 137 | 9 => 136 | 19 => 160 | 20 => 161 | 21 => 151 | 22 => 152 | 23 => 153 | 24 => 154 | 25 => 155 | 26 => 156 | 27 => 157 | 28 => 158 | 29 => 159 | 36 => 168 | 31 => 169 | 32 => 170 | 37 => 171 | 38 => 172 | 39 => 173 | 41 => 185 | n => n, fun | 27 => 37 | 29 => 9 | 3 => 3 | 32 => 165 | 26 => 37 | 0 => 0 | 44 => 162 | 46 => 193 | 4 => 4 | 36 => 185 | 35 => 184 | 41 => 189 | 5 => 5 | 9 => 9 | 53 => 200 | 57 => 204 | 63 => 213 | 64 => 214 | n => n, fun | n => n⟩
theorem Tryz.sort107 : Go.Proofs.SlLaysM.n6 Tryz.prog Tryz.sort107_ren := {
  mixed := by kernel_rfl
  f6 := ⟨Tryz.f107.name, by decide, Tryz.func107.trans (congrArg some (by kernel_rfl))⟩
  f8 := Tryz.func137.trans (congrArg some (by kernel_rfl))
  f9 := ⟨Tryz.f136.name, by decide, Tryz.func136.trans (congrArg some (by kernel_rfl))⟩
  f19 := Tryz.func160.trans (congrArg some (by kernel_rfl))
  f20 := Tryz.func161.trans (congrArg some (by kernel_rfl))
  f21 := ⟨Tryz.f151.name, by decide, Tryz.func151.trans (congrArg some (by kernel_rfl))⟩
  f22 := ⟨Tryz.f152.name, by decide, Tryz.func152.trans (congrArg some (by kernel_rfl))⟩
  f23 := ⟨Tryz.f153.name, by decide, Tryz.func153.trans (congrArg some (by kernel_rfl))⟩
  f24 := ⟨Tryz.f154.name, by decide, Tryz.func154.trans (congrArg some (by kernel_rfl))⟩
  f25 := ⟨Tryz.f155.name, by decide, Tryz.func155.trans (congrArg some (by kernel_rfl))⟩
  f26 := ⟨Tryz.f156.name, by decide, Tryz.func156.trans (congrArg some (by kernel_rfl))⟩
  f27 := ⟨Tryz.f157.name, by decide, Tryz.func157.trans (congrArg some (by kernel_rfl))⟩
  f28 := ⟨Tryz.f158.name, by decide, Tryz.func158.trans (congrArg some (by kernel_rfl))⟩
  f29 := ⟨Tryz.f159.name, by decide, Tryz.func159.trans (congrArg some (by kernel_rfl))⟩
  f31 := Tryz.func169.trans (congrArg some (by kernel_rfl))
  f32 := Tryz.func170.trans (congrArg some (by kernel_rfl))
  f36 := ⟨Tryz.f168.name, by decide, Tryz.func168.trans (congrArg some (by kernel_rfl))⟩
  f37 := ⟨Tryz.f171.name, by decide, Tryz.func171.trans (congrArg some (by kernel_rfl))⟩
  f38 := ⟨Tryz.f172.name, by decide, Tryz.func172.trans (congrArg some (by kernel_rfl))⟩
  f39 := ⟨Tryz.f173.name, by decide, Tryz.func173.trans (congrArg some (by kernel_rfl))⟩
  f41 := ⟨Tryz.f185.name, by decide, Tryz.func185.trans (congrArg some (by kernel_rfl))⟩
  t0 := Tryz.underlying0
  a0 := Tryz.isAgg0
  z0 := Tryz.sizeOf0
  v0 := Tryz.zeroValue0
  t3 := Tryz.underlying3
  a3 := Tryz.isAgg3
  z3 := Tryz.sizeOf3
  v3 := Tryz.zeroValue3
  t4 := Tryz.underlying4
  a4 := Tryz.isAgg4
  z4 := Tryz.sizeOf4
  v4 := Tryz.zeroValue4
  t5 := Tryz.underlying5
  a5 := Tryz.isAgg5
  z5 := Tryz.sizeOf5
  v5 := Tryz.zeroValue5
  t9 := Tryz.underlying9
  a9 := Tryz.isAgg9
  z9 := Tryz.sizeOf9
  v9 := Tryz.zeroValue9
  t26 := Tryz.underlying37
  a26 := Tryz.isAgg37
  z26 := Tryz.sizeOf37
  v26 := Tryz.zeroValue37
  t27 := Tryz.underlying37
  a27 := Tryz.isAgg37
  z27 := Tryz.sizeOf37
  v27 := Tryz.zeroValue37
  t29 := Tryz.underlying9
  a29 := Tryz.isAgg9
  z29 := Tryz.sizeOf9
  v29 := Tryz.zeroValue9
  t32 := Tryz.underlying165
  a32 := Tryz.isAgg165
  z32 := Tryz.sizeOf165
  v32 := Tryz.zeroValue165
  t35 := Tryz.underlying184
  a35 := Tryz.isAgg184
  z35 := Tryz.sizeOf184
  v35 := Tryz.zeroValue184
  t36 := Tryz.underlying185
  a36 := Tryz.isAgg185
  z36 := Tryz.sizeOf185
  v36 := Tryz.zeroValue185
  t41 := Tryz.underlying189
  a41 := Tryz.isAgg189
  z41 := Tryz.sizeOf189
  v41 := Tryz.zeroValue189
  t44 := Tryz.underlying162
  a44 := Tryz.isAgg162
  z44 := Tryz.sizeOf162
  v44 := Tryz.zeroValue162
  t46 := Tryz.underlying193
  a46 := Tryz.isAgg193
  z46 := Tryz.sizeOf193
  v46 := Tryz.zeroValue193
  t53 := Tryz.underlying200
  a53 := Tryz.isAgg200
  z53 := Tryz.sizeOf200
  v53 := Tryz.zeroValue200
  t57 := Tryz.underlying204
  a57 := Tryz.isAgg204
  z57 := Tryz.sizeOf204
  v57 := Tryz.zeroValue204
  t63 := Tryz.underlying213
  a63 := Tryz.isAgg213
  z63 := Tryz.sizeOf213
  v63 := Tryz.zeroValue213
  t64 := Tryz.underlying214
  a64 := Tryz.isAgg214
  z64 := Tryz.sizeOf214
  v64 := Tryz.zeroValue214 }
def Tryz.keys115_ren : Go.Shelf.Ren := ⟨fun | 7 => 115 | 10 => 143 | n => n, fun | 23 => 134 | 26 => 9 | 3 => 4 | 28 => 112 | 0 => 0 | 27 => 111 | 33 => 45 | 4 => 4 | n => n, fun | n => n⟩
theorem Tryz.keys115 : Go.Proofs.SlLaysZ.n7 Tryz.prog Tryz.keys115_ren := {
  mixed := by kernel_rfl
  f7 := ⟨Tryz.f115.name, by decide, Tryz.func115.trans (congrArg some (by kernel_rfl))⟩
  f10 := ⟨Tryz.f143.name, by decide, Tryz.func143.trans (congrArg some (by kernel_rfl))⟩
  t0 := Tryz.underlying0
  a0 := Tryz.isAgg0
  z0 := Tryz.sizeOf0
  v0 := Tryz.zeroValue0
  t4 := Tryz.underlying4
  a4 := Tryz.isAgg4
  z4 := Tryz.sizeOf4
  v4 := Tryz.zeroValue4
  t23 := Tryz.underlying134
  a23 := Tryz.isAgg134
  z23 := Tryz.sizeOf134
  v23 := Tryz.zeroValue134
  t26 := Tryz.underlying9
  a26 := Tryz.isAgg9
  z26 := Tryz.sizeOf9
  v26 := Tryz.zeroValue9
  t27 := Tryz.underlying111
  a27 := Tryz.isAgg111
  z27 := Tryz.sizeOf111
  v27 := Tryz.zeroValue111
  t28 := Tryz.underlying112
  a28 := Tryz.isAgg112
  z28 := Tryz.sizeOf112
  v28 := Tryz.zeroValue112
  t33 := Tryz.underlying45
  a33 := Tryz.isAgg45
  z33 := Tryz.sizeOf45
  v33 := Tryz.zeroValue45 }
open Go.RowKit Go.Maps Go.Sort Go.Shelf
/-- slices.Sort's two contracts at this dump, at the fence that asks nothing. -/
theorem Tryz.sorts69 (m : Nat) : AnyZ.SortsIn Tryz.prog Tryz.sorted69_ren Fence.wide m :=
  ⟨fun blk off cap ss W hH hblk hsz => callsIn_wide.2 (AnyM.slices_Sort_string Tryz.sort107 blk off cap ss W hH hblk hsz),
   fun p cap W => callsIn_wide.2 (AnyM.slices_Sort_string_none Tryz.sort107 p cap W)⟩

/-- **maps.Keys[map[string]*cicerone/disk.file,string,*cicerone/disk.file], at whatever map, the nil one too:** a function value over ONE NEW BLOCK, which holds the map. -/
theorem Tryz.maps_Keys_70 (mb : Option Nat) (W : World) : CallsIn Fence.wide 5 Tryz.prog 70 #[.map mb] W fun e w' => e = .returned (.func (.func 108) #[] #[.pointer (some ⟨W.heap.size, 0, none⟩)]) ∧ w' = W.alloc (.cells #[.map mb] 98) :=
  AnyZ.keys_in Tryz.keys70 Fence.wide 5 trivial rfl mb W

set_option maxHeartbeats 1000000 in
/-- **slices.Sorted[string] AT WHAT maps.Keys[map[string]*cicerone/disk.file,string,*cicerone/disk.file] HANDED BACK FOR A MAP THAT IS NOT nil** ('w': the world AHEAD of maps.Keys' call): A NEW SLICE THAT HOLDS THE MAP's KEYS, SORTED; nil just where it has none; nothing that lay before has turned. -/
theorem Tryz.slices_Sorted_keys_69_70 {H : Type} (b nn : Nat) (D0 : DataW H) (R : Value → Option (DataW H × List MemPlace)) (w : World) (hown : w.ownsMap Tryz.prog 9 R b nn D0) (hmax : Maps.size D0 ≤ maxLen) (hbytes : Maps.size D0 * 16 ≤ 140737488355328) :
    CallsIn Fence.wide 5 Tryz.prog 69 #[.func (.func 108) #[] #[.pointer (some ⟨w.heap.size, 0, none⟩)]] (w.alloc (.cells #[.map (some b)] 98)) fun e w' => ∃ (v : Value) (ss : List (List UInt8)), e = .returned v ∧ ss.Perm (strKeys D0) ∧
      w'.ownsRow (w.alloc (.cells #[.map (some b)] 98)).heap.size 9 1 v ss.length ((ss.mergeSort (fun x y => decide (x ≤ y))).map encStr) ∧ (v = .slice none 0 0 ↔ ss = []) ∧ Below (w.alloc (.cells #[.map (some b)] 98)).heap.size (w.alloc (.cells #[.map (some b)] 98)) w' := by
  have hbl := hown.lt
  have hseq : SeqGives Fence.wide 2 Tryz.prog 108 #[.pointer (some ⟨w.heap.size, 0, none⟩)] encStr (fun ss => ss.Perm (strKeys D0)) (Maps.size D0) (w.alloc (.cells #[.map (some b)] 98)) :=
    AnyZ.keys_gives (ρ := Tryz.keys70_ren) { Tryz.keys70 with } Fence.wide _ trivial rfl (by omega) w.heap.size b nn D0 _ (by simp) (by simp) (by
      obtain ⟨es, clock, hb, Ft, hs, hD⟩ := hown
      exact ⟨es, clock, (Below.heap_alloc _ _ b hbl).trans hb, Ft, hs, hD⟩)
  exact AnyZ.sorted_in Tryz.sorted69 Fence.wide 5 trivial trivial trivial trivial rfl (by omega) (Tryz.sorts69 _) (enters_of Tryz.func107 (by kernel_rfl) rfl) 108 #[.pointer (some ⟨w.heap.size, 0, none⟩)] trivial (enters_of Tryz.func108 (by kernel_rfl) rfl) _ _ hmax hbytes _ hseq

set_option maxHeartbeats 1000000 in
/-- **.. AND FOR THE nil MAP: nil.** -/
theorem Tryz.slices_Sorted_keys_nil_69_70 (w : World) :
    CallsIn Fence.wide 5 Tryz.prog 69 #[.func (.func 108) #[] #[.pointer (some ⟨w.heap.size, 0, none⟩)]] (w.alloc (.cells #[.map none] 98)) fun e w' => ∃ (v : Value) (ss : List (List UInt8)), e = .returned v ∧ ss = [] ∧
      w'.ownsRow (w.alloc (.cells #[.map none] 98)).heap.size 9 1 v ss.length ((ss.mergeSort (fun x y => decide (x ≤ y))).map encStr) ∧ (v = .slice none 0 0 ↔ ss = []) ∧ Below (w.alloc (.cells #[.map none] 98)).heap.size (w.alloc (.cells #[.map none] 98)) w' := by
  have hseq : SeqGives Fence.wide 2 Tryz.prog 108 #[.pointer (some ⟨w.heap.size, 0, none⟩)] encStr (fun ss : List (List UInt8) => ss = []) 0 (w.alloc (.cells #[.map none] 98)) :=
    AnyZ.keys_gives_nil (ρ := Tryz.keys70_ren) { Tryz.keys70 with } Fence.wide _ trivial rfl w.heap.size _ (by simp) (by simp)
  exact AnyZ.sorted_in Tryz.sorted69 Fence.wide 5 trivial trivial trivial trivial rfl (by omega) (Tryz.sorts69 _) (enters_of Tryz.func107 (by kernel_rfl) rfl) 108 #[.pointer (some ⟨w.heap.size, 0, none⟩)] trivial (enters_of Tryz.func108 (by kernel_rfl) rfl) _ 0 (Nat.zero_le _) (by omega) _ hseq



/-- **maps.Keys[map[string]bool,string,bool], at whatever map, the nil one too:** a function value over ONE NEW BLOCK, which holds the map. -/
theorem Tryz.maps_Keys_115 (mb : Option Nat) (W : World) : CallsIn Fence.wide 5 Tryz.prog 115 #[.map mb] W fun e w' => e = .returned (.func (.func 143) #[] #[.pointer (some ⟨W.heap.size, 0, none⟩)]) ∧ w' = W.alloc (.cells #[.map mb] 134) :=
  AnyZ.keys_in Tryz.keys115 Fence.wide 5 trivial rfl mb W

set_option maxHeartbeats 1000000 in
/-- **slices.Sorted[string] AT WHAT maps.Keys[map[string]bool,string,bool] HANDED BACK FOR A MAP THAT IS NOT nil** ('w': the world AHEAD of maps.Keys' call): A NEW SLICE THAT HOLDS THE MAP's KEYS, SORTED; nil just where it has none; nothing that lay before has turned. -/
theorem Tryz.slices_Sorted_keys_69_115 {H : Type} (b nn : Nat) (D0 : DataW H) (R : Value → Option (DataW H × List MemPlace)) (w : World) (hown : w.ownsMap Tryz.prog 9 R b nn D0) (hmax : Maps.size D0 ≤ maxLen) (hbytes : Maps.size D0 * 16 ≤ 140737488355328) :
    CallsIn Fence.wide 5 Tryz.prog 69 #[.func (.func 143) #[] #[.pointer (some ⟨w.heap.size, 0, none⟩)]] (w.alloc (.cells #[.map (some b)] 134)) fun e w' => ∃ (v : Value) (ss : List (List UInt8)), e = .returned v ∧ ss.Perm (strKeys D0) ∧
      w'.ownsRow (w.alloc (.cells #[.map (some b)] 134)).heap.size 9 1 v ss.length ((ss.mergeSort (fun x y => decide (x ≤ y))).map encStr) ∧ (v = .slice none 0 0 ↔ ss = []) ∧ Below (w.alloc (.cells #[.map (some b)] 134)).heap.size (w.alloc (.cells #[.map (some b)] 134)) w' := by
  have hbl := hown.lt
  have hseq : SeqGives Fence.wide 2 Tryz.prog 143 #[.pointer (some ⟨w.heap.size, 0, none⟩)] encStr (fun ss => ss.Perm (strKeys D0)) (Maps.size D0) (w.alloc (.cells #[.map (some b)] 134)) :=
    AnyZ.keys_gives (ρ := Tryz.keys115_ren) { Tryz.keys115 with } Fence.wide _ trivial rfl (by omega) w.heap.size b nn D0 _ (by simp) (by simp) (by
      obtain ⟨es, clock, hb, Ft, hs, hD⟩ := hown
      exact ⟨es, clock, (Below.heap_alloc _ _ b hbl).trans hb, Ft, hs, hD⟩)
  exact AnyZ.sorted_in Tryz.sorted69 Fence.wide 5 trivial trivial trivial trivial rfl (by omega) (Tryz.sorts69 _) (enters_of Tryz.func107 (by kernel_rfl) rfl) 143 #[.pointer (some ⟨w.heap.size, 0, none⟩)] trivial (enters_of Tryz.func143 (by kernel_rfl) rfl) _ _ hmax hbytes _ hseq

set_option maxHeartbeats 1000000 in
/-- **.. AND FOR THE nil MAP: nil.** -/
theorem Tryz.slices_Sorted_keys_nil_69_115 (w : World) :
    CallsIn Fence.wide 5 Tryz.prog 69 #[.func (.func 143) #[] #[.pointer (some ⟨w.heap.size, 0, none⟩)]] (w.alloc (.cells #[.map none] 134)) fun e w' => ∃ (v : Value) (ss : List (List UInt8)), e = .returned v ∧ ss = [] ∧
      w'.ownsRow (w.alloc (.cells #[.map none] 134)).heap.size 9 1 v ss.length ((ss.mergeSort (fun x y => decide (x ≤ y))).map encStr) ∧ (v = .slice none 0 0 ↔ ss = []) ∧ Below (w.alloc (.cells #[.map none] 134)).heap.size (w.alloc (.cells #[.map none] 134)) w' := by
  have hseq : SeqGives Fence.wide 2 Tryz.prog 143 #[.pointer (some ⟨w.heap.size, 0, none⟩)] encStr (fun ss : List (List UInt8) => ss = []) 0 (w.alloc (.cells #[.map none] 134)) :=
    AnyZ.keys_gives_nil (ρ := Tryz.keys115_ren) { Tryz.keys115 with } Fence.wide _ trivial rfl w.heap.size _ (by simp) (by simp)
  exact AnyZ.sorted_in Tryz.sorted69 Fence.wide 5 trivial trivial trivial trivial rfl (by omega) (Tryz.sorts69 _) (enters_of Tryz.func107 (by kernel_rfl) rfl) 143 #[.pointer (some ⟨w.heap.size, 0, none⟩)] trivial (enters_of Tryz.func143 (by kernel_rfl) rfl) _ 0 (Nat.zero_le _) (by omega) _ hseq




end Go.Proofs
