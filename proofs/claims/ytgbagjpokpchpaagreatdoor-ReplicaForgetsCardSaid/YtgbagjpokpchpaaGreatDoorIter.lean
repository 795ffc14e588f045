/-
  The contracts of slices.Sorted and maps.Keys at this dump, laid by the kit's programs, in plain declarations.
-/
import Derived.Shelf.SlGeneric
import Derived.Shelf.SlIter.Nil
import Derived.Shelf.SortM.Plain
import Derived.Shelf.SortM.SortNone
import Derived.Ground.GgzProg
import Derived.Ground.SlgmProg
import Derived.Test.YtgbagjpokpchpaaGreatDoorProg
namespace Go.Proofs
open Go.Shelf
def Tryz.keys34_ren : Go.Shelf.Ren := ⟨fun | 7 => 34 | 10 => 62 | n => n, fun | 23 => 66 | 26 => 9 | 3 => 4 | 28 => 71 | 0 => 0 | 27 => 70 | 33 => 98 | 4 => 4 | n => n, fun | n => n⟩
theorem Tryz.keys34 : Go.Proofs.SlLaysZ.n7 Tryz.prog Tryz.keys34_ren := {
  mixed := by kernel_rfl
  f7 := ⟨Tryz.f34.name, by decide, Tryz.func34.trans (congrArg some (by kernel_rfl))⟩
  f10 := ⟨Tryz.f62.name, by decide, Tryz.func62.trans (congrArg some (by kernel_rfl))⟩
  t0 := Tryz.underlying0
  a0 := Tryz.isAgg0
  z0 := Tryz.sizeOf0
  v0 := Tryz.zeroValue0
  t4 := Tryz.underlying4
  a4 := Tryz.isAgg4
  z4 := Tryz.sizeOf4
  v4 := Tryz.zeroValue4
  t23 := Tryz.underlying66
  a23 := Tryz.isAgg66
  z23 := Tryz.sizeOf66
  v23 := Tryz.zeroValue66
  t26 := Tryz.underlying9
  a26 := Tryz.isAgg9
  z26 := Tryz.sizeOf9
  v26 := Tryz.zeroValue9
  t27 := Tryz.underlying70
  a27 := Tryz.isAgg70
  z27 := Tryz.sizeOf70
  v27 := Tryz.zeroValue70
  t28 := Tryz.underlying71
  a28 := Tryz.isAgg71
  z28 := Tryz.sizeOf71
  v28 := Tryz.zeroValue71
  t33 := Tryz.underlying98
  a33 := Tryz.isAgg98
  z33 := Tryz.sizeOf98
  v33 := Tryz.zeroValue98 }
def Tryz.sorted33_ren : Go.Shelf.Ren := ⟨fun | 6 => 33 | 8 => 60 | 9 => 61 | 11 => 104 | 13 => 106 | 12 => 105 | 23 => 155 | 24 => 156 | 14 => 146 | 15 => 147 | 16 => 148 | 17 => 149 | 18 => 150 | 19 => 151 | 20 => 152 | 21 => 153 | 22 => 154 | 25 => 188 | 26 => 189 | 27 => 190 | 28 => 191 | 29 => 192 | 30 => 193 | 31 => 214 | n => n, fun | 26 => 9 | 28 => 71 | 24 => 38 | 0 => 0 | 3 => 3 | 37 => 139 | 48 => 213 | 50 => 215 | 4 => 4 | 40 => 206 | 39 => 205 | 45 => 170 | 5 => 5 | 9 => 9 | 51 => 233 | 55 => 237 | 57 => 255 | 58 => 119 | 33 => 98 | n => n, fun | n => n⟩
theorem Tryz.sorted33 : Go.Proofs.SlLaysZ.n6 Tryz.prog Tryz.sorted33_ren := {
  mixed := by kernel_rfl
  f6 := ⟨Tryz.f33.name, by decide, Tryz.func33.trans (congrArg some (by kernel_rfl))⟩
  f8 := ⟨Tryz.f60.name, by decide, Tryz.func60.trans (congrArg some (by kernel_rfl))⟩
  f11 := ⟨Tryz.f104.name, by decide, Tryz.func104.trans (congrArg some (by kernel_rfl))⟩
  t0 := Tryz.underlying0
  a0 := Tryz.isAgg0
  z0 := Tryz.sizeOf0
  v0 := Tryz.zeroValue0
  t24 := Tryz.underlying38
  a24 := Tryz.isAgg38
  z24 := Tryz.sizeOf38
  v24 := Tryz.zeroValue38
  t26 := Tryz.underlying9
  a26 := Tryz.isAgg9
  z26 := Tryz.sizeOf9
  v26 := Tryz.zeroValue9
  t28 := Tryz.underlying71
  a28 := Tryz.isAgg71
  z28 := Tryz.sizeOf71
  v28 := Tryz.zeroValue71
  i26 := by kernel_rfl }
def Tryz.sort61_ren : Go.Shelf.Ren := ⟨fun | 6 => 61 | 8 => 106 | 9 => 105 | 19 => 155 | 20 => 156 | 21 => 146 | 22 => 147 | 23 => 148 | 24 => 149 | 25 => 150 | 26 => 151 | 27 => 152 | 28 => 153 | 29 => 154 | 36 => 188 | 31 => 189 | 32 => 190 | 37 => 191 | 38 => 192 | 39 => 193 | 41 => 214 | n => n, fun | 27 => 38 | 29 => 9 | 3 => 3 | 32 => 139 | 26 => 38 | 0 => 0 | 44 => 213 | 46 => 215 | 4 => 4 | 36 => 206 | 35 => 205 | 41 => 170 | 5 => 5 | 9 => 9 | 53 => 233 | 57 => 237 | 63 => 255 | 64 => 119 | n => n, fun | n => n⟩
theorem Tryz.sort61 : Go.Proofs.SlLaysM.n6 Tryz.prog Tryz.sort61_ren := {
  mixed := by kernel_rfl
  f6 := ⟨Tryz.f61.name, by decide, Tryz.func61.trans (congrArg some (by kernel_rfl))⟩
  f8 := Tryz.func106.trans (congrArg some (by kernel_rfl))
  f9 := ⟨Tryz.f105.name, by decide, Tryz.func105.trans (congrArg some (by kernel_rfl))⟩
  f19 := Tryz.func155.trans (congrArg some (by kernel_rfl))
  f20 := Tryz.func156.trans (congrArg some (by kernel_rfl))
  f21 := ⟨Tryz.f146.name, by decide, Tryz.func146.trans (congrArg some (by kernel_rfl))⟩
  f22 := ⟨Tryz.f147.name, by decide, Tryz.func147.trans (congrArg some (by kernel_rfl))⟩
  f23 := ⟨Tryz.f148.name, by decide, Tryz.func148.trans (congrArg some (by kernel_rfl))⟩
  f24 := ⟨Tryz.f149.name, by decide, Tryz.func149.trans (congrArg some (by kernel_rfl))⟩
  f25 := ⟨Tryz.f150.name, by decide, Tryz.func150.trans (congrArg some (by kernel_rfl))⟩
  f26 := ⟨Tryz.f151.name, by decide, Tryz.func151.trans (congrArg some (by kernel_rfl))⟩
  f27 := ⟨Tryz.f152.name, by decide, Tryz.func152.trans (congrArg some (by kernel_rfl))⟩
  f28 := ⟨Tryz.f153.name, by decide, Tryz.func153.trans (congrArg some (by kernel_rfl))⟩
  f29 := ⟨Tryz.f154.name, by decide, Tryz.func154.trans (congrArg some (by kernel_rfl))⟩
  f31 := Tryz.func189.trans (congrArg some (by kernel_rfl))
  f32 := Tryz.func190.trans (congrArg some (by kernel_rfl))
  f36 := ⟨Tryz.f188.name, by decide, Tryz.func188.trans (congrArg some (by kernel_rfl))⟩
  f37 := ⟨Tryz.f191.name, by decide, Tryz.func191.trans (congrArg some (by kernel_rfl))⟩
  f38 := ⟨Tryz.f192.name, by decide, Tryz.func192.trans (congrArg some (by kernel_rfl))⟩
  f39 := ⟨Tryz.f193.name, by decide, Tryz.func193.trans (congrArg some (by kernel_rfl))⟩
  f41 := ⟨Tryz.f214.name, by decide, Tryz.func214.trans (congrArg some (by kernel_rfl))⟩
  t0 := Tryz.underlying0
  a0 := Tryz.isAgg0
  z0 := Tryz.sizeOf0
  v0 := Tryz.zeroValue0
  t3 := Tryz.underlying3
  a3 := Tryz.isAgg3
  z3 := Tryz.sizeOf3
  v3 := Tryz.zeroValue3
  t4 := Tryz.underlying4
  a4 := Tryz.isAgg4
  z4 := Tryz.sizeOf4
  v4 := Tryz.zeroValue4
  t5 := Tryz.underlying5
  a5 := Tryz.isAgg5
  z5 := Tryz.sizeOf5
  v5 := Tryz.zeroValue5
  t9 := Tryz.underlying9
  a9 := Tryz.isAgg9
  z9 := Tryz.sizeOf9
  v9 := Tryz.zeroValue9
  t26 := Tryz.underlying38
  a26 := Tryz.isAgg38
  z26 := Tryz.sizeOf38
  v26 := Tryz.zeroValue38
  t27 := Tryz.underlying38
  a27 := Tryz.isAgg38
  z27 := Tryz.sizeOf38
  v27 := Tryz.zeroValue38
  t29 := Tryz.underlying9
  a29 := Tryz.isAgg9
  z29 := Tryz.sizeOf9
  v29 := Tryz.zeroValue9
  t32 := Tryz.underlying139
  a32 := Tryz.isAgg139
  z32 := Tryz.sizeOf139
  v32 := Tryz.zeroValue139
  t35 := Tryz.underlying205
  a35 := Tryz.isAgg205
  z35 := Tryz.sizeOf205
  v35 := Tryz.zeroValue205
  t36 := Tryz.underlying206
  a36 := Tryz.isAgg206
  z36 := Tryz.sizeOf206
  v36 := Tryz.zeroValue206
  t41 := Tryz.underlying170
  a41 := Tryz.isAgg170
  z41 := Tryz.sizeOf170
  v41 := Tryz.zeroValue170
  t44 := Tryz.underlying213
  a44 := Tryz.isAgg213
  z44 := Tryz.sizeOf213
  v44 := Tryz.zeroValue213
  t46 := Tryz.underlying215
  a46 := Tryz.isAgg215
  z46 := Tryz.sizeOf215
  v46 := Tryz.zeroValue215
  t53 := Tryz.underlying233
  a53 := Tryz.isAgg233
  z53 := Tryz.sizeOf233
  v53 := Tryz.zeroValue233
  t57 := Tryz.underlying237
  a57 := Tryz.isAgg237
  z57 := Tryz.sizeOf237
  v57 := Tryz.zeroValue237
  t63 := Tryz.underlying255
  a63 := Tryz.isAgg255
  z63 := Tryz.sizeOf255
  v63 := Tryz.zeroValue255
  t64 := Tryz.underlying119
  a64 := Tryz.isAgg119
  z64 := Tryz.sizeOf119
  v64 := Tryz.zeroValue119 }
def Tryz.keys124_ren : Go.Shelf.Ren := ⟨fun | 7 => 124 | 10 => 170 | n => n, fun | 23 => 124 | 26 => 9 | 3 => 127 | 28 => 71 | 0 => 0 | 27 => 70 | 33 => 98 | 4 => 4 | n => n, fun | n => n⟩
theorem Tryz.keys124 : Go.Proofs.SlLaysZ.n7 Tryz.prog Tryz.keys124_ren := {
  mixed := by kernel_rfl
  f7 := ⟨Tryz.f124.name, by decide, Tryz.func124.trans (congrArg some (by kernel_rfl))⟩
  f10 := ⟨Tryz.f170.name, by decide, Tryz.func170.trans (congrArg some (by kernel_rfl))⟩
  t0 := Tryz.underlying0
  a0 := Tryz.isAgg0
  z0 := Tryz.sizeOf0
  v0 := Tryz.zeroValue0
  t4 := Tryz.underlying4
  a4 := Tryz.isAgg4
  z4 := Tryz.sizeOf4
  v4 := Tryz.zeroValue4
  t23 := Tryz.underlying124
  a23 := Tryz.isAgg124
  z23 := Tryz.sizeOf124
  v23 := Tryz.zeroValue124
  t26 := Tryz.underlying9
  a26 := Tryz.isAgg9
  z26 := Tryz.sizeOf9
  v26 := Tryz.zeroValue9
  t27 := Tryz.underlying70
  a27 := Tryz.isAgg70
  z27 := Tryz.sizeOf70
  v27 := Tryz.zeroValue70
  t28 := Tryz.underlying71
  a28 := Tryz.isAgg71
  z28 := Tryz.sizeOf71
  v28 := Tryz.zeroValue71
  t33 := Tryz.underlying98
  a33 := Tryz.isAgg98
  z33 := Tryz.sizeOf98
  v33 := Tryz.zeroValue98 }
def Tryz.keys139_ren : Go.Shelf.Ren := ⟨fun | 7 => 139 | 10 => 179 | n => n, fun | 23 => 95 | 26 => 9 | 3 => 143 | 28 => 71 | 0 => 0 | 27 => 70 | 33 => 98 | 4 => 4 | n => n, fun | n => n⟩
theorem Tryz.keys139 : Go.Proofs.SlLaysZ.n7 Tryz.prog Tryz.keys139_ren := {
  mixed := by kernel_rfl
  f7 := ⟨Tryz.f139.name, by decide, Tryz.func139.trans (congrArg some (by kernel_rfl))⟩
  f10 := ⟨Tryz.f179.name, by decide, Tryz.func179.trans (congrArg some (by kernel_rfl))⟩
  t0 := Tryz.underlying0
  a0 := Tryz.isAgg0
  z0 := Tryz.sizeOf0
  v0 := Tryz.zeroValue0
  t4 := Tryz.underlying4
  a4 := Tryz.isAgg4
  z4 := Tryz.sizeOf4
  v4 := Tryz.zeroValue4
  t23 := Tryz.underlying95
  a23 := Tryz.isAgg95
  z23 := Tryz.sizeOf95
  v23 := Tryz.zeroValue95
  t26 := Tryz.underlying9
  a26 := Tryz.isAgg9
  z26 := Tryz.sizeOf9
  v26 := Tryz.zeroValue9
  t27 := Tryz.underlying70
  a27 := Tryz.isAgg70
  z27 := Tryz.sizeOf70
  v27 := Tryz.zeroValue70
  t28 := Tryz.underlying71
  a28 := Tryz.isAgg71
  z28 := Tryz.sizeOf71
  v28 := Tryz.zeroValue71
  t33 := Tryz.underlying98
  a33 := Tryz.isAgg98
  z33 := Tryz.sizeOf98
  v33 := Tryz.zeroValue98 }
def Tryz.keys166_ren : Go.Shelf.Ren := ⟨fun | 7 => 166 | 10 => 204 | n => n, fun | 23 => 130 | 26 => 9 | 3 => 135 | 28 => 71 | 0 => 0 | 27 => 70 | 33 => 98 | 4 => 4 | n => n, fun | n => n⟩
theorem Tryz.keys166 : Go.Proofs.SlLaysZ.n7 Tryz.prog Tryz.keys166_ren := {
  mixed := by kernel_rfl
  f7 := ⟨Tryz.f166.name, by decide, Tryz.func166.trans (congrArg some (by kernel_rfl))⟩
  f10 := ⟨Tryz.f204.name, by decide, Tryz.func204.trans (congrArg some (by kernel_rfl))⟩
  t0 := Tryz.underlying0
  a0 := Tryz.isAgg0
  z0 := Tryz.sizeOf0
  v0 := Tryz.zeroValue0
  t4 := Tryz.underlying4
  a4 := Tryz.isAgg4
  z4 := Tryz.sizeOf4
  v4 := Tryz.zeroValue4
  t23 := Tryz.underlying130
  a23 := Tryz.isAgg130
  z23 := Tryz.sizeOf130
  v23 := Tryz.zeroValue130
  t26 := Tryz.underlying9
  a26 := Tryz.isAgg9
  z26 := Tryz.sizeOf9
  v26 := Tryz.zeroValue9
  t27 := Tryz.underlying70
  a27 := Tryz.isAgg70
  z27 := Tryz.sizeOf70
  v27 := Tryz.zeroValue70
  t28 := Tryz.underlying71
  a28 := Tryz.isAgg71
  z28 := Tryz.sizeOf71
  v28 := Tryz.zeroValue71
  t33 := Tryz.underlying98
  a33 := Tryz.isAgg98
  z33 := Tryz.sizeOf98
  v33 := Tryz.zeroValue98 }
open Go.RowKit Go.Maps Go.Sort Go.Shelf
/-- slices.Sort's two contracts at this dump, at the fence that asks nothing. -/
theorem Tryz.sorts33 (m : Nat) : AnyZ.SortsIn Tryz.prog Tryz.sorted33_ren Fence.wide m :=
  ⟨fun blk off cap ss W hH hblk hsz => callsIn_wide.2 (AnyM.slices_Sort_string Tryz.sort61 blk off cap ss W hH hblk hsz),
   fun p cap W => callsIn_wide.2 (AnyM.slices_Sort_string_none Tryz.sort61 p cap W)⟩

/-- **maps.Keys[map[string]bool,string,bool], at whatever map, the nil one too:** a function value over ONE NEW BLOCK, which holds the map. -/
theorem Tryz.maps_Keys_34 (mb : Option Nat) (W : World) : CallsIn Fence.wide 5 Tryz.prog 34 #[.map mb] W fun e w' => e = .returned (.func (.func 62) #[] #[.pointer (some ⟨W.heap.size, 0, none⟩)]) ∧ w' = W.alloc (.cells #[.map mb] 66) :=
  AnyZ.keys_in Tryz.keys34 Fence.wide 5 trivial rfl mb W

set_option maxHeartbeats 1000000 in
/-- **slices.Sorted[string] AT WHAT maps.Keys[map[string]bool,string,bool] HANDED BACK FOR A MAP THAT IS NOT nil** ('w': the world AHEAD of maps.Keys' call): A NEW SLICE THAT HOLDS THE MAP's KEYS, SORTED; nil just where it has none; nothing that lay before has turned. -/
theorem Tryz.slices_Sorted_keys_33_34 {H : Type} (b nn : Nat) (D0 : DataW H) (R : Value → Option (DataW H × List MemPlace)) (w : World) (hown : w.ownsMap Tryz.prog 9 R b nn D0) (hmax : Maps.size D0 ≤ maxLen) (hbytes : Maps.size D0 * 16 ≤ 140737488355328) :
    CallsIn Fence.wide 5 Tryz.prog 33 #[.func (.func 62) #[] #[.pointer (some ⟨w.heap.size, 0, none⟩)]] (w.alloc (.cells #[.map (some b)] 66)) fun e w' => ∃ (v : Value) (ss : List (List UInt8)), e = .returned v ∧ ss.Perm (strKeys D0) ∧
      w'.ownsRow (w.alloc (.cells #[.map (some b)] 66)).heap.size 9 1 v ss.length ((ss.mergeSort (fun x y => decide (x ≤ y))).map encStr) ∧ (v = .slice none 0 0 ↔ ss = []) ∧ Below (w.alloc (.cells #[.map (some b)] 66)).heap.size (w.alloc (.cells #[.map (some b)] 66)) w' := by
  have hbl := hown.lt
  have hseq : SeqGives Fence.wide 2 Tryz.prog 62 #[.pointer (some ⟨w.heap.size, 0, none⟩)] encStr (fun ss => ss.Perm (strKeys D0)) (Maps.size D0) (w.alloc (.cells #[.map (some b)] 66)) :=
    AnyZ.keys_gives (ρ := Tryz.keys34_ren) { Tryz.keys34 with } Fence.wide _ trivial rfl (by omega) w.heap.size b nn D0 _ (by simp) (by simp) (by
      obtain ⟨es, clock, hb, Ft, hs, hD⟩ := hown
      exact ⟨es, clock, (Below.heap_alloc _ _ b hbl).trans hb, Ft, hs, hD⟩)
  exact AnyZ.sorted_in Tryz.sorted33 Fence.wide 5 trivial trivial trivial trivial rfl (by omega) (Tryz.sorts33 _) (enters_of Tryz.func61 (by kernel_rfl) rfl) 62 #[.pointer (some ⟨w.heap.size, 0, none⟩)] trivial (enters_of Tryz.func62 (by kernel_rfl) rfl) _ _ hmax hbytes _ hseq

set_option maxHeartbeats 1000000 in
/-- **.. AND FOR THE nil MAP: nil.** -/
theorem Tryz.slices_Sorted_keys_nil_33_34 (w : World) :
    CallsIn Fence.wide 5 Tryz.prog 33 #[.func (.func 62) #[] #[.pointer (some ⟨w.heap.size, 0, none⟩)]] (w.alloc (.cells #[.map none] 66)) fun e w' => ∃ (v : Value) (ss : List (List UInt8)), e = .returned v ∧ ss = [] ∧
      w'.ownsRow (w.alloc (.cells #[.map none] 66)).heap.size 9 1 v ss.length ((ss.mergeSort (fun x y => decide (x ≤ y))).map encStr) ∧ (v = .slice none 0 0 ↔ ss = []) ∧ Below (w.alloc (.cells #[.map none] 66)).heap.size (w.alloc (.cells #[.map none] 66)) w' := by
  have hseq : SeqGives Fence.wide 2 Tryz.prog 62 #[.pointer (some ⟨w.heap.size, 0, none⟩)] encStr (fun ss : List (List UInt8) => ss = []) 0 (w.alloc (.cells #[.map none] 66)) :=
    AnyZ.keys_gives_nil (ρ := Tryz.keys34_ren) { Tryz.keys34 with } Fence.wide _ trivial rfl w.heap.size _ (by simp) (by simp)
  exact AnyZ.sorted_in Tryz.sorted33 Fence.wide 5 trivial trivial trivial trivial rfl (by omega) (Tryz.sorts33 _) (enters_of Tryz.func61 (by kernel_rfl) rfl) 62 #[.pointer (some ⟨w.heap.size, 0, none⟩)] trivial (enters_of Tryz.func62 (by kernel_rfl) rfl) _ 0 (Nat.zero_le _) (by omega) _ hseq



/-- **maps.Keys[map[string][]cicerone/dedupe.Range,string,[]cicerone/dedupe.Range], at whatever map, the nil one too:** a function value over ONE NEW BLOCK, which holds the map. -/
theorem Tryz.maps_Keys_124 (mb : Option Nat) (W : World) : CallsIn Fence.wide 5 Tryz.prog 124 #[.map mb] W fun e w' => e = .returned (.func (.func 170) #[] #[.pointer (some ⟨W.heap.size, 0, none⟩)]) ∧ w' = W.alloc (.cells #[.map mb] 124) :=
  AnyZ.keys_in Tryz.keys124 Fence.wide 5 trivial rfl mb W

set_option maxHeartbeats 1000000 in
/-- **slices.Sorted[string] AT WHAT maps.Keys[map[string][]cicerone/dedupe.Range,string,[]cicerone/dedupe.Range] HANDED BACK FOR A MAP THAT IS NOT nil** ('w': the world AHEAD of maps.Keys' call): A NEW SLICE THAT HOLDS THE MAP's KEYS, SORTED; nil just where it has none; nothing that lay before has turned. -/
theorem Tryz.slices_Sorted_keys_33_124 {H : Type} (b nn : Nat) (D0 : DataW H) (R : Value → Option (DataW H × List MemPlace)) (w : World) (hown : w.ownsMap Tryz.prog 9 R b nn D0) (hmax : Maps.size D0 ≤ maxLen) (hbytes : Maps.size D0 * 16 ≤ 140737488355328) :
    CallsIn Fence.wide 5 Tryz.prog 33 #[.func (.func 170) #[] #[.pointer (some ⟨w.heap.size, 0, none⟩)]] (w.alloc (.cells #[.map (some b)] 124)) fun e w' => ∃ (v : Value) (ss : List (List UInt8)), e = .returned v ∧ ss.Perm (strKeys D0) ∧
      w'.ownsRow (w.alloc (.cells #[.map (some b)] 124)).heap.size 9 1 v ss.length ((ss.mergeSort (fun x y => decide (x ≤ y))).map encStr) ∧ (v = .slice none 0 0 ↔ ss = []) ∧ Below (w.alloc (.cells #[.map (some b)] 124)).heap.size (w.alloc (.cells #[.map (some b)] 124)) w' := by
  have hbl := hown.lt
  have hseq : SeqGives Fence.wide 2 Tryz.prog 170 #[.pointer (some ⟨w.heap.size, 0, none⟩)] encStr (fun ss => ss.Perm (strKeys D0)) (Maps.size D0) (w.alloc (.cells #[.map (some b)] 124)) :=
    AnyZ.keys_gives (ρ := Tryz.keys124_ren) { Tryz.keys124 with } Fence.wide _ trivial rfl (by omega) w.heap.size b nn D0 _ (by simp) (by simp) (by
      obtain ⟨es, clock, hb, Ft, hs, hD⟩ := hown
      exact ⟨es, clock, (Below.heap_alloc _ _ b hbl).trans hb, Ft, hs, hD⟩)
  exact AnyZ.sorted_in Tryz.sorted33 Fence.wide 5 trivial trivial trivial trivial rfl (by omega) (Tryz.sorts33 _) (enters_of Tryz.func61 (by kernel_rfl) rfl) 170 #[.pointer (some ⟨w.heap.size, 0, none⟩)] trivial (enters_of Tryz.func170 (by kernel_rfl) rfl) _ _ hmax hbytes _ hseq

set_option maxHeartbeats 1000000 in
/-- **.. AND FOR THE nil MAP: nil.** -/
theorem Tryz.slices_Sorted_keys_nil_33_124 (w : World) :
    CallsIn Fence.wide 5 Tryz.prog 33 #[.func (.func 170) #[] #[.pointer (some ⟨w.heap.size, 0, none⟩)]] (w.alloc (.cells #[.map none] 124)) fun e w' => ∃ (v : Value) (ss : List (List UInt8)), e = .returned v ∧ ss = [] ∧
      w'.ownsRow (w.alloc (.cells #[.map none] 124)).heap.size 9 1 v ss.length ((ss.mergeSort (fun x y => decide (x ≤ y))).map encStr) ∧ (v = .slice none 0 0 ↔ ss = []) ∧ Below (w.alloc (.cells #[.map none] 124)).heap.size (w.alloc (.cells #[.map none] 124)) w' := by
  have hseq : SeqGives Fence.wide 2 Tryz.prog 170 #[.pointer (some ⟨w.heap.size, 0, none⟩)] encStr (fun ss : List (List UInt8) => ss = []) 0 (w.alloc (.cells #[.map none] 124)) :=
    AnyZ.keys_gives_nil (ρ := Tryz.keys124_ren) { Tryz.keys124 with } Fence.wide _ trivial rfl w.heap.size _ (by simp) (by simp)
  exact AnyZ.sorted_in Tryz.sorted33 Fence.wide 5 trivial trivial trivial trivial rfl (by omega) (Tryz.sorts33 _) (enters_of Tryz.func61 (by kernel_rfl) rfl) 170 #[.pointer (some ⟨w.heap.size, 0, none⟩)] trivial (enters_of Tryz.func170 (by kernel_rfl) rfl) _ 0 (Nat.zero_le _) (by omega) _ hseq



/-- **maps.Keys[map[string]*cicerone/disk.file,string,*cicerone/disk.file], at whatever map, the nil one too:** a function value over ONE NEW BLOCK, which holds the map. -/
theorem Tryz.maps_Keys_139 (mb : Option Nat) (W : World) : CallsIn Fence.wide 5 Tryz.prog 139 #[.map mb] W fun e w' => e = .returned (.func (.func 179) #[] #[.pointer (some ⟨W.heap.size, 0, none⟩)]) ∧ w' = W.alloc (.cells #[.map mb] 95) :=
  AnyZ.keys_in Tryz.keys139 Fence.wide 5 trivial rfl mb W

set_option maxHeartbeats 1000000 in
/-- **slices.Sorted[string] AT WHAT maps.Keys[map[string]*cicerone/disk.file,string,*cicerone/disk.file] HANDED BACK FOR A MAP THAT IS NOT nil** ('w': the world AHEAD of maps.Keys' call): A NEW SLICE THAT HOLDS THE MAP's KEYS, SORTED; nil just where it has none; nothing that lay before has turned. -/
theorem Tryz.slices_Sorted_keys_33_139 {H : Type} (b nn : Nat) (D0 : DataW H) (R : Value → Option (DataW H × List MemPlace)) (w : World) (hown : w.ownsMap Tryz.prog 9 R b nn D0) (hmax : Maps.size D0 ≤ maxLen) (hbytes : Maps.size D0 * 16 ≤ 140737488355328) :
    CallsIn Fence.wide 5 Tryz.prog 33 #[.func (.func 179) #[] #[.pointer (some ⟨w.heap.size, 0, none⟩)]] (w.alloc (.cells #[.map (some b)] 95)) fun e w' => ∃ (v : Value) (ss : List (List UInt8)), e = .returned v ∧ ss.Perm (strKeys D0) ∧
      w'.ownsRow (w.alloc (.cells #[.map (some b)] 95)).heap.size 9 1 v ss.length ((ss.mergeSort (fun x y => decide (x ≤ y))).map encStr) ∧ (v = .slice none 0 0 ↔ ss = []) ∧ Below (w.alloc (.cells #[.map (some b)] 95)).heap.size (w.alloc (.cells #[.map (some b)] 95)) w' := by
  have hbl := hown.lt
  have hseq : SeqGives Fence.wide 2 Tryz.prog 179 #[.pointer (some ⟨w.heap.size, 0, none⟩)] encStr (fun ss => ss.Perm (strKeys D0)) (Maps.size D0) (w.alloc (.cells #[.map (some b)] 95)) :=
    AnyZ.keys_gives (ρ := Tryz.keys139_ren) { Tryz.keys139 with } Fence.wide _ trivial rfl (by omega) w.heap.size b nn D0 _ (by simp) (by simp) (by
      obtain ⟨es, clock, hb, Ft, hs, hD⟩ := hown
      exact ⟨es, clock, (Below.heap_alloc _ _ b hbl).trans hb, Ft, hs, hD⟩)
  exact AnyZ.sorted_in Tryz.sorted33 Fence.wide 5 trivial trivial trivial trivial rfl (by omega) (Tryz.sorts33 _) (enters_of Tryz.func61 (by kernel_rfl) rfl) 179 #[.pointer (some ⟨w.heap.size, 0, none⟩)] trivial (enters_of Tryz.func179 (by kernel_rfl) rfl) _ _ hmax hbytes _ hseq

set_option maxHeartbeats 1000000 in
/-- **.. AND FOR THE nil MAP: nil.** -/
theorem Tryz.slices_Sorted_keys_nil_33_139 (w : World) :
    CallsIn Fence.wide 5 Tryz.prog 33 #[.func (.func 179) #[] #[.pointer (some ⟨w.heap.size, 0, none⟩)]] (w.alloc (.cells #[.map none] 95)) fun e w' => ∃ (v : Value) (ss : List (List UInt8)), e = .returned v ∧ ss = [] ∧
      w'.ownsRow (w.alloc (.cells #[.map none] 95)).heap.size 9 1 v ss.length ((ss.mergeSort (fun x y => decide (x ≤ y))).map encStr) ∧ (v = .slice none 0 0 ↔ ss = []) ∧ Below (w.alloc (.cells #[.map none] 95)).heap.size (w.alloc (.cells #[.map none] 95)) w' := by
  have hseq : SeqGives Fence.wide 2 Tryz.prog 179 #[.pointer (some ⟨w.heap.size, 0, none⟩)] encStr (fun ss : List (List UInt8) => ss = []) 0 (w.alloc (.cells #[.map none] 95)) :=
    AnyZ.keys_gives_nil (ρ := Tryz.keys139_ren) { Tryz.keys139 with } Fence.wide _ trivial rfl w.heap.size _ (by simp) (by simp)
  exact AnyZ.sorted_in Tryz.sorted33 Fence.wide 5 trivial trivial trivial trivial rfl (by omega) (Tryz.sorts33 _) (enters_of Tryz.func61 (by kernel_rfl) rfl) 179 #[.pointer (some ⟨w.heap.size, 0, none⟩)] trivial (enters_of Tryz.func179 (by kernel_rfl) rfl) _ 0 (Nat.zero_le _) (by omega) _ hseq



/-- **maps.Keys[map[string]cicerone/clock.source,string,cicerone/clock.source], at whatever map, the nil one too:** a function value over ONE NEW BLOCK, which holds the map. -/
theorem Tryz.maps_Keys_166 (mb : Option Nat) (W : World) : CallsIn Fence.wide 5 Tryz.prog 166 #[.map mb] W fun e w' => e = .returned (.func (.func 204) #[] #[.pointer (some ⟨W.heap.size, 0, none⟩)]) ∧ w' = W.alloc (.cells #[.map mb] 130) :=
  AnyZ.keys_in Tryz.keys166 Fence.wide 5 trivial rfl mb W

set_option maxHeartbeats 1000000 in
/-- **slices.Sorted[string] AT WHAT maps.Keys[map[string]cicerone/clock.source,string,cicerone/clock.source] HANDED BACK FOR A MAP THAT IS NOT nil** ('w': the world AHEAD of maps.Keys' call): A NEW SLICE THAT HOLDS THE MAP's KEYS, SORTED; nil just where it has none; nothing that lay before has turned. -/
theorem Tryz.slices_Sorted_keys_33_166 {H : Type} (b nn : Nat) (D0 : DataW H) (R : Value → Option (DataW H × List MemPlace)) (w : World) (hown : w.ownsMap Tryz.prog 9 R b nn D0) (hmax : Maps.size D0 ≤ maxLen) (hbytes : Maps.size D0 * 16 ≤ 140737488355328) :
    CallsIn Fence.wide 5 Tryz.prog 33 #[.func (.func 204) #[] #[.pointer (some ⟨w.heap.size, 0, none⟩)]] (w.alloc (.cells #[.map (some b)] 130)) fun e w' => ∃ (v : Value) (ss : List (List UInt8)), e = .returned v ∧ ss.Perm (strKeys D0) ∧
      w'.ownsRow (w.alloc (.cells #[.map (some b)] 130)).heap.size 9 1 v ss.length ((ss.mergeSort (fun x y => decide (x ≤ y))).map encStr) ∧ (v = .slice none 0 0 ↔ ss = []) ∧ Below (w.alloc (.cells #[.map (some b)] 130)).heap.size (w.alloc (.cells #[.map (some b)] 130)) w' := by
  have hbl := hown.lt
  have hseq : SeqGives Fence.wide 2 Tryz.prog 204 #[.pointer (some ⟨w.heap.size, 0, none⟩)] encStr (fun ss => ss.Perm (strKeys D0)) (Maps.size D0) (w.alloc (.cells #[.map (some b)] 130)) :=
    AnyZ.keys_gives (ρ := Tryz.keys166_ren) { Tryz.keys166 with } Fence.wide _ trivial rfl (by omega) w.heap.size b nn D0 _ (by simp) (by simp) (by
      obtain ⟨es, clock, hb, Ft, hs, hD⟩ := hown
      exact ⟨es, clock, (Below.heap_alloc _ _ b hbl).trans hb, Ft, hs, hD⟩)
  exact AnyZ.sorted_in Tryz.sorted33 Fence.wide 5 trivial trivial trivial trivial rfl (by omega) (Tryz.sorts33 _) (enters_of Tryz.func61 (by kernel_rfl) rfl) 204 #[.pointer (some ⟨w.heap.size, 0, none⟩)] trivial (enters_of Tryz.func204 (by kernel_rfl) rfl) _ _ hmax hbytes _ hseq

set_option maxHeartbeats 1000000 in
/-- **.. AND FOR THE nil MAP: nil.** -/
theorem Tryz.slices_Sorted_keys_nil_33_166 (w : World) :
    CallsIn Fence.wide 5 Tryz.prog 33 #[.func (.func 204) #[] #[.pointer (some ⟨w.heap.size, 0, none⟩)]] (w.alloc (.cells #[.map none] 130)) fun e w' => ∃ (v : Value) (ss : List (List UInt8)), e = .returned v ∧ ss = [] ∧
      w'.ownsRow (w.alloc (.cells #[.map none] 130)).heap.size 9 1 v ss.length ((ss.mergeSort (fun x y => decide (x ≤ y))).map encStr) ∧ (v = .slice none 0 0 ↔ ss = []) ∧ Below (w.alloc (.cells #[.map none] 130)).heap.size (w.alloc (.cells #[.map none] 130)) w' := by
  have hseq : SeqGives Fence.wide 2 Tryz.prog 204 #[.pointer (some ⟨w.heap.size, 0, none⟩)] encStr (fun ss : List (List UInt8) => ss = []) 0 (w.alloc (.cells #[.map none] 130)) :=
    AnyZ.keys_gives_nil (ρ := Tryz.keys166_ren) { Tryz.keys166 with } Fence.wide _ trivial rfl w.heap.size _ (by simp) (by simp)
  exact AnyZ.sorted_in Tryz.sorted33 Fence.wide 5 trivial trivial trivial trivial rfl (by omega) (Tryz.sorts33 _) (enters_of Tryz.func61 (by kernel_rfl) rfl) 204 #[.pointer (some ⟨w.heap.size, 0, none⟩)] trivial (enters_of Tryz.func204 (by kernel_rfl) rfl) _ 0 (Nat.zero_le _) (by omega) _ hseq




end Go.Proofs
