/-
  The contracts of slices.Sorted and maps.Keys at this dump, laid by the kit's programs, in plain declarations.
-/
import Derived.Shelf.SlGeneric
import Derived.Shelf.SlIter.Nil
import Derived.Shelf.SortM.Plain
import Derived.Shelf.SortM.SortNone
import Derived.Ground.GgzProg
import Derived.Ground.SlgmProg
import Derived.Test.YtnnkhgllfhpdpaaDoorProg
namespace Go.Proofs
open Go.Shelf
def Tryd.keys45_ren : Go.Shelf.Ren := ⟨fun | 7 => 45 | 10 => 65 | n => n, fun | 23 => 60 | 26 => 9 | 3 => 4 | 28 => 77 | 0 => 0 | 27 => 76 | 33 => 82 | 4 => 4 | n => n, fun | n => n⟩
theorem Tryd.keys45 : Go.Proofs.SlLaysZ.n7 Tryd.prog Tryd.keys45_ren := {
  mixed := by kernel_rfl
  f7 := ⟨Tryd.f45.name, by decide, Tryd.func45.trans (congrArg some (by kernel_rfl))⟩
  f10 := ⟨Tryd.f65.name, by decide, Tryd.func65.trans (congrArg some (by kernel_rfl))⟩
  t0 := Tryd.underlying0
  a0 := Tryd.isAgg0
  z0 := Tryd.sizeOf0
  v0 := Tryd.zeroValue0
  t4 := Tryd.underlying4
  a4 := Tryd.isAgg4
  z4 := Tryd.sizeOf4
  v4 := Tryd.zeroValue4
  t23 := Tryd.underlying60
  a23 := Tryd.isAgg60
  z23 := Tryd.sizeOf60
  v23 := Tryd.zeroValue60
  t26 := Tryd.underlying9
  a26 := Tryd.isAgg9
  z26 := Tryd.sizeOf9
  v26 := Tryd.zeroValue9
  t27 := Tryd.underlying76
  a27 := Tryd.isAgg76
  z27 := Tryd.sizeOf76
  v27 := Tryd.zeroValue76
  t28 := Tryd.underlying77
  a28 := Tryd.isAgg77
  z28 := Tryd.sizeOf77
  v28 := Tryd.zeroValue77
  t33 := Tryd.underlying82
  a33 := Tryd.isAgg82
  z33 := Tryd.sizeOf82
  v33 := Tryd.zeroValue82 }
def Tryd.sorted44_ren : Go.Shelf.Ren := ⟨fun | 6 => 44 | 8 => 63 | 9 => 64 | 11 => 82 | 13 => 84 | 12 => 83 | 23 => 104 | 24 => 105 | 14 => 95 | 15 => 96 | 16 => 97 | 17 => 98 | 18 => 99 | 19 => 100 | 20 => 101 | 21 => 102 | 22 => 103 | 25 => 111 | 26 => 112 | 27 => 113 | 28 => 114 | 29 => 115 | 30 => 116 | 31 => 120 | n => n, fun | 26 => 9 | 28 => 77 | 24 => 44 | 0 => 0 | 3 => 3 | 37 => 95 | 48 => 132 | 50 => 134 | 4 => 4 | 40 => 125 | 39 => 124 | 45 => 98 | 5 => 5 | 9 => 9 | 51 => 137 | 55 => 141 | 57 => 145 | 58 => 146 | 33 => 82 | n => n, fun | n => n⟩
theorem Tryd.sorted44 : Go.Proofs.SlLaysZ.n6 Tryd.prog Tryd.sorted44_ren := {
  mixed := by kernel_rfl
  f6 := ⟨Tryd.f44.name, by decide, Tryd.func44.trans (congrArg some (by kernel_rfl))⟩
  f8 := ⟨Tryd.f63.name, by decide, Tryd.func63.trans (congrArg some (by kernel_rfl))⟩
  f11 := ⟨Tryd.f82.name, by decide, Tryd.func82.trans (congrArg some (by kernel_rfl))⟩
  t0 := Tryd.underlying0
  a0 := Tryd.isAgg0
  z0 := Tryd.sizeOf0
  v0 := Tryd.zeroValue0
  t24 := Tryd.underlying44
  a24 := Tryd.isAgg44
  z24 := Tryd.sizeOf44
  v24 := Tryd.zeroValue44
  t26 := Tryd.underlying9
  a26 := Tryd.isAgg9
  z26 := Tryd.sizeOf9
  v26 := Tryd.zeroValue9
  t28 := Tryd.underlying77
  a28 := Tryd.isAgg77
  z28 := Tryd.sizeOf77
  v28 := Tryd.zeroValue77
  i26 := by kernel_rfl }
def Tryd.sort64_ren : Go.Shelf.Ren := ⟨fun | 6 => 64 | 8 => 84 | 9 => 83 | 19 => 104 | 20 => 105 | 21 => 95 | 22 => 96 | 23 => 97 | 24 => 98 | 25 => 99 | 26 => 100 | 27 => 101 | 28 => 102 | 29 => 103 | 36 => 111 | 31 => 112 | 32 => 113 | 37 => 114 | 38 => 115 | 39 => 116 | 41 => 120 | n => n, fun | 27 => 44 | 29 => 9 | 3 => 3 | 32 => 95 | 26 => 44 | 0 => 0 | 44 => 132 | 46 => 134 | 4 => 4 | 36 => 125 | 35 => 124 | 41 => 98 | 5 => 5 | 9 => 9 | 53 => 137 | 57 => 141 | 63 => 145 | 64 => 146 | n => n, fun | n => n⟩
theorem Tryd.sort64 : Go.Proofs.SlLaysM.n6 Tryd.prog Tryd.sort64_ren := {
  mixed := by kernel_rfl
  f6 := ⟨Tryd.f64.name, by decide, Tryd.func64.trans (congrArg some (by kernel_rfl))⟩
  f8 := Tryd.func84.trans (congrArg some (by kernel_rfl))
  f9 := ⟨Tryd.f83.name, by decide, Tryd.func83.trans (congrArg some (by kernel_rfl))⟩
  f19 := Tryd.func104.trans (congrArg some (by kernel_rfl))
  f20 := Tryd.func105.trans (congrArg some (by kernel_rfl))
  f21 := ⟨Tryd.f95.name, by decide, Tryd.func95.trans (congrArg some (by kernel_rfl))⟩
  f22 := ⟨Tryd.f96.name, by decide, Tryd.func96.trans (congrArg some (by kernel_rfl))⟩
  f23 := ⟨Tryd.f97.name, by decide, Tryd.func97.trans (congrArg some (by kernel_rfl))⟩
  f24 := ⟨Tryd.f98.name, by decide, Tryd.func98.trans (congrArg some (by kernel_rfl))⟩
  f25 := ⟨Tryd.f99.name, by decide, Tryd.func99.trans (congrArg some (by kernel_rfl))⟩
  f26 := ⟨Tryd.f100.name, by decide, Tryd.func100.trans (congrArg some (by kernel_rfl))⟩
  f27 := ⟨Tryd.f101.name, by decide, Tryd.func101.trans (congrArg some (by kernel_rfl))⟩
  f28 := ⟨Tryd.f102.name, by decide, Tryd.func102.trans (congrArg some (by kernel_rfl))⟩
  f29 := ⟨Tryd.f103.name, by decide, Tryd.func103.trans (congrArg some (by kernel_rfl))⟩
  f31 := Tryd.func112.trans (congrArg some (by kernel_rfl))
  f32 := Tryd.func113.trans (congrArg some (by kernel_rfl))
  f36 := ⟨Tryd.f111.name, by decide, Tryd.func111.trans (congrArg some (by kernel_rfl))⟩
  f37 := ⟨Tryd.f114.name, by decide, Tryd.func114.trans (congrArg some (by kernel_rfl))⟩
  f38 := ⟨Tryd.f115.name, by decide, Tryd.func115.trans (congrArg some (by kernel_rfl))⟩
  f39 := ⟨Tryd.f116.name, by decide, Tryd.func116.trans (congrArg some (by kernel_rfl))⟩
  f41 := ⟨Tryd.f120.name, by decide, Tryd.func120.trans (congrArg some (by kernel_rfl))⟩
  t0 := Tryd.underlying0
  a0 := Tryd.isAgg0
  z0 := Tryd.sizeOf0
  v0 := Tryd.zeroValue0
  t3 := Tryd.underlying3
  a3 := Tryd.isAgg3
  z3 := Tryd.sizeOf3
  v3 := Tryd.zeroValue3
  t4 := Tryd.underlying4
  a4 := Tryd.isAgg4
  z4 := Tryd.sizeOf4
  v4 := Tryd.zeroValue4
  t5 := Tryd.underlying5
  a5 := Tryd.isAgg5
  z5 := Tryd.sizeOf5
  v5 := Tryd.zeroValue5
  t9 := Tryd.underlying9
  a9 := Tryd.isAgg9
  z9 := Tryd.sizeOf9
  v9 := Tryd.zeroValue9
  t26 := Tryd.underlying44
  a26 := Tryd.isAgg44
  z26 := Tryd.sizeOf44
  v26 := Tryd.zeroValue44
  t27 := Tryd.underlying44
  a27 := Tryd.isAgg44
  z27 := Tryd.sizeOf44
  v27 := Tryd.zeroValue44
  t29 := Tryd.underlying9
  a29 := Tryd.isAgg9
  z29 := Tryd.sizeOf9
  v29 := Tryd.zeroValue9
  t32 := Tryd.underlying95
  a32 := Tryd.isAgg95
  z32 := Tryd.sizeOf95
  v32 := Tryd.zeroValue95
  t35 := Tryd.underlying124
  a35 := Tryd.isAgg124
  z35 := Tryd.sizeOf124
  v35 := Tryd.zeroValue124
  t36 := Tryd.underlying125
  a36 := Tryd.isAgg125
  z36 := Tryd.sizeOf125
  v36 := Tryd.zeroValue125
  t41 := Tryd.underlying98
  a41 := Tryd.isAgg98
  z41 := Tryd.sizeOf98
  v41 := Tryd.zeroValue98
  t44 := Tryd.underlying132
  a44 := Tryd.isAgg132
  z44 := Tryd.sizeOf132
  v44 := Tryd.zeroValue132
  t46 := Tryd.underlying134
  a46 := Tryd.isAgg134
  z46 := Tryd.sizeOf134
  v46 := Tryd.zeroValue134
  t53 := Tryd.underlying137
  a53 := Tryd.isAgg137
  z53 := Tryd.sizeOf137
  v53 := Tryd.zeroValue137
  t57 := Tryd.underlying141
  a57 := Tryd.isAgg141
  z57 := Tryd.sizeOf141
  v57 := Tryd.zeroValue141
  t63 := Tryd.underlying145
  a63 := Tryd.isAgg145
  z63 := Tryd.sizeOf145
  v63 := Tryd.zeroValue145
  t64 := Tryd.underlying146
  a64 := Tryd.isAgg146
  z64 := Tryd.sizeOf146
  v64 := Tryd.zeroValue146 }
open Go.RowKit Go.Maps Go.Sort Go.Shelf
/-- slices.Sort's two contracts at this dump, at the fence that asks nothing. -/
theorem Tryd.sorts44 (m : Nat) : AnyZ.SortsIn Tryd.prog Tryd.sorted44_ren Fence.wide m :=
  ⟨fun blk off cap ss W hH hblk hsz => callsIn_wide.2 (AnyM.slices_Sort_string Tryd.sort64 blk off cap ss W hH hblk hsz),
   fun p cap W => callsIn_wide.2 (AnyM.slices_Sort_string_none Tryd.sort64 p cap W)⟩

/-- **maps.Keys[map[string]bool,string,bool], at whatever map, the nil one too:** a function value over ONE NEW BLOCK, which holds the map. -/
theorem Tryd.maps_Keys_45 (mb : Option Nat) (W : World) : CallsIn Fence.wide 5 Tryd.prog 45 #[.map mb] W fun e w' => e = .returned (.func (.func 65) #[] #[.pointer (some ⟨W.heap.size, 0, none⟩)]) ∧ w' = W.alloc (.cells #[.map mb] 60) :=
  AnyZ.keys_in Tryd.keys45 Fence.wide 5 trivial rfl mb W

set_option maxHeartbeats 1000000 in
/-- **slices.Sorted[string] AT WHAT maps.Keys[map[string]bool,string,bool] HANDED BACK FOR A MAP THAT IS NOT nil** ('w': the world AHEAD of maps.Keys' call): A NEW SLICE THAT HOLDS THE MAP's KEYS, SORTED; nil just where it has none; nothing that lay before has turned. -/
theorem Tryd.slices_Sorted_keys_44_45 {H : Type} (b nn : Nat) (D0 : DataW H) (R : Value → Option (DataW H × List MemPlace)) (w : World) (hown : w.ownsMap Tryd.prog 9 R b nn D0) (hmax : Maps.size D0 ≤ maxLen) (hbytes : Maps.size D0 * 16 ≤ 140737488355328) :
    CallsIn Fence.wide 5 Tryd.prog 44 #[.func (.func 65) #[] #[.pointer (some ⟨w.heap.size, 0, none⟩)]] (w.alloc (.cells #[.map (some b)] 60)) fun e w' => ∃ (v : Value) (ss : List (List UInt8)), e = .returned v ∧ ss.Perm (strKeys D0) ∧
      w'.ownsRow (w.alloc (.cells #[.map (some b)] 60)).heap.size 9 1 v ss.length ((ss.mergeSort (fun x y => decide (x ≤ y))).map encStr) ∧ (v = .slice none 0 0 ↔ ss = []) ∧ Below (w.alloc (.cells #[.map (some b)] 60)).heap.size (w.alloc (.cells #[.map (some b)] 60)) w' := by
  have hbl := hown.lt
  have hseq : SeqGives Fence.wide 2 Tryd.prog 65 #[.pointer (some ⟨w.heap.size, 0, none⟩)] encStr (fun ss => ss.Perm (strKeys D0)) (Maps.size D0) (w.alloc (.cells #[.map (some b)] 60)) :=
    AnyZ.keys_gives (ρ := Tryd.keys45_ren) { Tryd.keys45 with } Fence.wide _ trivial rfl (by omega) w.heap.size b nn D0 _ (by simp) (by simp) (by
      obtain ⟨es, clock, hb, Ft, hs, hD⟩ := hown
      exact ⟨es, clock, (Below.heap_alloc _ _ b hbl).trans hb, Ft, hs, hD⟩)
  exact AnyZ.sorted_in Tryd.sorted44 Fence.wide 5 trivial trivial trivial trivial rfl (by omega) (Tryd.sorts44 _) (enters_of Tryd.func64 (by kernel_rfl) rfl) 65 #[.pointer (some ⟨w.heap.size, 0, none⟩)] trivial (enters_of Tryd.func65 (by kernel_rfl) rfl) _ _ hmax hbytes _ hseq

set_option maxHeartbeats 1000000 in
/-- **.. AND FOR THE nil MAP: nil.** -/
theorem Tryd.slices_Sorted_keys_nil_44_45 (w : World) :
    CallsIn Fence.wide 5 Tryd.prog 44 #[.func (.func 65) #[] #[.pointer (some ⟨w.heap.size, 0, none⟩)]] (w.alloc (.cells #[.map none] 60)) fun e w' => ∃ (v : Value) (ss : List (List UInt8)), e = .returned v ∧ ss = [] ∧
      w'.ownsRow (w.alloc (.cells #[.map none] 60)).heap.size 9 1 v ss.length ((ss.mergeSort (fun x y => decide (x ≤ y))).map encStr) ∧ (v = .slice none 0 0 ↔ ss = []) ∧ Below (w.alloc (.cells #[.map none] 60)).heap.size (w.alloc (.cells #[.map none] 60)) w' := by
  have hseq : SeqGives Fence.wide 2 Tryd.prog 65 #[.pointer (some ⟨w.heap.size, 0, none⟩)] encStr (fun ss : List (List UInt8) => ss = []) 0 (w.alloc (.cells #[.map none] 60)) :=
    AnyZ.keys_gives_nil (ρ := Tryd.keys45_ren) { Tryd.keys45 with } Fence.wide _ trivial rfl w.heap.size _ (by simp) (by simp)
  exact AnyZ.sorted_in Tryd.sorted44 Fence.wide 5 trivial trivial trivial trivial rfl (by omega) (Tryd.sorts44 _) (enters_of Tryd.func64 (by kernel_rfl) rfl) 65 #[.pointer (some ⟨w.heap.size, 0, none⟩)] trivial (enters_of Tryd.func65 (by kernel_rfl) rfl) _ 0 (Nat.zero_le _) (by omega) _ hseq




end Go.Proofs
