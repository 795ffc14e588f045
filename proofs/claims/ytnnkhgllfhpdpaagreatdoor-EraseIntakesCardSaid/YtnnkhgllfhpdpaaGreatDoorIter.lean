/-
  The contracts of slices.Sorted and maps.Keys at this dump, laid by the kit's programs, in plain declarations.
-/
import Derived.Shelf.SlGeneric
import Derived.Shelf.SlIter.Nil
import Derived.Shelf.SortM.Plain
import Derived.Shelf.SortM.SortNone
import Derived.Ground.GgzProg
import Derived.Ground.SlgmProg
import Derived.Test.YtnnkhgllfhpdpaaGreatDoorProg
namespace Go.Proofs
open Go.Shelf
def Tryz.keys32_ren : Go.Shelf.Ren := ⟨fun | 7 => 32 | 10 => 54 | n => n, fun | 23 => 54 | 26 => 9 | 3 => 4 | 28 => 59 | 0 => 0 | 27 => 58 | 33 => 81 | 4 => 4 | n => n, fun | n => n⟩
theorem Tryz.keys32 : Go.Proofs.SlLaysZ.n7 Tryz.prog Tryz.keys32_ren := {
  mixed := by kernel_rfl
  f7 := ⟨Tryz.f32.name, by decide, Tryz.func32.trans (congrArg some (by kernel_rfl))⟩
  f10 := ⟨Tryz.f54.name, by decide, Tryz.func54.trans (congrArg some (by kernel_rfl))⟩
  t0 := Tryz.underlying0
  a0 := Tryz.isAgg0
  z0 := Tryz.sizeOf0
  v0 := Tryz.zeroValue0
  t4 := Tryz.underlying4
  a4 := Tryz.isAgg4
  z4 := Tryz.sizeOf4
  v4 := Tryz.zeroValue4
  t23 := Tryz.underlying54
  a23 := Tryz.isAgg54
  z23 := Tryz.sizeOf54
  v23 := Tryz.zeroValue54
  t26 := Tryz.underlying9
  a26 := Tryz.isAgg9
  z26 := Tryz.sizeOf9
  v26 := Tryz.zeroValue9
  t27 := Tryz.underlying58
  a27 := Tryz.isAgg58
  z27 := Tryz.sizeOf58
  v27 := Tryz.zeroValue58
  t28 := Tryz.underlying59
  a28 := Tryz.isAgg59
  z28 := Tryz.sizeOf59
  v28 := Tryz.zeroValue59
  t33 := Tryz.underlying81
  a33 := Tryz.isAgg81
  z33 := Tryz.sizeOf81
  v33 := Tryz.zeroValue81 }
def Tryz.sorted31_ren : Go.Shelf.Ren := ⟨fun | 6 => 31 | 8 => 52 | 9 => 53 | 11 => 74 | 13 => 76 | 12 => 75 | 23 => 100 | 24 => 101 | 14 => 91 | 15 => 92 | 16 => 93 | 17 => 94 | 18 => 95 | 19 => 96 | 20 => 97 | 21 => 98 | 22 => 99 | 25 => 112 | 26 => 113 | 27 => 114 | 28 => 115 | 29 => 116 | 30 => 117 | 31 => 123 | n => n, fun | 26 => 9 | 28 => 59 | 24 => 35 | 0 => 0 | 3 => 3 | 37 => 102 | 48 => 129 | 50 => 131 | 4 => 4 | 40 => 122 | 39 => 121 | 45 => 103 | 5 => 5 | 9 => 9 | 51 => 137 | 55 => 141 | 57 => 145 | 58 => 146 | 33 => 81 | n => n, fun | n => n⟩
theorem Tryz.sorted31 : Go.Proofs.SlLaysZ.n6 Tryz.prog Tryz.sorted31_ren := {
  mixed := by kernel_rfl
  f6 := ⟨Tryz.f31.name, by decide, Tryz.func31.trans (congrArg some (by kernel_rfl))⟩
  f8 := ⟨Tryz.f52.name, by decide, Tryz.func52.trans (congrArg some (by kernel_rfl))⟩
  f11 := ⟨Tryz.f74.name, by decide, Tryz.func74.trans (congrArg some (by kernel_rfl))⟩
  t0 := Tryz.underlying0
  a0 := Tryz.isAgg0
  z0 := Tryz.sizeOf0
  v0 := Tryz.zeroValue0
  t24 := Tryz.underlying35
  a24 := Tryz.isAgg35
  z24 := Tryz.sizeOf35
  v24 := Tryz.zeroValue35
  t26 := Tryz.underlying9
  a26 := Tryz.isAgg9
  z26 := Tryz.sizeOf9
  v26 := Tryz.zeroValue9
  t28 := Tryz.underlying59
  a28 := Tryz.isAgg59
  z28 := Tryz.sizeOf59
  v28 := Tryz.zeroValue59
  i26 := by kernel_rfl }
def Tryz.sort53_ren : Go.Shelf.Ren := ⟨fun | 6 => 53 | 8 => 76 | 9 => 75 | 19 => 100 | 20 => 101 | 21 => 91 | 22 => 92 | 23 => 93 | 24 => 94 | 25 => 95 | 26 => 96 | 27 => 97 | 28 => 98 | 29 => 99 | 36 => 112 | 31 => 113 | 32 => 114 | 37 => 115 | 38 => 116 | 39 => 117 | 41 => 123 | n => n, fun | 27 => 35 | 29 => 9 | 3 => 3 | 32 => 102 | 26 => 35 | 0 => 0 | 44 => 129 | 46 => 131 | 4 => 4 | 36 => 122 | 35 => 121 | 41 => 103 | 5 => 5 | 9 => 9 | 53 => 137 | 57 => 141 | 63 => 145 | 64 => 146 | n => n, fun | n => n⟩
theorem Tryz.sort53 : Go.Proofs.SlLaysM.n6 Tryz.prog Tryz.sort53_ren := {
  mixed := by kernel_rfl
  f6 := ⟨Tryz.f53.name, by decide, Tryz.func53.trans (congrArg some (by kernel_rfl))⟩
  f8 := Tryz.func76.trans (congrArg some (by kernel_rfl))
  f9 := ⟨Tryz.f75.name, by decide, Tryz.func75.trans (congrArg some (by kernel_rfl))⟩
  f19 := Tryz.func100.trans (congrArg some (by kernel_rfl))
  f20 := Tryz.func101.trans (congrArg some (by kernel_rfl))
  f21 := ⟨Tryz.f91.name, by decide, Tryz.func91.trans (congrArg some (by kernel_rfl))⟩
  f22 := ⟨Tryz.f92.name, by decide, Tryz.func92.trans (congrArg some (by kernel_rfl))⟩
  f23 := ⟨Tryz.f93.name, by decide, Tryz.func93.trans (congrArg some (by kernel_rfl))⟩
  f24 := ⟨Tryz.f94.name, by decide, Tryz.func94.trans (congrArg some (by kernel_rfl))⟩
  f25 := ⟨Tryz.f95.name, by decide, Tryz.func95.trans (congrArg some (by kernel_rfl))⟩
  f26 := ⟨Tryz.f96.name, by decide, Tryz.func96.trans (congrArg some (by kernel_rfl))⟩
  f27 := ⟨Tryz.f97.name, by decide, Tryz.func97.trans (congrArg some (by kernel_rfl))⟩
  f28 := ⟨Tryz.f98.name, by decide, Tryz.func98.trans (congrArg some (by kernel_rfl))⟩
  f29 := ⟨Tryz.f99.name, by decide, Tryz.func99.trans (congrArg some (by kernel_rfl))⟩
  f31 := Tryz.func113.trans (congrArg some (by kernel_rfl))
  f32 := Tryz.func114.trans (congrArg some (by kernel_rfl))
  f36 := ⟨Tryz.f112.name, by decide, Tryz.func112.trans (congrArg some (by kernel_rfl))⟩
  f37 := ⟨Tryz.f115.name, by decide, Tryz.func115.trans (congrArg some (by kernel_rfl))⟩
  f38 := ⟨Tryz.f116.name, by decide, Tryz.func116.trans (congrArg some (by kernel_rfl))⟩
  f39 := ⟨Tryz.f117.name, by decide, Tryz.func117.trans (congrArg some (by kernel_rfl))⟩
  f41 := ⟨Tryz.f123.name, by decide, Tryz.func123.trans (congrArg some (by kernel_rfl))⟩
  t0 := Tryz.underlying0
  a0 := Tryz.isAgg0
  z0 := Tryz.sizeOf0
  v0 := Tryz.zeroValue0
  t3 := Tryz.underlying3
  a3 := Tryz.isAgg3
  z3 := Tryz.sizeOf3
  v3 := Tryz.zeroValue3
  t4 := Tryz.underlying4
  a4 := Tryz.isAgg4
  z4 := Tryz.sizeOf4
  v4 := Tryz.zeroValue4
  t5 := Tryz.underlying5
  a5 := Tryz.isAgg5
  z5 := Tryz.sizeOf5
  v5 := Tryz.zeroValue5
  t9 := Tryz.underlying9
  a9 := Tryz.isAgg9
  z9 := Tryz.sizeOf9
  v9 := Tryz.zeroValue9
  t26 := Tryz.underlying35
  a26 := Tryz.isAgg35
  z26 := Tryz.sizeOf35
  v26 := Tryz.zeroValue35
  t27 := Tryz.underlying35
  a27 := Tryz.isAgg35
  z27 := Tryz.sizeOf35
  v27 := Tryz.zeroValue35
  t29 := Tryz.underlying9
  a29 := Tryz.isAgg9
  z29 := Tryz.sizeOf9
  v29 := Tryz.zeroValue9
  t32 := Tryz.underlying102
  a32 := Tryz.isAgg102
  z32 := Tryz.sizeOf102
  v32 := Tryz.zeroValue102
  t35 := Tryz.underlying121
  a35 := Tryz.isAgg121
  z35 := Tryz.sizeOf121
  v35 := Tryz.zeroValue121
  t36 := Tryz.underlying122
  a36 := Tryz.isAgg122
  z36 := Tryz.sizeOf122
  v36 := Tryz.zeroValue122
  t41 := Tryz.underlying103
  a41 := Tryz.isAgg103
  z41 := Tryz.sizeOf103
  v41 := Tryz.zeroValue103
  t44 := Tryz.underlying129
  a44 := Tryz.isAgg129
  z44 := Tryz.sizeOf129
  v44 := Tryz.zeroValue129
  t46 := Tryz.underlying131
  a46 := Tryz.isAgg131
  z46 := Tryz.sizeOf131
  v46 := Tryz.zeroValue131
  t53 := Tryz.underlying137
  a53 := Tryz.isAgg137
  z53 := Tryz.sizeOf137
  v53 := Tryz.zeroValue137
  t57 := Tryz.underlying141
  a57 := Tryz.isAgg141
  z57 := Tryz.sizeOf141
  v57 := Tryz.zeroValue141
  t63 := Tryz.underlying145
  a63 := Tryz.isAgg145
  z63 := Tryz.sizeOf145
  v63 := Tryz.zeroValue145
  t64 := Tryz.underlying146
  a64 := Tryz.isAgg146
  z64 := Tryz.sizeOf146
  v64 := Tryz.zeroValue146 }
open Go.RowKit Go.Maps Go.Sort Go.Shelf
/-- slices.Sort's two contracts at this dump, at the fence that asks nothing. -/
theorem Tryz.sorts31 (m : Nat) : AnyZ.SortsIn Tryz.prog Tryz.sorted31_ren Fence.wide m :=
  ⟨fun blk off cap ss W hH hblk hsz => callsIn_wide.2 (AnyM.slices_Sort_string Tryz.sort53 blk off cap ss W hH hblk hsz),
   fun p cap W => callsIn_wide.2 (AnyM.slices_Sort_string_none Tryz.sort53 p cap W)⟩

/-- **maps.Keys[map[string]bool,string,bool], at whatever map, the nil one too:** a function value over ONE NEW BLOCK, which holds the map. -/
theorem Tryz.maps_Keys_32 (mb : Option Nat) (W : World) : CallsIn Fence.wide 5 Tryz.prog 32 #[.map mb] W fun e w' => e = .returned (.func (.func 54) #[] #[.pointer (some ⟨W.heap.size, 0, none⟩)]) ∧ w' = W.alloc (.cells #[.map mb] 54) :=
  AnyZ.keys_in Tryz.keys32 Fence.wide 5 trivial rfl mb W

set_option maxHeartbeats 1000000 in
/-- **slices.Sorted[string] AT WHAT maps.Keys[map[string]bool,string,bool] HANDED BACK FOR A MAP THAT IS NOT nil** ('w': the world AHEAD of maps.Keys' call): A NEW SLICE THAT HOLDS THE MAP's KEYS, SORTED; nil just where it has none; nothing that lay before has turned. -/
theorem Tryz.slices_Sorted_keys_31_32 {H : Type} (b nn : Nat) (D0 : DataW H) (R : Value → Option (DataW H × List MemPlace)) (w : World) (hown : w.ownsMap Tryz.prog 9 R b nn D0) (hmax : Maps.size D0 ≤ maxLen) (hbytes : Maps.size D0 * 16 ≤ 140737488355328) :
    CallsIn Fence.wide 5 Tryz.prog 31 #[.func (.func 54) #[] #[.pointer (some ⟨w.heap.size, 0, none⟩)]] (w.alloc (.cells #[.map (some b)] 54)) fun e w' => ∃ (v : Value) (ss : List (List UInt8)), e = .returned v ∧ ss.Perm (strKeys D0) ∧
      w'.ownsRow (w.alloc (.cells #[.map (some b)] 54)).heap.size 9 1 v ss.length ((ss.mergeSort (fun x y => decide (x ≤ y))).map encStr) ∧ (v = .slice none 0 0 ↔ ss = []) ∧ Below (w.alloc (.cells #[.map (some b)] 54)).heap.size (w.alloc (.cells #[.map (some b)] 54)) w' := by
  have hbl := hown.lt
  have hseq : SeqGives Fence.wide 2 Tryz.prog 54 #[.pointer (some ⟨w.heap.size, 0, none⟩)] encStr (fun ss => ss.Perm (strKeys D0)) (Maps.size D0) (w.alloc (.cells #[.map (some b)] 54)) :=
    AnyZ.keys_gives (ρ := Tryz.keys32_ren) { Tryz.keys32 with } Fence.wide _ trivial rfl (by omega) w.heap.size b nn D0 _ (by simp) (by simp) (by
      obtain ⟨es, clock, hb, Ft, hs, hD⟩ := hown
      exact ⟨es, clock, (Below.heap_alloc _ _ b hbl).trans hb, Ft, hs, hD⟩)
  exact AnyZ.sorted_in Tryz.sorted31 Fence.wide 5 trivial trivial trivial trivial rfl (by omega) (Tryz.sorts31 _) (enters_of Tryz.func53 (by kernel_rfl) rfl) 54 #[.pointer (some ⟨w.heap.size, 0, none⟩)] trivial (enters_of Tryz.func54 (by kernel_rfl) rfl) _ _ hmax hbytes _ hseq

set_option maxHeartbeats 1000000 in
/-- **.. AND FOR THE nil MAP: nil.** -/
theorem Tryz.slices_Sorted_keys_nil_31_32 (w : World) :
    CallsIn Fence.wide 5 Tryz.prog 31 #[.func (.func 54) #[] #[.pointer (some ⟨w.heap.size, 0, none⟩)]] (w.alloc (.cells #[.map none] 54)) fun e w' => ∃ (v : Value) (ss : List (List UInt8)), e = .returned v ∧ ss = [] ∧
      w'.ownsRow (w.alloc (.cells #[.map none] 54)).heap.size 9 1 v ss.length ((ss.mergeSort (fun x y => decide (x ≤ y))).map encStr) ∧ (v = .slice none 0 0 ↔ ss = []) ∧ Below (w.alloc (.cells #[.map none] 54)).heap.size (w.alloc (.cells #[.map none] 54)) w' := by
  have hseq : SeqGives Fence.wide 2 Tryz.prog 54 #[.pointer (some ⟨w.heap.size, 0, none⟩)] encStr (fun ss : List (List UInt8) => ss = []) 0 (w.alloc (.cells #[.map none] 54)) :=
    AnyZ.keys_gives_nil (ρ := Tryz.keys32_ren) { Tryz.keys32 with } Fence.wide _ trivial rfl w.heap.size _ (by simp) (by simp)
  exact AnyZ.sorted_in Tryz.sorted31 Fence.wide 5 trivial trivial trivial trivial rfl (by omega) (Tryz.sorts31 _) (enters_of Tryz.func53 (by kernel_rfl) rfl) 54 #[.pointer (some ⟨w.heap.size, 0, none⟩)] trivial (enters_of Tryz.func54 (by kernel_rfl) rfl) _ 0 (Nat.zero_le _) (by omega) _ hseq




end Go.Proofs
