/-
  The contracts of slices.Sorted and maps.Keys at this dump, laid by the kit's programs, in plain declarations.
  Rising rows of texts; the keys of a map, sorted.
-/
import Derived.Shelf.SlGeneric
import Derived.Shelf.SlIter.Nil
import Derived.Shelf.SortM.Plain
import Derived.Shelf.SortM.SortNone
import Derived.Ground.GgzProg
import Derived.Ground.SlgmProg
import Derived.Test.YtbejfgmdkmddnaaGreatDoorProg
import Derived.Test.YtbejfgmdkmddnaaGreatDoorSMapS
import Derived.OwnWalkIn
import Derived.CallsIn
namespace Go.Proofs
open Go.Shelf
def Tryz.keys112_ren : Go.Shelf.Ren := ⟨fun | 7 => 112 | 10 => 171 | n => n, fun | 23 => 82 | 26 => 9 | 3 => 4 | 28 => 176 | 0 => 0 | 27 => 175 | 33 => 117 | 4 => 4 | n => n, fun | n => n⟩
theorem Tryz.keys112 : Go.Proofs.SlLaysZ.n7 Tryz.prog Tryz.keys112_ren := {
  mixed := by kernel_rfl
  f7 := ⟨Tryz.f112.name, by decide, Tryz.func112.trans (congrArg some (by kernel_rfl))⟩
  f10 := ⟨Tryz.f171.name, by decide, Tryz.func171.trans (congrArg some (by kernel_rfl))⟩
  t0 := Tryz.underlying0
  a0 := Tryz.isAgg0
  z0 := Tryz.sizeOf0
  v0 := Tryz.zeroValue0
  t4 := Tryz.underlying4
  a4 := Tryz.isAgg4
  z4 := Tryz.sizeOf4
  v4 := Tryz.zeroValue4
  t23 := Tryz.underlying82
  a23 := Tryz.isAgg82
  z23 := Tryz.sizeOf82
  v23 := Tryz.zeroValue82
  t26 := Tryz.underlying9
  a26 := Tryz.isAgg9
  z26 := Tryz.sizeOf9
  v26 := Tryz.zeroValue9
  t27 := Tryz.underlying175
  a27 := Tryz.isAgg175
  z27 := Tryz.sizeOf175
  v27 := Tryz.zeroValue175
  t28 := Tryz.underlying176
  a28 := Tryz.isAgg176
  z28 := Tryz.sizeOf176
  v28 := Tryz.zeroValue176
  t33 := Tryz.underlying117
  a33 := Tryz.isAgg117
  z33 := Tryz.sizeOf117
  v33 := Tryz.zeroValue117 }
def Tryz.sorted111_ren : Go.Shelf.Ren := ⟨fun | 6 => 111 | 8 => 169 | 9 => 170 | 11 => 203 | 13 => 205 | 12 => 204 | 23 => 238 | 24 => 239 | 14 => 229 | 15 => 230 | 16 => 231 | 17 => 232 | 18 => 233 | 19 => 234 | 20 => 235 | 21 => 236 | 22 => 237 | 25 => 257 | 26 => 258 | 27 => 259 | 28 => 260 | 29 => 261 | 30 => 262 | 31 => 277 | n => n, fun | 26 => 9 | 28 => 176 | 24 => 40 | 0 => 0 | 3 => 3 | 37 => 152 | 48 => 153 | 50 => 236 | 4 => 4 | 40 => 266 | 39 => 265 | 45 => 184 | 5 => 5 | 9 => 9 | 51 => 288 | 55 => 292 | 57 => 302 | 58 => 106 | 33 => 117 | n => n, fun | n => n⟩
theorem Tryz.sorted111 : Go.Proofs.SlLaysZ.n6 Tryz.prog Tryz.sorted111_ren := {
  mixed := by kernel_rfl
  f6 := ⟨Tryz.f111.name, by decide, Tryz.func111.trans (congrArg some (by kernel_rfl))⟩
  f8 := ⟨Tryz.f169.name, by decide, Tryz.func169.trans (congrArg some (by kernel_rfl))⟩
  f11 := ⟨Tryz.f203.name, by decide, Tryz.func203.trans (congrArg some (by kernel_rfl))⟩
  t0 := Tryz.underlying0
  a0 := Tryz.isAgg0
  z0 := Tryz.sizeOf0
  v0 := Tryz.zeroValue0
  t24 := Tryz.underlying40
  a24 := Tryz.isAgg40
  z24 := Tryz.sizeOf40
  v24 := Tryz.zeroValue40
  t26 := Tryz.underlying9
  a26 := Tryz.isAgg9
  z26 := Tryz.sizeOf9
  v26 := Tryz.zeroValue9
  t28 := Tryz.underlying176
  a28 := Tryz.isAgg176
  z28 := Tryz.sizeOf176
  v28 := Tryz.zeroValue176
  i26 := by kernel_rfl }
def Tryz.sort170_ren : Go.Shelf.Ren := ⟨fun | 6 => 170 | 8 => 205 | 9 => 204 | 19 => 238 | 20 => 239 | 21 => 229 | 22 => 230 | 23 => 231 | 24 => 232 | 25 => 233 | 26 => 234 | 27 => 235 | 28 => 236 | 29 => 237 | 36 => 257 | 31 => 258 | 32 => 259 | 37 => 260 | 38 => 261 | 39 => 262 | 41 => 277 | n => n, fun | 27 => 40 | 29 => 9 | 3 => 3 | 32 => 152 | 26 => 40 | 0 => 0 | 44 => 153 | 46 => 236 | 4 => 4 | 36 => 266 | 35 => 265 | 41 => 184 | 5 => 5 | 9 => 9 | 53 => 288 | 57 => 292 | 63 => 302 | 64 => 106 | n => n, fun | n => n⟩
theorem Tryz.sort170 : Go.Proofs.SlLaysM.n6 Tryz.prog Tryz.sort170_ren := {
  mixed := by kernel_rfl
  f6 := ⟨Tryz.f170.name, by decide, Tryz.func170.trans (congrArg some (by kernel_rfl))⟩
  f8 := Tryz.func205.trans (congrArg some (by kernel_rfl))
  f9 := ⟨Tryz.f204.name, by decide, Tryz.func204.trans (congrArg some (by kernel_rfl))⟩
  f19 := Tryz.func238.trans (congrArg some (by kernel_rfl))
  f20 := Tryz.func239.trans (congrArg some (by kernel_rfl))
  f21 := ⟨Tryz.f229.name, by decide, Tryz.func229.trans (congrArg some (by kernel_rfl))⟩
  f22 := ⟨Tryz.f230.name, by decide, Tryz.func230.trans (congrArg some (by kernel_rfl))⟩
  f23 := ⟨Tryz.f231.name, by decide, Tryz.func231.trans (congrArg some (by kernel_rfl))⟩
  f24 := ⟨Tryz.f232.name, by decide, Tryz.func232.trans (congrArg some (by kernel_rfl))⟩
  f25 := ⟨Tryz.f233.name, by decide, Tryz.func233.trans (congrArg some (by kernel_rfl))⟩
  f26 := ⟨Tryz.f234.name, by decide, Tryz.func234.trans (congrArg some (by kernel_rfl))⟩
  f27 := ⟨Tryz.f235.name, by decide, Tryz.func235.trans (congrArg some (by kernel_rfl))⟩
  f28 := ⟨Tryz.f236.name, by decide, Tryz.func236.trans (congrArg some (by kernel_rfl))⟩
  f29 := ⟨Tryz.f237.name, by decide, Tryz.func237.trans (congrArg some (by kernel_rfl))⟩
  f31 := Tryz.func258.trans (congrArg some (by kernel_rfl))
  f32 := Tryz.func259.trans (congrArg some (by kernel_rfl))
  f36 := ⟨Tryz.f257.name, by decide, Tryz.func257.trans (congrArg some (by kernel_rfl))⟩
  f37 := ⟨Tryz.f260.name, by decide, Tryz.func260.trans (congrArg some (by kernel_rfl))⟩
  f38 := ⟨Tryz.f261.name, by decide, Tryz.func261.trans (congrArg some (by kernel_rfl))⟩
  f39 := ⟨Tryz.f262.name, by decide, Tryz.func262.trans (congrArg some (by kernel_rfl))⟩
  f41 := ⟨Tryz.f277.name, by decide, Tryz.func277.trans (congrArg some (by kernel_rfl))⟩
  t0 := Tryz.underlying0
  a0 := Tryz.isAgg0
  z0 := Tryz.sizeOf0
  v0 := Tryz.zeroValue0
  t3 := Tryz.underlying3
  a3 := Tryz.isAgg3
  z3 := Tryz.sizeOf3
  v3 := Tryz.zeroValue3
  t4 := Tryz.underlying4
  a4 := Tryz.isAgg4
  z4 := Tryz.sizeOf4
  v4 := Tryz.zeroValue4
  t5 := Tryz.underlying5
  a5 := Tryz.isAgg5
  z5 := Tryz.sizeOf5
  v5 := Tryz.zeroValue5
  t9 := Tryz.underlying9
  a9 := Tryz.isAgg9
  z9 := Tryz.sizeOf9
  v9 := Tryz.zeroValue9
  t26 := Tryz.underlying40
  a26 := Tryz.isAgg40
  z26 := Tryz.sizeOf40
  v26 := Tryz.zeroValue40
  t27 := Tryz.underlying40
  a27 := Tryz.isAgg40
  z27 := Tryz.sizeOf40
  v27 := Tryz.zeroValue40
  t29 := Tryz.underlying9
  a29 := Tryz.isAgg9
  z29 := Tryz.sizeOf9
  v29 := Tryz.zeroValue9
  t32 := Tryz.underlying152
  a32 := Tryz.isAgg152
  z32 := Tryz.sizeOf152
  v32 := Tryz.zeroValue152
  t35 := Tryz.underlying265
  a35 := Tryz.isAgg265
  z35 := Tryz.sizeOf265
  v35 := Tryz.zeroValue265
  t36 := Tryz.underlying266
  a36 := Tryz.isAgg266
  z36 := Tryz.sizeOf266
  v36 := Tryz.zeroValue266
  t41 := Tryz.underlying184
  a41 := Tryz.isAgg184
  z41 := Tryz.sizeOf184
  v41 := Tryz.zeroValue184
  t44 := Tryz.underlying153
  a44 := Tryz.isAgg153
  z44 := Tryz.sizeOf153
  v44 := Tryz.zeroValue153
  t46 := Tryz.underlying236
  a46 := Tryz.isAgg236
  z46 := Tryz.sizeOf236
  v46 := Tryz.zeroValue236
  t53 := Tryz.underlying288
  a53 := Tryz.isAgg288
  z53 := Tryz.sizeOf288
  v53 := Tryz.zeroValue288
  t57 := Tryz.underlying292
  a57 := Tryz.isAgg292
  z57 := Tryz.sizeOf292
  v57 := Tryz.zeroValue292
  t63 := Tryz.underlying302
  a63 := Tryz.isAgg302
  z63 := Tryz.sizeOf302
  v63 := Tryz.zeroValue302
  t64 := Tryz.underlying106
  a64 := Tryz.isAgg106
  z64 := Tryz.sizeOf106
  v64 := Tryz.zeroValue106 }
def Tryz.keys167_ren : Go.Shelf.Ren := ⟨fun | 7 => 167 | 10 => 201 | n => n, fun | 23 => 134 | 26 => 9 | 3 => 142 | 28 => 176 | 0 => 0 | 27 => 175 | 33 => 117 | 4 => 4 | n => n, fun | n => n⟩
theorem Tryz.keys167 : Go.Proofs.SlLaysZ.n7 Tryz.prog Tryz.keys167_ren := {
  mixed := by kernel_rfl
  f7 := ⟨Tryz.f167.name, by decide, Tryz.func167.trans (congrArg some (by kernel_rfl))⟩
  f10 := ⟨Tryz.f201.name, by decide, Tryz.func201.trans (congrArg some (by kernel_rfl))⟩
  t0 := Tryz.underlying0
  a0 := Tryz.isAgg0
  z0 := Tryz.sizeOf0
  v0 := Tryz.zeroValue0
  t4 := Tryz.underlying4
  a4 := Tryz.isAgg4
  z4 := Tryz.sizeOf4
  v4 := Tryz.zeroValue4
  t23 := Tryz.underlying134
  a23 := Tryz.isAgg134
  z23 := Tryz.sizeOf134
  v23 := Tryz.zeroValue134
  t26 := Tryz.underlying9
  a26 := Tryz.isAgg9
  z26 := Tryz.sizeOf9
  v26 := Tryz.zeroValue9
  t27 := Tryz.underlying175
  a27 := Tryz.isAgg175
  z27 := Tryz.sizeOf175
  v27 := Tryz.zeroValue175
  t28 := Tryz.underlying176
  a28 := Tryz.isAgg176
  z28 := Tryz.sizeOf176
  v28 := Tryz.zeroValue176
  t33 := Tryz.underlying117
  a33 := Tryz.isAgg117
  z33 := Tryz.sizeOf117
  v33 := Tryz.zeroValue117 }
def Tryz.keys168_ren : Go.Shelf.Ren := ⟨fun | 7 => 168 | 10 => 202 | n => n, fun | 23 => 137 | 26 => 9 | 3 => 171 | 28 => 176 | 0 => 0 | 27 => 175 | 33 => 117 | 4 => 4 | n => n, fun | n => n⟩
theorem Tryz.keys168 : Go.Proofs.SlLaysZ.n7 Tryz.prog Tryz.keys168_ren := {
  mixed := by kernel_rfl
  f7 := ⟨Tryz.f168.name, by decide, Tryz.func168.trans (congrArg some (by kernel_rfl))⟩
  f10 := ⟨Tryz.f202.name, by decide, Tryz.func202.trans (congrArg some (by kernel_rfl))⟩
  t0 := Tryz.underlying0
  a0 := Tryz.isAgg0
  z0 := Tryz.sizeOf0
  v0 := Tryz.zeroValue0
  t4 := Tryz.underlying4
  a4 := Tryz.isAgg4
  z4 := Tryz.sizeOf4
  v4 := Tryz.zeroValue4
  t23 := Tryz.underlying137
  a23 := Tryz.isAgg137
  z23 := Tryz.sizeOf137
  v23 := Tryz.zeroValue137
  t26 := Tryz.underlying9
  a26 := Tryz.isAgg9
  z26 := Tryz.sizeOf9
  v26 := Tryz.zeroValue9
  t27 := Tryz.underlying175
  a27 := Tryz.isAgg175
  z27 := Tryz.sizeOf175
  v27 := Tryz.zeroValue175
  t28 := Tryz.underlying176
  a28 := Tryz.isAgg176
  z28 := Tryz.sizeOf176
  v28 := Tryz.zeroValue176
  t33 := Tryz.underlying117
  a33 := Tryz.isAgg117
  z33 := Tryz.sizeOf117
  v33 := Tryz.zeroValue117 }
open Go.RowKit Go.Maps Go.Sort Go.Shelf
/-- slices.Sort's two contracts at this dump, at the fence that asks nothing. -/
theorem Tryz.sorts111 (m : Nat) : AnyZ.SortsIn Tryz.prog Tryz.sorted111_ren Fence.wide m :=
  ⟨fun blk off cap ss W hH hblk hsz => callsIn_wide.2 (AnyM.slices_Sort_string Tryz.sort170 blk off cap ss W hH hblk hsz),
   fun p cap W => callsIn_wide.2 (AnyM.slices_Sort_string_none Tryz.sort170 p cap W)⟩

/-- **maps.Keys[map[string]bool,string,bool], at whatever map, the nil one too:** a function value over ONE NEW BLOCK, which holds the map. -/
theorem Tryz.maps_Keys_112 (mb : Option Nat) (W : World) : CallsIn Fence.wide 5 Tryz.prog 112 #[.map mb] W fun e w' => e = .returned (.func (.func 171) #[] #[.pointer (some ⟨W.heap.size, 0, none⟩)]) ∧ w' = W.alloc (.cells #[.map mb] 82) :=
  AnyZ.keys_in Tryz.keys112 Fence.wide 5 trivial rfl mb W

set_option maxHeartbeats 1000000 in
/-- **slices.Sorted[string] AT WHAT maps.Keys[map[string]bool,string,bool] HANDED BACK FOR A MAP THAT IS NOT nil** ('w': the world AHEAD of maps.Keys' call): A NEW SLICE THAT HOLDS THE MAP's KEYS, SORTED; nil just where it has none; nothing that lay before has turned. -/
theorem Tryz.slices_Sorted_keys_111_112 {H : Type} (b nn : Nat) (D0 : DataW H) (R : Value → Option (DataW H × List MemPlace)) (w : World) (hown : w.ownsMap Tryz.prog 9 R b nn D0) (hmax : Maps.size D0 ≤ maxLen) (hbytes : Maps.size D0 * 16 ≤ 140737488355328) :
    CallsIn Fence.wide 5 Tryz.prog 111 #[.func (.func 171) #[] #[.pointer (some ⟨w.heap.size, 0, none⟩)]] (w.alloc (.cells #[.map (some b)] 82)) fun e w' => ∃ (v : Value) (ss : List (List UInt8)), e = .returned v ∧ ss.Perm (strKeys D0) ∧
      w'.ownsRow (w.alloc (.cells #[.map (some b)] 82)).heap.size 9 1 v ss.length ((ss.mergeSort (fun x y => decide (x ≤ y))).map encStr) ∧ (v = .slice none 0 0 ↔ ss = []) ∧ Below (w.alloc (.cells #[.map (some b)] 82)).heap.size (w.alloc (.cells #[.map (some b)] 82)) w' := by
  have hbl := hown.lt
  have hseq : SeqGives Fence.wide 2 Tryz.prog 171 #[.pointer (some ⟨w.heap.size, 0, none⟩)] encStr (fun ss => ss.Perm (strKeys D0)) (Maps.size D0) (w.alloc (.cells #[.map (some b)] 82)) :=
    AnyZ.keys_gives (ρ := Tryz.keys112_ren) { Tryz.keys112 with } Fence.wide _ trivial rfl (by omega) w.heap.size b nn D0 _ (by simp) (by simp) (by
      obtain ⟨es, clock, hb, Ft, hs, hD⟩ := hown
      exact ⟨es, clock, (Below.heap_alloc _ _ b hbl).trans hb, Ft, hs, hD⟩)
  exact AnyZ.sorted_in Tryz.sorted111 Fence.wide 5 trivial trivial trivial trivial rfl (by omega) (Tryz.sorts111 _) (enters_of Tryz.func170 (by kernel_rfl) rfl) 171 #[.pointer (some ⟨w.heap.size, 0, none⟩)] trivial (enters_of Tryz.func171 (by kernel_rfl) rfl) _ _ hmax hbytes _ hseq

/-- **maps.Keys[map[string]cicerone/clock.source,string,cicerone/clock.source], at whatever map, the nil one too:** a function value over ONE NEW BLOCK, which holds the map. -/
theorem Tryz.maps_Keys_167 (mb : Option Nat) (W : World) : CallsIn Fence.wide 5 Tryz.prog 167 #[.map mb] W fun e w' => e = .returned (.func (.func 201) #[] #[.pointer (some ⟨W.heap.size, 0, none⟩)]) ∧ w' = W.alloc (.cells #[.map mb] 134) :=
  AnyZ.keys_in Tryz.keys167 Fence.wide 5 trivial rfl mb W

set_option maxHeartbeats 1000000 in
/-- **slices.Sorted[string] AT WHAT maps.Keys[map[string]cicerone/clock.source,string,cicerone/clock.source] HANDED BACK FOR A MAP THAT IS NOT nil** ('w': the world AHEAD of maps.Keys' call): A NEW SLICE THAT HOLDS THE MAP's KEYS, SORTED; nil just where it has none; nothing that lay before has turned. -/
theorem Tryz.slices_Sorted_keys_111_167 {H : Type} (b nn : Nat) (D0 : DataW H) (R : Value → Option (DataW H × List MemPlace)) (w : World) (hown : w.ownsMap Tryz.prog 9 R b nn D0) (hmax : Maps.size D0 ≤ maxLen) (hbytes : Maps.size D0 * 16 ≤ 140737488355328) :
    CallsIn Fence.wide 5 Tryz.prog 111 #[.func (.func 201) #[] #[.pointer (some ⟨w.heap.size, 0, none⟩)]] (w.alloc (.cells #[.map (some b)] 134)) fun e w' => ∃ (v : Value) (ss : List (List UInt8)), e = .returned v ∧ ss.Perm (strKeys D0) ∧
      w'.ownsRow (w.alloc (.cells #[.map (some b)] 134)).heap.size 9 1 v ss.length ((ss.mergeSort (fun x y => decide (x ≤ y))).map encStr) ∧ (v = .slice none 0 0 ↔ ss = []) ∧ Below (w.alloc (.cells #[.map (some b)] 134)).heap.size (w.alloc (.cells #[.map (some b)] 134)) w' := by
  have hbl := hown.lt
  have hseq : SeqGives Fence.wide 2 Tryz.prog 201 #[.pointer (some ⟨w.heap.size, 0, none⟩)] encStr (fun ss => ss.Perm (strKeys D0)) (Maps.size D0) (w.alloc (.cells #[.map (some b)] 134)) :=
    AnyZ.keys_gives (ρ := Tryz.keys167_ren) { Tryz.keys167 with } Fence.wide _ trivial rfl (by omega) w.heap.size b nn D0 _ (by simp) (by simp) (by
      obtain ⟨es, clock, hb, Ft, hs, hD⟩ := hown
      exact ⟨es, clock, (Below.heap_alloc _ _ b hbl).trans hb, Ft, hs, hD⟩)
  exact AnyZ.sorted_in Tryz.sorted111 Fence.wide 5 trivial trivial trivial trivial rfl (by omega) (Tryz.sorts111 _) (enters_of Tryz.func170 (by kernel_rfl) rfl) 201 #[.pointer (some ⟨w.heap.size, 0, none⟩)] trivial (enters_of Tryz.func201 (by kernel_rfl) rfl) _ _ hmax hbytes _ hseq

/-- **maps.Keys[map[string][]cicerone/dedupe.Range,string,[]cicerone/dedupe.Range], at whatever map, the nil one too:** a function value over ONE NEW BLOCK, which holds the map. -/
theorem Tryz.maps_Keys_168 (mb : Option Nat) (W : World) : CallsIn Fence.wide 5 Tryz.prog 168 #[.map mb] W fun e w' => e = .returned (.func (.func 202) #[] #[.pointer (some ⟨W.heap.size, 0, none⟩)]) ∧ w' = W.alloc (.cells #[.map mb] 137) :=
  AnyZ.keys_in Tryz.keys168 Fence.wide 5 trivial rfl mb W

set_option maxHeartbeats 1000000 in
/-- **slices.Sorted[string] AT WHAT maps.Keys[map[string][]cicerone/dedupe.Range,string,[]cicerone/dedupe.Range] HANDED BACK FOR A MAP THAT IS NOT nil** ('w': the world AHEAD of maps.Keys' call): A NEW SLICE THAT HOLDS THE MAP's KEYS, SORTED; nil just where it has none; nothing that lay before has turned. -/
theorem Tryz.slices_Sorted_keys_111_168 {H : Type} (b nn : Nat) (D0 : DataW H) (R : Value → Option (DataW H × List MemPlace)) (w : World) (hown : w.ownsMap Tryz.prog 9 R b nn D0) (hmax : Maps.size D0 ≤ maxLen) (hbytes : Maps.size D0 * 16 ≤ 140737488355328) :
    CallsIn Fence.wide 5 Tryz.prog 111 #[.func (.func 202) #[] #[.pointer (some ⟨w.heap.size, 0, none⟩)]] (w.alloc (.cells #[.map (some b)] 137)) fun e w' => ∃ (v : Value) (ss : List (List UInt8)), e = .returned v ∧ ss.Perm (strKeys D0) ∧
      w'.ownsRow (w.alloc (.cells #[.map (some b)] 137)).heap.size 9 1 v ss.length ((ss.mergeSort (fun x y => decide (x ≤ y))).map encStr) ∧ (v = .slice none 0 0 ↔ ss = []) ∧ Below (w.alloc (.cells #[.map (some b)] 137)).heap.size (w.alloc (.cells #[.map (some b)] 137)) w' := by
  have hbl := hown.lt
  have hseq : SeqGives Fence.wide 2 Tryz.prog 202 #[.pointer (some ⟨w.heap.size, 0, none⟩)] encStr (fun ss => ss.Perm (strKeys D0)) (Maps.size D0) (w.alloc (.cells #[.map (some b)] 137)) :=
    AnyZ.keys_gives (ρ := Tryz.keys168_ren) { Tryz.keys168 with } Fence.wide _ trivial rfl (by omega) w.heap.size b nn D0 _ (by simp) (by simp) (by
      obtain ⟨es, clock, hb, Ft, hs, hD⟩ := hown
      exact ⟨es, clock, (Below.heap_alloc _ _ b hbl).trans hb, Ft, hs, hD⟩)
  exact AnyZ.sorted_in Tryz.sorted111 Fence.wide 5 trivial trivial trivial trivial rfl (by omega) (Tryz.sorts111 _) (enters_of Tryz.func170 (by kernel_rfl) rfl) 202 #[.pointer (some ⟨w.heap.size, 0, none⟩)] trivial (enters_of Tryz.func202 (by kernel_rfl) rfl) _ _ hmax hbytes _ hseq

end Go.Proofs
namespace Go.Proofs.YtbejfgmdkmddnaaGreatDoor
open Go.RowKit Go.Maps Go.Sort Go.Shelf

/-- a rising row of texts that holds just these -/
def Rising (r ks : List (List UInt8)) : Prop := r.Pairwise (· < ·) ∧ ∀ x, x ∈ r ↔ x ∈ ks

theorem lt_irr (x : List UInt8) : ¬ x < x := List.lt_irrefl x
theorem lt_asy {x y : List UInt8} (h : x < y) (h' : y < x) : False := lt_irr x (List.lt_trans h h')

theorem rising_unique {r r' ks : List (List UInt8)} (h : Rising r ks) (h' : Rising r' ks) : r = r' := by
  have key : ∀ (r r' : List (List UInt8)), r.Pairwise (· < ·) → r'.Pairwise (· < ·) → (∀ x, x ∈ r ↔ x ∈ r') → r = r' := by
    intro r
    induction r with
    | nil => intro r' _ _ hm; cases r' with
      | nil => rfl
      | cons a l => exact absurd ((hm a).2 List.mem_cons_self) (by simp)
    | cons a l ih =>
      intro r' h1 h2 hm
      cases r' with
      | nil => exact absurd ((hm a).1 List.mem_cons_self) (by simp)
      | cons b l' =>
        have h1' := List.pairwise_cons.1 h1
        have h2' := List.pairwise_cons.1 h2
        have hab : a = b := by
          rcases List.mem_cons.1 ((hm a).1 List.mem_cons_self) with e | e
          · exact e
          · rcases List.mem_cons.1 ((hm b).2 List.mem_cons_self) with e' | e'
            · exact e'.symm
            · exact (lt_asy (h1'.1 b e') (h2'.1 a e)).elim
        subst hab
        congr 1
        refine ih l' h1'.2 h2'.2 fun x => ⟨fun hx => ?_, fun hx => ?_⟩
        · rcases List.mem_cons.1 ((hm x).1 (List.mem_cons_of_mem _ hx)) with e | e
          · subst e; exact (lt_irr x (h1'.1 x hx)).elim
          · exact e
        · rcases List.mem_cons.1 ((hm x).2 (List.mem_cons_of_mem _ hx)) with e | e
          · subst e; exact (lt_irr x (h2'.1 x hx)).elim
          · exact e
  exact key r r' h.1 h'.1 fun x => (h.2 x).trans (h'.2 x).symm

theorem rising_sort {ss ks : List (List UInt8)} (hnd : ss.Nodup) (hm : ∀ x, x ∈ ss ↔ x ∈ ks) : Rising (ss.mergeSort (fun x y => decide (x ≤ y))) ks := by
  have hp := List.mergeSort_perm ss (fun x y => decide (x ≤ y))
  have hs := List.pairwise_mergeSort (le := fun x y : List UInt8 => decide (x ≤ y)) (fun a b c h1 h2 => by simp at *; exact List.le_trans h1 h2) (fun a b => by simp; exact List.le_total a b) ss
  have hn : (ss.mergeSort (fun x y => decide (x ≤ y))).Nodup := hp.nodup_iff.2 hnd
  refine ⟨?_, fun x => hp.mem_iff.trans (hm x)⟩
  refine List.pairwise_iff_getElem.2 fun i j hi hj hij => ?_
  have h1 := List.pairwise_iff_getElem.1 hs i j hi hj hij
  have h2 := List.pairwise_iff_getElem.1 hn i j hi hj hij
  generalize (ss.mergeSort (fun x y => decide (x ≤ y)))[i] = a at *
  generalize (ss.mergeSort (fun x y => decide (x ≤ y)))[j] = b at *
  have h1' : a ≤ b := by simpa using h1
  rcases Decidable.em (a < b) with h | h
  · exact h
  · exact absurd (List.le_antisymm h1' (by exact List.not_lt.1 h)) h2

theorem strKeys_mapD (r : Row Value) : strKeys (mapD r) = r.map (·.1) := by
  unfold mapD strKeys
  simp [Function.comp_def]
  intro a b _; rfl
theorem bb_lt {a b : List UInt8} (h : bytesBefore a b = true) : a < b := by
  have key : ∀ a b : List UInt8, Op.bytesLess a b = bytesBefore a b := fun a => by
    induction a with
    | nil => intro b; cases b <;> simp [Op.bytesLess, bytesBefore]
    | cons x a ih => intro b; cases b with
      | nil => simp [Op.bytesLess, bytesBefore]
      | cons y b => simp only [Op.bytesLess, bytesBefore, ih b]
  rw [← key, bytesLess_eq] at h
  exact of_decide_eq_true h
theorem keys_rising {α : Type} {m : Row α} (h : RowUp m) : Rising (m.map (·.1)) (m.map (·.1)) := ⟨List.pairwise_map.2 (h.imp fun h => bb_lt h), fun _ => Iff.rfl⟩
def SrcPost (w : World) (ks : List (List UInt8)) (e : Ending) (w' : World) : Prop := ∃ v, e = .returned v ∧ w'.ownsRow w.heap.size 9 1 v ks.length (ks.map encStr) ∧ Below w.heap.size w w'
end Go.Proofs.YtbejfgmdkmddnaaGreatDoor
