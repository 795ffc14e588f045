/-
  Answers: a truth; a row of events; an event of a person's.
  sort.Search: a closure that makes memory, and changes nothing that was there.
  The contracts of slices.Sorted and maps.Keys at this dump, laid by the kit's programs, in plain declarations.
  Rising rows of texts; the keys of a map, sorted.
  Layer 31: an answer of texts that rise.
-/
import Derived.Test.YtgbagjpokpchpaaGreatDoorRSets
import Derived.Test.YtgbagjpokpchpaaGreatDoorRHadPlain
import Derived.Lib.Walk
import Derived.Shelf.SlGeneric
import Derived.Shelf.SlIter.Nil
import Derived.Shelf.SortM.Plain
import Derived.Shelf.SortM.SortNone
import Derived.Ground.GgzProg
import Derived.Ground.SlgmProg
import Derived.Test.YtgbagjpokpchpaaGreatDoorProg
import Derived.Test.YtgbagjpokpchpaaGreatDoorRRowK
import Derived.OwnWalkIn
import Derived.CallsIn
namespace Go.Proofs.YtgbagjpokpchpaaGreatDoor
open Go.RowKit

/-- it gives b, and changes nothing that was there -/
def Says (b : Bool) (w : World) (e : Ending) (w' : World) : Prop := e = .returned (.bool b) ∧ Below w.heap.size w w'

/-- v is a slice of the call's own that holds just these events -/
def OwnE (w : World) (base : Nat) (v : Value) (es : List Ev) : Prop := w.ownsRow base 28 8 v es.length (evCells es)

def SievePost (w : World) (es : List Ev) (p : Ev → Bool) (e : Ending) (w' : World) : Prop :=
  ∃ v, e = .returned v ∧ OwnE w' w.heap.size v (es.filter p) ∧ Below w.heap.size w w'

theorem OwnE.base_le {w : World} {base base' : Nat} {v : Value} {es : List Ev} (h : OwnE w base v es) (hb : base' ≤ base) : OwnE w base' v es := by
  refine ⟨h.1, ?_⟩
  rcases h.2 with ⟨e, hl⟩ | ⟨g, cap, cur, e, hb', hg, hr⟩
  · exact .inl ⟨e, hl⟩
  · exact .inr ⟨g, cap, cur, e, by omega, hg, hr⟩

end Go.Proofs.YtgbagjpokpchpaaGreatDoor
namespace Go.Proofs.YtgbagjpokpchpaaGreatDoor
open Go.RowKit

/-- the first place from which on p holds -/
def SearchPost (n : Nat) (p : Nat → Bool) (w : World) (e : Ending) (w' : World) : Prop := ∃ k : Nat, e = .returned (.int .i64 k) ∧ k ≤ n ∧ (∀ i, i < k → p i = false) ∧ (∀ i, k ≤ i → i < n → p i = true) ∧ Below w.heap.size w w'
def SearchRel (n : Nat) (p : Nat → Bool) (w : World) (s5 s6 : Value) (wr : World) : Prop := ∃ lo hi : Nat, s5 = .int .i64 lo ∧ s6 = .int .i64 hi ∧ lo ≤ hi ∧ hi ≤ n ∧ Below w.heap.size w wr ∧ (∀ i, i < lo → p i = false) ∧ (∀ i, hi ≤ i → i < n → p i = true)

set_option maxHeartbeats 1000000 in
set_option maxRecDepth 100000 in
theorem search_any (w : World) (g : Nat) (cb : Array Value) (n : Nat) (p : Nat → Bool) (hn : n ≤ 1000000000) (hcall : ∀ (args : Array Value) (w : World), (callFunc g args).run Tryz.prog w = .ok (.enter g args) w)
    (hf : ∀ (w1 : World) (i : Nat), Below w.heap.size w w1 → i < n → Calls Tryz.prog g (#[.int .i64 i] ++ cb) w1 (Says (p i) w1)) (hmono : ∀ i j, i ≤ j → j < n → p i = true → p j = true) :
    Calls Tryz.prog 49 #[.int .i64 n, .func (.func g) #[] cb] w (SearchPost n p w) := by
  have HF := Lib.hid hf; have HM := Lib.hid hmono
  clear hf hmono
  go_enter Tryz.func49, Tryz.ntmps49
  go_wp2
  go_loopw [5, 6] (fun s5 s6 wr => SearchRel n p w s5 s6 wr) (fun s5 s6 _ => (intOf s6 - intOf s5).toNat)
  case atStart => exact ⟨0, n, rfl, rfl, Nat.zero_le _, Nat.le_refl _, Below.refl _ _, fun i h => by omega, fun i h h' => by omega⟩
  case round =>
    obtain ⟨lo, hi, rfl, rfl, hlh, hhn, hbel, h1, h2⟩ := hrel
    have H1 := Lib.hid h1; have H2 := Lib.hid h2
    clear h1 h2
    by_cases hlt : lo < hi
    · have hc := HF.out wr ((lo + hi) / 2) hbel (by omega)
      rw [show (((lo + hi) / 2 : Nat) : Int) = ((lo : Int) + (hi : Int)) / 2 by omega] at hc
      have HC := Lib.hid hc; clear hc
      go_wp2_with fail
      refine HC.out.mono ?_
      rintro e w1 ⟨rfl, hb1⟩
      have hbw : Below w.heap.size w w1 := hbel.trans (hb1.mono hbel.size)
      clear hb1 hcall
      cases hp : p ((lo + hi) / 2)
      · have HP := Lib.hid hp
        clear hp
        go_wp2
        go_roundw
        case rel =>
          refine ⟨(lo + hi) / 2 + 1, hi, by go_num, rfl, by omega, hhn, hbw, fun i hi' => ?_, H2.out⟩
          cases hpi : p i
          · rfl
          · have := HM.out i ((lo + hi) / 2) (by omega) (by omega) hpi
            rw [HP.out] at this; cases this
        case measure => simp [intOf]; omega
      · have HP := Lib.hid hp
        clear hp
        go_wp2
        go_roundw
        case rel =>
          refine ⟨lo, (lo + hi) / 2, rfl, by go_num, by omega, by omega, hbw, H1.out, fun i hi' hn' => ?_⟩
          exact HM.out _ _ hi' hn' HP.out
        case measure => simp [intOf]; omega
    · have e : hi = lo := by omega
      have HE := Lib.hid e
      clear e
      go_wp2
      go_ret
      exact ⟨lo, rfl, by omega, H1.out, fun i hi' hn' => H2.out i (by rw [HE.out]; exact hi') hn', hbel⟩
end Go.Proofs.YtgbagjpokpchpaaGreatDoor
namespace Go.Proofs
open Go.Shelf
def Tryz.keys34_ren : Go.Shelf.Ren := ⟨fun | 7 => 34 | 10 => 62 | n => n, fun | 23 => 66 | 26 => 9 | 3 => 4 | 28 => 71 | 0 => 0 | 27 => 70 | 33 => 98 | 4 => 4 | n => n, fun | n => n⟩
theorem Tryz.keys34 : Go.Proofs.SlLaysZ.n7 Tryz.prog Tryz.keys34_ren := {
  mixed := by kernel_rfl
  f7 := ⟨Tryz.f34.name, by decide, Tryz.func34.trans (congrArg some (by kernel_rfl))⟩
  f10 := ⟨Tryz.f62.name, by decide, Tryz.func62.trans (congrArg some (by kernel_rfl))⟩
  t0 := Tryz.underlying0
  a0 := Tryz.isAgg0
  z0 := Tryz.sizeOf0
  v0 := Tryz.zeroValue0
  t4 := Tryz.underlying4
  a4 := Tryz.isAgg4
  z4 := Tryz.sizeOf4
  v4 := Tryz.zeroValue4
  t23 := Tryz.underlying66
  a23 := Tryz.isAgg66
  z23 := Tryz.sizeOf66
  v23 := Tryz.zeroValue66
  t26 := Tryz.underlying9
  a26 := Tryz.isAgg9
  z26 := Tryz.sizeOf9
  v26 := Tryz.zeroValue9
  t27 := Tryz.underlying70
  a27 := Tryz.isAgg70
  z27 := Tryz.sizeOf70
  v27 := Tryz.zeroValue70
  t28 := Tryz.underlying71
  a28 := Tryz.isAgg71
  z28 := Tryz.sizeOf71
  v28 := Tryz.zeroValue71
  t33 := Tryz.underlying98
  a33 := Tryz.isAgg98
  z33 := Tryz.sizeOf98
  v33 := Tryz.zeroValue98 }
def Tryz.sorted33_ren : Go.Shelf.Ren := ⟨fun | 6 => 33 | 8 => 60 | 9 => 61 | 11 => 104 | 13 => 106 | 12 => 105 | 23 => 155 | 24 => 156 | 14 => 146 | 15 => 147 | 16 => 148 | 17 => 149 | 18 => 150 | 19 => 151 | 20 => 152 | 21 => 153 | 22 => 154 | 25 => 188 | 26 => 189 | 27 => 190 | 28 => 191 | 29 => 192 | 30 => 193 | 31 => 214 | n => n, fun | 26 => 9 | 28 => 71 | 24 => 38 | 0 => 0 | 3 => 3 | 37 => 139 | 48 => 213 | 50 => 215 | 4 => 4 | 40 => 206 | 39 => 205 | 45 => 170 | 5 => 5 | 9 => 9 | 51 => 233 | 55 => 237 | 57 => 255 | 58 => 119 | 33 => 98 | n => n, fun | n => n⟩
theorem Tryz.sorted33 : Go.Proofs.SlLaysZ.n6 Tryz.prog Tryz.sorted33_ren := {
  mixed := by kernel_rfl
  f6 := ⟨Tryz.f33.name, by decide, Tryz.func33.trans (congrArg some (by kernel_rfl))⟩
  f8 := ⟨Tryz.f60.name, by decide, Tryz.func60.trans (congrArg some (by kernel_rfl))⟩
  f11 := ⟨Tryz.f104.name, by decide, Tryz.func104.trans (congrArg some (by kernel_rfl))⟩
  t0 := Tryz.underlying0
  a0 := Tryz.isAgg0
  z0 := Tryz.sizeOf0
  v0 := Tryz.zeroValue0
  t24 := Tryz.underlying38
  a24 := Tryz.isAgg38
  z24 := Tryz.sizeOf38
  v24 := Tryz.zeroValue38
  t26 := Tryz.underlying9
  a26 := Tryz.isAgg9
  z26 := Tryz.sizeOf9
  v26 := Tryz.zeroValue9
  t28 := Tryz.underlying71
  a28 := Tryz.isAgg71
  z28 := Tryz.sizeOf71
  v28 := Tryz.zeroValue71
  i26 := by kernel_rfl }
def Tryz.sort61_ren : Go.Shelf.Ren := ⟨fun | 6 => 61 | 8 => 106 | 9 => 105 | 19 => 155 | 20 => 156 | 21 => 146 | 22 => 147 | 23 => 148 | 24 => 149 | 25 => 150 | 26 => 151 | 27 => 152 | 28 => 153 | 29 => 154 | 36 => 188 | 31 => 189 | 32 => 190 | 37 => 191 | 38 => 192 | 39 => 193 | 41 => 214 | n => n, fun | 27 => 38 | 29 => 9 | 3 => 3 | 32 => 139 | 26 => 38 | 0 => 0 | 44 => 213 | 46 => 215 | 4 => 4 | 36 => 206 | 35 => 205 | 41 => 170 | 5 => 5 | 9 => 9 | 53 => 233 | 57 => 237 | 63 => 255 | 64 => 119 | n => n, fun | n => n⟩
theorem Tryz.sort61 : Go.Proofs.SlLaysM.n6 Tryz.prog Tryz.sort61_ren := {
  mixed := by kernel_rfl
  f6 := ⟨Tryz.f61.name, by decide, Tryz.func61.trans (congrArg some (by kernel_rfl))⟩
  f8 := Tryz.func106.trans (congrArg some (by kernel_rfl))
  f9 := ⟨Tryz.f105.name, by decide, Tryz.func105.trans (congrArg some (by kernel_rfl))⟩
  f19 := Tryz.func155.trans (congrArg some (by kernel_rfl))
  f20 := Tryz.func156.trans (congrArg some (by kernel_rfl))
  f21 := ⟨Tryz.f146.name, by decide, Tryz.func146.trans (congrArg some (by kernel_rfl))⟩
  f22 := ⟨Tryz.f147.name, by decide, Tryz.func147.trans (congrArg some (by kernel_rfl))⟩
  f23 := ⟨Tryz.f148.name, by decide, Tryz.func148.trans (congrArg some (by kernel_rfl))⟩
  f24 := ⟨Tryz.f149.name, by decide, Tryz.func149.trans (congrArg some (by kernel_rfl))⟩
  f25 := ⟨Tryz.f150.name, by decide, Tryz.func150.trans (congrArg some (by kernel_rfl))⟩
  f26 := ⟨Tryz.f151.name, by decide, Tryz.func151.trans (congrArg some (by kernel_rfl))⟩
  f27 := ⟨Tryz.f152.name, by decide, Tryz.func152.trans (congrArg some (by kernel_rfl))⟩
  f28 := ⟨Tryz.f153.name, by decide, Tryz.func153.trans (congrArg some (by kernel_rfl))⟩
  f29 := ⟨Tryz.f154.name, by decide, Tryz.func154.trans (congrArg some (by kernel_rfl))⟩
  f31 := Tryz.func189.trans (congrArg some (by kernel_rfl))
  f32 := Tryz.func190.trans (congrArg some (by kernel_rfl))
  f36 := ⟨Tryz.f188.name, by decide, Tryz.func188.trans (congrArg some (by kernel_rfl))⟩
  f37 := ⟨Tryz.f191.name, by decide, Tryz.func191.trans (congrArg some (by kernel_rfl))⟩
  f38 := ⟨Tryz.f192.name, by decide, Tryz.func192.trans (congrArg some (by kernel_rfl))⟩
  f39 := ⟨Tryz.f193.name, by decide, Tryz.func193.trans (congrArg some (by kernel_rfl))⟩
  f41 := ⟨Tryz.f214.name, by decide, Tryz.func214.trans (congrArg some (by kernel_rfl))⟩
  t0 := Tryz.underlying0
  a0 := Tryz.isAgg0
  z0 := Tryz.sizeOf0
  v0 := Tryz.zeroValue0
  t3 := Tryz.underlying3
  a3 := Tryz.isAgg3
  z3 := Tryz.sizeOf3
  v3 := Tryz.zeroValue3
  t4 := Tryz.underlying4
  a4 := Tryz.isAgg4
  z4 := Tryz.sizeOf4
  v4 := Tryz.zeroValue4
  t5 := Tryz.underlying5
  a5 := Tryz.isAgg5
  z5 := Tryz.sizeOf5
  v5 := Tryz.zeroValue5
  t9 := Tryz.underlying9
  a9 := Tryz.isAgg9
  z9 := Tryz.sizeOf9
  v9 := Tryz.zeroValue9
  t26 := Tryz.underlying38
  a26 := Tryz.isAgg38
  z26 := Tryz.sizeOf38
  v26 := Tryz.zeroValue38
  t27 := Tryz.underlying38
  a27 := Tryz.isAgg38
  z27 := Tryz.sizeOf38
  v27 := Tryz.zeroValue38
  t29 := Tryz.underlying9
  a29 := Tryz.isAgg9
  z29 := Tryz.sizeOf9
  v29 := Tryz.zeroValue9
  t32 := Tryz.underlying139
  a32 := Tryz.isAgg139
  z32 := Tryz.sizeOf139
  v32 := Tryz.zeroValue139
  t35 := Tryz.underlying205
  a35 := Tryz.isAgg205
  z35 := Tryz.sizeOf205
  v35 := Tryz.zeroValue205
  t36 := Tryz.underlying206
  a36 := Tryz.isAgg206
  z36 := Tryz.sizeOf206
  v36 := Tryz.zeroValue206
  t41 := Tryz.underlying170
  a41 := Tryz.isAgg170
  z41 := Tryz.sizeOf170
  v41 := Tryz.zeroValue170
  t44 := Tryz.underlying213
  a44 := Tryz.isAgg213
  z44 := Tryz.sizeOf213
  v44 := Tryz.zeroValue213
  t46 := Tryz.underlying215
  a46 := Tryz.isAgg215
  z46 := Tryz.sizeOf215
  v46 := Tryz.zeroValue215
  t53 := Tryz.underlying233
  a53 := Tryz.isAgg233
  z53 := Tryz.sizeOf233
  v53 := Tryz.zeroValue233
  t57 := Tryz.underlying237
  a57 := Tryz.isAgg237
  z57 := Tryz.sizeOf237
  v57 := Tryz.zeroValue237
  t63 := Tryz.underlying255
  a63 := Tryz.isAgg255
  z63 := Tryz.sizeOf255
  v63 := Tryz.zeroValue255
  t64 := Tryz.underlying119
  a64 := Tryz.isAgg119
  z64 := Tryz.sizeOf119
  v64 := Tryz.zeroValue119 }
def Tryz.keys124_ren : Go.Shelf.Ren := ⟨fun | 7 => 124 | 10 => 170 | n => n, fun | 23 => 124 | 26 => 9 | 3 => 127 | 28 => 71 | 0 => 0 | 27 => 70 | 33 => 98 | 4 => 4 | n => n, fun | n => n⟩
theorem Tryz.keys124 : Go.Proofs.SlLaysZ.n7 Tryz.prog Tryz.keys124_ren := {
  mixed := by kernel_rfl
  f7 := ⟨Tryz.f124.name, by decide, Tryz.func124.trans (congrArg some (by kernel_rfl))⟩
  f10 := ⟨Tryz.f170.name, by decide, Tryz.func170.trans (congrArg some (by kernel_rfl))⟩
  t0 := Tryz.underlying0
  a0 := Tryz.isAgg0
  z0 := Tryz.sizeOf0
  v0 := Tryz.zeroValue0
  t4 := Tryz.underlying4
  a4 := Tryz.isAgg4
  z4 := Tryz.sizeOf4
  v4 := Tryz.zeroValue4
  t23 := Tryz.underlying124
  a23 := Tryz.isAgg124
  z23 := Tryz.sizeOf124
  v23 := Tryz.zeroValue124
  t26 := Tryz.underlying9
  a26 := Tryz.isAgg9
  z26 := Tryz.sizeOf9
  v26 := Tryz.zeroValue9
  t27 := Tryz.underlying70
  a27 := Tryz.isAgg70
  z27 := Tryz.sizeOf70
  v27 := Tryz.zeroValue70
  t28 := Tryz.underlying71
  a28 := Tryz.isAgg71
  z28 := Tryz.sizeOf71
  v28 := Tryz.zeroValue71
  t33 := Tryz.underlying98
  a33 := Tryz.isAgg98
  z33 := Tryz.sizeOf98
  v33 := Tryz.zeroValue98 }
def Tryz.keys139_ren : Go.Shelf.Ren := ⟨fun | 7 => 139 | 10 => 179 | n => n, fun | 23 => 95 | 26 => 9 | 3 => 143 | 28 => 71 | 0 => 0 | 27 => 70 | 33 => 98 | 4 => 4 | n => n, fun | n => n⟩
theorem Tryz.keys139 : Go.Proofs.SlLaysZ.n7 Tryz.prog Tryz.keys139_ren := {
  mixed := by kernel_rfl
  f7 := ⟨Tryz.f139.name, by decide, Tryz.func139.trans (congrArg some (by kernel_rfl))⟩
  f10 := ⟨Tryz.f179.name, by decide, Tryz.func179.trans (congrArg some (by kernel_rfl))⟩
  t0 := Tryz.underlying0
  a0 := Tryz.isAgg0
  z0 := Tryz.sizeOf0
  v0 := Tryz.zeroValue0
  t4 := Tryz.underlying4
  a4 := Tryz.isAgg4
  z4 := Tryz.sizeOf4
  v4 := Tryz.zeroValue4
  t23 := Tryz.underlying95
  a23 := Tryz.isAgg95
  z23 := Tryz.sizeOf95
  v23 := Tryz.zeroValue95
  t26 := Tryz.underlying9
  a26 := Tryz.isAgg9
  z26 := Tryz.sizeOf9
  v26 := Tryz.zeroValue9
  t27 := Tryz.underlying70
  a27 := Tryz.isAgg70
  z27 := Tryz.sizeOf70
  v27 := Tryz.zeroValue70
  t28 := Tryz.underlying71
  a28 := Tryz.isAgg71
  z28 := Tryz.sizeOf71
  v28 := Tryz.zeroValue71
  t33 := Tryz.underlying98
  a33 := Tryz.isAgg98
  z33 := Tryz.sizeOf98
  v33 := Tryz.zeroValue98 }
def Tryz.keys166_ren : Go.Shelf.Ren := ⟨fun | 7 => 166 | 10 => 204 | n => n, fun | 23 => 130 | 26 => 9 | 3 => 135 | 28 => 71 | 0 => 0 | 27 => 70 | 33 => 98 | 4 => 4 | n => n, fun | n => n⟩
theorem Tryz.keys166 : Go.Proofs.SlLaysZ.n7 Tryz.prog Tryz.keys166_ren := {
  mixed := by kernel_rfl
  f7 := ⟨Tryz.f166.name, by decide, Tryz.func166.trans (congrArg some (by kernel_rfl))⟩
  f10 := ⟨Tryz.f204.name, by decide, Tryz.func204.trans (congrArg some (by kernel_rfl))⟩
  t0 := Tryz.underlying0
  a0 := Tryz.isAgg0
  z0 := Tryz.sizeOf0
  v0 := Tryz.zeroValue0
  t4 := Tryz.underlying4
  a4 := Tryz.isAgg4
  z4 := Tryz.sizeOf4
  v4 := Tryz.zeroValue4
  t23 := Tryz.underlying130
  a23 := Tryz.isAgg130
  z23 := Tryz.sizeOf130
  v23 := Tryz.zeroValue130
  t26 := Tryz.underlying9
  a26 := Tryz.isAgg9
  z26 := Tryz.sizeOf9
  v26 := Tryz.zeroValue9
  t27 := Tryz.underlying70
  a27 := Tryz.isAgg70
  z27 := Tryz.sizeOf70
  v27 := Tryz.zeroValue70
  t28 := Tryz.underlying71
  a28 := Tryz.isAgg71
  z28 := Tryz.sizeOf71
  v28 := Tryz.zeroValue71
  t33 := Tryz.underlying98
  a33 := Tryz.isAgg98
  z33 := Tryz.sizeOf98
  v33 := Tryz.zeroValue98 }
open Go.RowKit Go.Maps Go.Sort Go.Shelf
/-- slices.Sort's two contracts at this dump, at the fence that asks nothing. -/
theorem Tryz.sorts33 (m : Nat) : AnyZ.SortsIn Tryz.prog Tryz.sorted33_ren Fence.wide m :=
  ⟨fun blk off cap ss W hH hblk hsz => callsIn_wide.2 (AnyM.slices_Sort_string Tryz.sort61 blk off cap ss W hH hblk hsz),
   fun p cap W => callsIn_wide.2 (AnyM.slices_Sort_string_none Tryz.sort61 p cap W)⟩

/-- **maps.Keys[map[string]bool,string,bool], at whatever map, the nil one too:** a function value over ONE NEW BLOCK, which holds the map. -/
theorem Tryz.maps_Keys_34 (mb : Option Nat) (W : World) : CallsIn Fence.wide 5 Tryz.prog 34 #[.map mb] W fun e w' => e = .returned (.func (.func 62) #[] #[.pointer (some ⟨W.heap.size, 0, none⟩)]) ∧ w' = W.alloc (.cells #[.map mb] 66) :=
  AnyZ.keys_in Tryz.keys34 Fence.wide 5 trivial rfl mb W

set_option maxHeartbeats 1000000 in
/-- **slices.Sorted[string] AT WHAT maps.Keys[map[string]bool,string,bool] HANDED BACK FOR A MAP THAT IS NOT nil** ('w': the world AHEAD of maps.Keys' call): A NEW SLICE THAT HOLDS THE MAP's KEYS, SORTED; nil just where it has none; nothing that lay before has turned. -/
theorem Tryz.slices_Sorted_keys_33_34 {H : Type} (b nn : Nat) (D0 : DataW H) (R : Value → Option (DataW H × List MemPlace)) (w : World) (hown : w.ownsMap Tryz.prog 9 R b nn D0) (hmax : Maps.size D0 ≤ maxLen) (hbytes : Maps.size D0 * 16 ≤ 140737488355328) :
    CallsIn Fence.wide 5 Tryz.prog 33 #[.func (.func 62) #[] #[.pointer (some ⟨w.heap.size, 0, none⟩)]] (w.alloc (.cells #[.map (some b)] 66)) fun e w' => ∃ (v : Value) (ss : List (List UInt8)), e = .returned v ∧ ss.Perm (strKeys D0) ∧
      w'.ownsRow (w.alloc (.cells #[.map (some b)] 66)).heap.size 9 1 v ss.length ((ss.mergeSort (fun x y => decide (x ≤ y))).map encStr) ∧ (v = .slice none 0 0 ↔ ss = []) ∧ Below (w.alloc (.cells #[.map (some b)] 66)).heap.size (w.alloc (.cells #[.map (some b)] 66)) w' := by
  have hbl := hown.lt
  have hseq : SeqGives Fence.wide 2 Tryz.prog 62 #[.pointer (some ⟨w.heap.size, 0, none⟩)] encStr (fun ss => ss.Perm (strKeys D0)) (Maps.size D0) (w.alloc (.cells #[.map (some b)] 66)) :=
    AnyZ.keys_gives (ρ := Tryz.keys34_ren) { Tryz.keys34 with } Fence.wide _ trivial rfl (by omega) w.heap.size b nn D0 _ (by simp) (by simp) (by
      obtain ⟨es, clock, hb, Ft, hs, hD⟩ := hown
      exact ⟨es, clock, (Below.heap_alloc _ _ b hbl).trans hb, Ft, hs, hD⟩)
  exact AnyZ.sorted_in Tryz.sorted33 Fence.wide 5 trivial trivial trivial trivial rfl (by omega) (Tryz.sorts33 _) (enters_of Tryz.func61 (by kernel_rfl) rfl) 62 #[.pointer (some ⟨w.heap.size, 0, none⟩)] trivial (enters_of Tryz.func62 (by kernel_rfl) rfl) _ _ hmax hbytes _ hseq

/-- **maps.Keys[map[string][]cicerone/dedupe.Range,string,[]cicerone/dedupe.Range], at whatever map, the nil one too:** a function value over ONE NEW BLOCK, which holds the map. -/
theorem Tryz.maps_Keys_124 (mb : Option Nat) (W : World) : CallsIn Fence.wide 5 Tryz.prog 124 #[.map mb] W fun e w' => e = .returned (.func (.func 170) #[] #[.pointer (some ⟨W.heap.size, 0, none⟩)]) ∧ w' = W.alloc (.cells #[.map mb] 124) :=
  AnyZ.keys_in Tryz.keys124 Fence.wide 5 trivial rfl mb W

set_option maxHeartbeats 1000000 in
/-- **slices.Sorted[string] AT WHAT maps.Keys[map[string][]cicerone/dedupe.Range,string,[]cicerone/dedupe.Range] HANDED BACK FOR A MAP THAT IS NOT nil** ('w': the world AHEAD of maps.Keys' call): A NEW SLICE THAT HOLDS THE MAP's KEYS, SORTED; nil just where it has none; nothing that lay before has turned. -/
theorem Tryz.slices_Sorted_keys_33_124 {H : Type} (b nn : Nat) (D0 : DataW H) (R : Value → Option (DataW H × List MemPlace)) (w : World) (hown : w.ownsMap Tryz.prog 9 R b nn D0) (hmax : Maps.size D0 ≤ maxLen) (hbytes : Maps.size D0 * 16 ≤ 140737488355328) :
    CallsIn Fence.wide 5 Tryz.prog 33 #[.func (.func 170) #[] #[.pointer (some ⟨w.heap.size, 0, none⟩)]] (w.alloc (.cells #[.map (some b)] 124)) fun e w' => ∃ (v : Value) (ss : List (List UInt8)), e = .returned v ∧ ss.Perm (strKeys D0) ∧
      w'.ownsRow (w.alloc (.cells #[.map (some b)] 124)).heap.size 9 1 v ss.length ((ss.mergeSort (fun x y => decide (x ≤ y))).map encStr) ∧ (v = .slice none 0 0 ↔ ss = []) ∧ Below (w.alloc (.cells #[.map (some b)] 124)).heap.size (w.alloc (.cells #[.map (some b)] 124)) w' := by
  have hbl := hown.lt
  have hseq : SeqGives Fence.wide 2 Tryz.prog 170 #[.pointer (some ⟨w.heap.size, 0, none⟩)] encStr (fun ss => ss.Perm (strKeys D0)) (Maps.size D0) (w.alloc (.cells #[.map (some b)] 124)) :=
    AnyZ.keys_gives (ρ := Tryz.keys124_ren) { Tryz.keys124 with } Fence.wide _ trivial rfl (by omega) w.heap.size b nn D0 _ (by simp) (by simp) (by
      obtain ⟨es, clock, hb, Ft, hs, hD⟩ := hown
      exact ⟨es, clock, (Below.heap_alloc _ _ b hbl).trans hb, Ft, hs, hD⟩)
  exact AnyZ.sorted_in Tryz.sorted33 Fence.wide 5 trivial trivial trivial trivial rfl (by omega) (Tryz.sorts33 _) (enters_of Tryz.func61 (by kernel_rfl) rfl) 170 #[.pointer (some ⟨w.heap.size, 0, none⟩)] trivial (enters_of Tryz.func170 (by kernel_rfl) rfl) _ _ hmax hbytes _ hseq

/-- **maps.Keys[map[string]*cicerone/disk.file,string,*cicerone/disk.file], at whatever map, the nil one too:** a function value over ONE NEW BLOCK, which holds the map. -/
theorem Tryz.maps_Keys_139 (mb : Option Nat) (W : World) : CallsIn Fence.wide 5 Tryz.prog 139 #[.map mb] W fun e w' => e = .returned (.func (.func 179) #[] #[.pointer (some ⟨W.heap.size, 0, none⟩)]) ∧ w' = W.alloc (.cells #[.map mb] 95) :=
  AnyZ.keys_in Tryz.keys139 Fence.wide 5 trivial rfl mb W

set_option maxHeartbeats 1000000 in
/-- **slices.Sorted[string] AT WHAT maps.Keys[map[string]*cicerone/disk.file,string,*cicerone/disk.file] HANDED BACK FOR A MAP THAT IS NOT nil** ('w': the world AHEAD of maps.Keys' call): A NEW SLICE THAT HOLDS THE MAP's KEYS, SORTED; nil just where it has none; nothing that lay before has turned. -/
theorem Tryz.slices_Sorted_keys_33_139 {H : Type} (b nn : Nat) (D0 : DataW H) (R : Value → Option (DataW H × List MemPlace)) (w : World) (hown : w.ownsMap Tryz.prog 9 R b nn D0) (hmax : Maps.size D0 ≤ maxLen) (hbytes : Maps.size D0 * 16 ≤ 140737488355328) :
    CallsIn Fence.wide 5 Tryz.prog 33 #[.func (.func 179) #[] #[.pointer (some ⟨w.heap.size, 0, none⟩)]] (w.alloc (.cells #[.map (some b)] 95)) fun e w' => ∃ (v : Value) (ss : List (List UInt8)), e = .returned v ∧ ss.Perm (strKeys D0) ∧
      w'.ownsRow (w.alloc (.cells #[.map (some b)] 95)).heap.size 9 1 v ss.length ((ss.mergeSort (fun x y => decide (x ≤ y))).map encStr) ∧ (v = .slice none 0 0 ↔ ss = []) ∧ Below (w.alloc (.cells #[.map (some b)] 95)).heap.size (w.alloc (.cells #[.map (some b)] 95)) w' := by
  have hbl := hown.lt
  have hseq : SeqGives Fence.wide 2 Tryz.prog 179 #[.pointer (some ⟨w.heap.size, 0, none⟩)] encStr (fun ss => ss.Perm (strKeys D0)) (Maps.size D0) (w.alloc (.cells #[.map (some b)] 95)) :=
    AnyZ.keys_gives (ρ := Tryz.keys139_ren) { Tryz.keys139 with } Fence.wide _ trivial rfl (by omega) w.heap.size b nn D0 _ (by simp) (by simp) (by
      obtain ⟨es, clock, hb, Ft, hs, hD⟩ := hown
      exact ⟨es, clock, (Below.heap_alloc _ _ b hbl).trans hb, Ft, hs, hD⟩)
  exact AnyZ.sorted_in Tryz.sorted33 Fence.wide 5 trivial trivial trivial trivial rfl (by omega) (Tryz.sorts33 _) (enters_of Tryz.func61 (by kernel_rfl) rfl) 179 #[.pointer (some ⟨w.heap.size, 0, none⟩)] trivial (enters_of Tryz.func179 (by kernel_rfl) rfl) _ _ hmax hbytes _ hseq

/-- **maps.Keys[map[string]cicerone/clock.source,string,cicerone/clock.source], at whatever map, the nil one too:** a function value over ONE NEW BLOCK, which holds the map. -/
theorem Tryz.maps_Keys_166 (mb : Option Nat) (W : World) : CallsIn Fence.wide 5 Tryz.prog 166 #[.map mb] W fun e w' => e = .returned (.func (.func 204) #[] #[.pointer (some ⟨W.heap.size, 0, none⟩)]) ∧ w' = W.alloc (.cells #[.map mb] 130) :=
  AnyZ.keys_in Tryz.keys166 Fence.wide 5 trivial rfl mb W

set_option maxHeartbeats 1000000 in
/-- **slices.Sorted[string] AT WHAT maps.Keys[map[string]cicerone/clock.source,string,cicerone/clock.source] HANDED BACK FOR A MAP THAT IS NOT nil** ('w': the world AHEAD of maps.Keys' call): A NEW SLICE THAT HOLDS THE MAP's KEYS, SORTED; nil just where it has none; nothing that lay before has turned. -/
theorem Tryz.slices_Sorted_keys_33_166 {H : Type} (b nn : Nat) (D0 : DataW H) (R : Value → Option (DataW H × List MemPlace)) (w : World) (hown : w.ownsMap Tryz.prog 9 R b nn D0) (hmax : Maps.size D0 ≤ maxLen) (hbytes : Maps.size D0 * 16 ≤ 140737488355328) :
    CallsIn Fence.wide 5 Tryz.prog 33 #[.func (.func 204) #[] #[.pointer (some ⟨w.heap.size, 0, none⟩)]] (w.alloc (.cells #[.map (some b)] 130)) fun e w' => ∃ (v : Value) (ss : List (List UInt8)), e = .returned v ∧ ss.Perm (strKeys D0) ∧
      w'.ownsRow (w.alloc (.cells #[.map (some b)] 130)).heap.size 9 1 v ss.length ((ss.mergeSort (fun x y => decide (x ≤ y))).map encStr) ∧ (v = .slice none 0 0 ↔ ss = []) ∧ Below (w.alloc (.cells #[.map (some b)] 130)).heap.size (w.alloc (.cells #[.map (some b)] 130)) w' := by
  have hbl := hown.lt
  have hseq : SeqGives Fence.wide 2 Tryz.prog 204 #[.pointer (some ⟨w.heap.size, 0, none⟩)] encStr (fun ss => ss.Perm (strKeys D0)) (Maps.size D0) (w.alloc (.cells #[.map (some b)] 130)) :=
    AnyZ.keys_gives (ρ := Tryz.keys166_ren) { Tryz.keys166 with } Fence.wide _ trivial rfl (by omega) w.heap.size b nn D0 _ (by simp) (by simp) (by
      obtain ⟨es, clock, hb, Ft, hs, hD⟩ := hown
      exact ⟨es, clock, (Below.heap_alloc _ _ b hbl).trans hb, Ft, hs, hD⟩)
  exact AnyZ.sorted_in Tryz.sorted33 Fence.wide 5 trivial trivial trivial trivial rfl (by omega) (Tryz.sorts33 _) (enters_of Tryz.func61 (by kernel_rfl) rfl) 204 #[.pointer (some ⟨w.heap.size, 0, none⟩)] trivial (enters_of Tryz.func204 (by kernel_rfl) rfl) _ _ hmax hbytes _ hseq

end Go.Proofs
namespace Go.Proofs.YtgbagjpokpchpaaGreatDoor
open Go.RowKit Go.Maps Go.Sort Go.Shelf

/-- a rising row of texts that holds just these -/
def Rising (r ks : List (List UInt8)) : Prop := r.Pairwise (· < ·) ∧ ∀ x, x ∈ r ↔ x ∈ ks

theorem lt_irr (x : List UInt8) : ¬ x < x := List.lt_irrefl x
theorem lt_asy {x y : List UInt8} (h : x < y) (h' : y < x) : False := lt_irr x (List.lt_trans h h')

theorem rising_unique {r r' ks : List (List UInt8)} (h : Rising r ks) (h' : Rising r' ks) : r = r' := by
  have key : ∀ (r r' : List (List UInt8)), r.Pairwise (· < ·) → r'.Pairwise (· < ·) → (∀ x, x ∈ r ↔ x ∈ r') → r = r' := by
    intro r
    induction r with
    | nil => intro r' _ _ hm; cases r' with
      | nil => rfl
      | cons a l => exact absurd ((hm a).2 List.mem_cons_self) (by simp)
    | cons a l ih =>
      intro r' h1 h2 hm
      cases r' with
      | nil => exact absurd ((hm a).1 List.mem_cons_self) (by simp)
      | cons b l' =>
        have h1' := List.pairwise_cons.1 h1
        have h2' := List.pairwise_cons.1 h2
        have hab : a = b := by
          rcases List.mem_cons.1 ((hm a).1 List.mem_cons_self) with e | e
          · exact e
          · rcases List.mem_cons.1 ((hm b).2 List.mem_cons_self) with e' | e'
            · exact e'.symm
            · exact (lt_asy (h1'.1 b e') (h2'.1 a e)).elim
        subst hab
        congr 1
        refine ih l' h1'.2 h2'.2 fun x => ⟨fun hx => ?_, fun hx => ?_⟩
        · rcases List.mem_cons.1 ((hm x).1 (List.mem_cons_of_mem _ hx)) with e | e
          · subst e; exact (lt_irr x (h1'.1 x hx)).elim
          · exact e
        · rcases List.mem_cons.1 ((hm x).2 (List.mem_cons_of_mem _ hx)) with e | e
          · subst e; exact (lt_irr x (h2'.1 x hx)).elim
          · exact e
  exact key r r' h.1 h'.1 fun x => (h.2 x).trans (h'.2 x).symm

theorem rising_sort {ss ks : List (List UInt8)} (hnd : ss.Nodup) (hm : ∀ x, x ∈ ss ↔ x ∈ ks) : Rising (ss.mergeSort (fun x y => decide (x ≤ y))) ks := by
  have hp := List.mergeSort_perm ss (fun x y => decide (x ≤ y))
  have hs := List.pairwise_mergeSort (le := fun x y : List UInt8 => decide (x ≤ y)) (fun a b c h1 h2 => by simp at *; exact List.le_trans h1 h2) (fun a b => by simp; exact List.le_total a b) ss
  have hn : (ss.mergeSort (fun x y => decide (x ≤ y))).Nodup := hp.nodup_iff.2 hnd
  refine ⟨?_, fun x => hp.mem_iff.trans (hm x)⟩
  refine List.pairwise_iff_getElem.2 fun i j hi hj hij => ?_
  have h1 := List.pairwise_iff_getElem.1 hs i j hi hj hij
  have h2 := List.pairwise_iff_getElem.1 hn i j hi hj hij
  generalize (ss.mergeSort (fun x y => decide (x ≤ y)))[i] = a at *
  generalize (ss.mergeSort (fun x y => decide (x ≤ y)))[j] = b at *
  have h1' : a ≤ b := by simpa using h1
  rcases Decidable.em (a < b) with h | h
  · exact h
  · exact absurd (List.le_antisymm h1' (by exact List.not_lt.1 h)) h2

theorem strKeys_mapD (r : Row Value) : strKeys (mapD r) = r.map (·.1) := by
  unfold mapD strKeys
  simp [Function.comp_def]
  intro a b _; rfl
theorem bb_lt {a b : List UInt8} (h : bytesBefore a b = true) : a < b := by
  have key : ∀ a b : List UInt8, Op.bytesLess a b = bytesBefore a b := fun a => by
    induction a with
    | nil => intro b; cases b <;> simp [Op.bytesLess, bytesBefore]
    | cons x a ih => intro b; cases b with
      | nil => simp [Op.bytesLess, bytesBefore]
      | cons y b => simp only [Op.bytesLess, bytesBefore, ih b]
  rw [← key, bytesLess_eq] at h
  exact of_decide_eq_true h
theorem keys_rising {α : Type} {m : Row α} (h : RowUp m) : Rising (m.map (·.1)) (m.map (·.1)) := ⟨List.pairwise_map.2 (h.imp fun h => bb_lt h), fun _ => Iff.rfl⟩
def SrcPost (w : World) (ks : List (List UInt8)) (e : Ending) (w' : World) : Prop := ∃ v, e = .returned v ∧ w'.ownsRow w.heap.size 9 1 v ks.length (ks.map encStr) ∧ Below w.heap.size w w'
end Go.Proofs.YtgbagjpokpchpaaGreatDoor
namespace Go.Proofs.YtgbagjpokpchpaaGreatDoor
open Go.RowKit Go.Maps Go.Sort Go.Shelf

def GonePost (w : World) (ks : List (List UInt8)) (e : Ending) (w' : World) : Prop :=
  ∃ v r, e = .returned v ∧ Rising r ks ∧ w'.ownsRow w.heap.size 9 1 v r.length (r.map encStr) ∧ Below w.heap.size w w'

theorem nodup_dedup (ks : List (List UInt8)) : ∃ ss : List (List UInt8), ss.Nodup ∧ ∀ x, x ∈ ss ↔ x ∈ ks := by
  induction ks with
  | nil => exact ⟨[], List.nodup_nil, fun x => Iff.rfl⟩
  | cons k ks ih =>
    obtain ⟨ss, h1, h2⟩ := ih
    by_cases h : k ∈ ks
    · exact ⟨ss, h1, fun x => by rw [h2 x]; simp; intro e; subst e; exact h⟩
    · exact ⟨k :: ss, List.nodup_cons.2 ⟨fun hk => h ((h2 k).1 hk), h1⟩, fun x => by simp [h2 x]⟩

end Go.Proofs.YtgbagjpokpchpaaGreatDoor
