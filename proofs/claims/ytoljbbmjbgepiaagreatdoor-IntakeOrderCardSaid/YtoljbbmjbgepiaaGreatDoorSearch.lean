/-
  sort.Search: a closure that makes memory, and changes nothing that was there.
-/
import Derived.Test.YtoljbbmjbgepiaaGreatDoorErWalk
import Derived.Lib.Walk
namespace Go.Proofs.YtoljbbmjbgepiaaGreatDoor
open Go.RowKit

/-- the first place from which on p holds -/
def SearchPost (n : Nat) (p : Nat → Bool) (w : World) (e : Ending) (w' : World) : Prop := ∃ k : Nat, e = .returned (.int .i64 k) ∧ k ≤ n ∧ (∀ i, i < k → p i = false) ∧ (∀ i, k ≤ i → i < n → p i = true) ∧ Below w.heap.size w w'
def SearchRel (n : Nat) (p : Nat → Bool) (w : World) (s5 s6 : Value) (wr : World) : Prop := ∃ lo hi : Nat, s5 = .int .i64 lo ∧ s6 = .int .i64 hi ∧ lo ≤ hi ∧ hi ≤ n ∧ Below w.heap.size w wr ∧ (∀ i, i < lo → p i = false) ∧ (∀ i, hi ≤ i → i < n → p i = true)

set_option maxHeartbeats 1000000 in
set_option maxRecDepth 100000 in
theorem search_any (w : World) (g : Nat) (cb : Array Value) (n : Nat) (p : Nat → Bool) (hn : n ≤ 1000000000) (hcall : ∀ (args : Array Value) (w : World), (callFunc g args).run Tryz.prog w = .ok (.enter g args) w)
    (hf : ∀ (w1 : World) (i : Nat), Below w.heap.size w w1 → i < n → Calls Tryz.prog g (#[.int .i64 i] ++ cb) w1 (Says (p i) w1)) (hmono : ∀ i j, i ≤ j → j < n → p i = true → p j = true) :
    Calls Tryz.prog 92 #[.int .i64 n, .func (.func g) #[] cb] w (SearchPost n p w) := by
  have HF := Lib.hid hf; have HM := Lib.hid hmono
  clear hf hmono
  go_enter Tryz.func92, Tryz.ntmps92
  go_wp2
  go_loopw [5, 6] (fun s5 s6 wr => SearchRel n p w s5 s6 wr) (fun s5 s6 _ => (intOf s6 - intOf s5).toNat)
  case atStart => exact ⟨0, n, rfl, rfl, Nat.zero_le _, Nat.le_refl _, Below.refl _ _, fun i h => by omega, fun i h h' => by omega⟩
  case round =>
    obtain ⟨lo, hi, rfl, rfl, hlh, hhn, hbel, h1, h2⟩ := hrel
    have H1 := Lib.hid h1; have H2 := Lib.hid h2
    clear h1 h2
    by_cases hlt : lo < hi
    · have hc := HF.out wr ((lo + hi) / 2) hbel (by omega)
      rw [show (((lo + hi) / 2 : Nat) : Int) = ((lo : Int) + (hi : Int)) / 2 by omega] at hc
      have HC := Lib.hid hc; clear hc
      go_wp2_with fail
      refine HC.out.mono ?_
      rintro e w1 ⟨rfl, hb1⟩
      have hbw : Below w.heap.size w w1 := hbel.trans (hb1.mono hbel.size)
      clear hb1 hcall
      cases hp : p ((lo + hi) / 2)
      · have HP := Lib.hid hp
        clear hp
        go_wp2
        go_roundw
        case rel =>
          refine ⟨(lo + hi) / 2 + 1, hi, by go_num, rfl, by omega, hhn, hbw, fun i hi' => ?_, H2.out⟩
          cases hpi : p i
          · rfl
          · have := HM.out i ((lo + hi) / 2) (by omega) (by omega) hpi
            rw [HP.out] at this; cases this
        case measure => simp [intOf]; omega
      · have HP := Lib.hid hp
        clear hp
        go_wp2
        go_roundw
        case rel =>
          refine ⟨lo, (lo + hi) / 2, rfl, by go_num, by omega, by omega, hbw, H1.out, fun i hi' hn' => ?_⟩
          exact HM.out _ _ hi' hn' HP.out
        case measure => simp [intOf]; omega
    · have e : hi = lo := by omega
      have HE := Lib.hid e
      clear e
      go_wp2
      go_ret
      exact ⟨lo, rfl, by omega, H1.out, fun i hi' hn' => H2.out i (by rw [HE.out]; exact hi') hn', hbel⟩
end Go.Proofs.YtoljbbmjbgepiaaGreatDoor
