/-
  Layer 2: event.May at a Forgotten event.
-/
import Derived.Test.YtoljbbmjbgepiaaGreatDoorErOf
namespace Go.Proofs.YtoljbbmjbgepiaaGreatDoor
open Go.RowKit

/-- the parts that every event must have -/
def headB (e : Ev) : Bool := nameB e.src && decide (1 ≤ e.num) && decide (e.num ≤ 1099511627776) && decide (0 ≤ e.at_) && decide (e.at_ ≤ 1099511627776)
/-- an event that says that somebody is to be forgotten -/
def forgetB (e : Ev) : Bool := (e.kind == 14) && headB e && nameB e.per && e.item.isEmpty && (e.val == 0) && e.text.isEmpty

/-- no text is longer than this -/
def Ev.small (e : Ev) : Prop := e.src.length ≤ 1000000000 ∧ e.per.length ≤ 1000000000 ∧ e.item.length ≤ 1000000000 ∧ e.text.length ≤ 1000000000

set_option maxRecDepth 100000 in
set_option maxHeartbeats 2000000 in
theorem may_head (w : World) (e : Ev) (hs : e.small) (hh : headB e = false) :
    Calls Tryz.prog 63 #[e.agg] w (Says false w) := by
  obtain ⟨s1, s2, s3, s4⟩ := hs
  unfold Ev.agg
  have HH := Lib.hid (show (nameB e.src && decide (1 ≤ e.num) && decide (e.num ≤ 1099511627776) && decide (0 ≤ e.at_) && decide (e.at_ ≤ 1099511627776)) = false from hh)
  clear hh
  go_enter Tryz.func63, Tryz.ntmps63
  go_wp2_with fail
  refine (name_any _ e.src s1).mono ?_
  rintro r w1 ⟨rfl, rfl⟩
  have hb : Below w.heap.size w (w.alloc (evObj e)) := (Below.refl _ _).alloc (Nat.le_refl _) _
  generalize nameB e.src = ns at *
  cases ns
  · go_wp2
    go_ret
    exact ⟨rfl, hb⟩
  · by_cases h1 : e.num < 1
    · go_wp2
      go_ret
      exact ⟨rfl, hb⟩
    by_cases h2 : 1099511627776 < e.num
    · go_wp2
      go_ret
      exact ⟨rfl, hb⟩
    by_cases h3 : e.at_ < 0
    · go_wp2
      go_ret
      exact ⟨rfl, hb⟩
    have h4 : 1099511627776 < e.at_ := by
      have := HH.out
      simp at this
      omega
    go_wp2
    go_ret
    exact ⟨rfl, hb⟩

theorem nameq (w : World) (l : List UInt8) (hm : l.length ≤ 1000000000) : Calls Tryz.prog 102 #[.string ⟨l.toArray⟩] w fun e w' => e = .returned (.bool (nameB l)) ∧ w' = w :=
  (name_any w l hm).mono fun _ _ h => ⟨h.1, h.2.symm⟩

set_option maxRecDepth 100000 in
set_option maxHeartbeats 4000000 in
theorem may_forget (w : World) (e : Ev) (hs : e.small) (hh : headB e = true) (hk : e.kind = 14) :
    Calls Tryz.prog 63 #[e.agg] w (Says (nameB e.per && e.item.isEmpty && (e.val == 0) && e.text.isEmpty) w) := by
  obtain ⟨s1, s2, s3, s4⟩ := hs
  have hh' : (nameB e.src && decide (1 ≤ e.num) && decide (e.num ≤ 1099511627776) && decide (0 ≤ e.at_) && decide (e.at_ ≤ 1099511627776)) = true := hh
  simp only [Bool.and_eq_true, decide_eq_true_eq] at hh'
  obtain ⟨⟨⟨⟨hns, h1⟩, h2⟩, h3⟩, h4⟩ := hh'
  have HNS := Lib.hid hns; clear hns hh
  have d1 : decide (e.num < 1) = false := decide_eq_false (by omega)
  have d2 : decide (1099511627776 < e.num) = false := decide_eq_false (by omega)
  have d3 : decide (e.at_ < 0) = false := decide_eq_false (by omega)
  have d4 : decide (1099511627776 < e.at_) = false := decide_eq_false (by omega)
  have HK := Lib.hid hk; clear hk
  unfold Ev.agg
  go_enter Tryz.func63, Tryz.ntmps63
  go_wp2_with fail
  refine (name_any _ e.src s1).mono ?_
  rintro r w1 ⟨rfl, rfl⟩
  rw [HNS.out]
  have hb : Below w.heap.size w (w.alloc (evObj e)) := (Below.refl _ _).alloc (Nat.le_refl _) _
  obtain ⟨f0, f1, f2, f3, f4, f5, f6, f7⟩ := EvIn.new w e
  generalize w.alloc (evObj e) = w1 at *
  rw [HK.out] at f3
  go_wp2
  clear d1 d2 d3 d4
  go_quiet ((go_at_call 102; exact Calls.quiet_of_same (nameq _ _ (by assumption))))
  have hbq : Below w.heap.size w (w1.drewN nq) := below_drewN hb nq
  generalize nameB e.per = np at *
  generalize nameB e.item = ni at *
  cases np
  · go_wp2
    go_ret
    exact ⟨rfl, hbq⟩
  cases hi : e.item.isEmpty
  · go_wp2
    go_ret
    exact ⟨by rw [hi]; rfl, hbq⟩
  cases hv : (e.val == 0)
  · go_wp2
    go_ret
    exact ⟨by rw [hi, hv]; rfl, hbq⟩
  go_wp2
  go_ret
  exact ⟨by rw [hi, hv]; rfl, hbq⟩
end Go.Proofs.YtoljbbmjbgepiaaGreatDoor
