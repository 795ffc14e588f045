/-
  Layer 2: event.May, whole.
-/
import Derived.Test.YtdjoaboalknlkaaGreatDoorLEvListing
namespace Go.Proofs.YtdjoaboalknlkaaGreatDoor
open Go.RowKit Go.Maps Go.Sort

def tailB (e : Ev) : Bool :=
  if e.kind = 0 then nameB e.per && nameB e.item && (e.val == 0) && e.text.isEmpty else
  if e.kind = 1 then nameB e.per && nameB e.item && (e.val == 0) && e.text.isEmpty else
  if e.kind = 2 then nameB e.per && nameB e.item && (e.val == 0) && e.text.isEmpty else
  if e.kind = 3 then nameB e.per && nameB e.item && (e.val == 0) && e.text.isEmpty else
  if e.kind = 4 then nameB e.per && nameB e.item && decide (1 ≤ e.val) && decide (e.val ≤ 5) && e.text.isEmpty else
  if e.kind = 5 then nameB e.per && nameB e.item && (e.val == 0) && e.text.isEmpty else
  if e.kind = 6 then nameB e.per && nameB e.item && (e.val == 0) && e.text.isEmpty else
  if e.kind = 7 then nameB e.per && e.item.isEmpty && (e.val == 0) && nameB e.text else
  if e.kind = 8 then nameB e.per && e.item.isEmpty && (e.val == 0) && nameB e.text else
  if e.kind = 9 then nameB e.per && e.item.isEmpty && (e.val == 0) && nameB e.text else
  if e.kind = 10 then nameB e.per && e.item.isEmpty && (e.val == 0) && nameB e.text else
  if e.kind = 11 then e.per.isEmpty && nameB e.item && decide (0 ≤ e.val) && decide (e.val ≤ 1048576) && listingB e.text else
  if e.kind = 12 then e.per.isEmpty && nameB e.item && decide (0 ≤ e.val) && decide (e.val ≤ 1048576) && e.text.isEmpty else
  if e.kind = 13 then e.per.isEmpty && nameB e.item && (e.val == 0) && e.text.isEmpty else
  if e.kind = 14 then nameB e.per && e.item.isEmpty && (e.val == 0) && e.text.isEmpty else false
/-- an event that may be -/
def mayB (e : Ev) : Bool := headB e && tailB e

theorem nameq' (w : World) (l : List UInt8) : Calls Tryz.prog 34 #[.string ⟨l.toArray⟩] w fun e w' => e = .returned (.bool (nameB l)) ∧ w' = w :=
  (name_all w l).mono fun _ _ h => ⟨h.1, h.2.symm⟩

set_option maxRecDepth 100000 in
set_option maxHeartbeats 16000000 in
theorem may_tail (w : World) (e : Ev) (hs : e.small) (hmx : MaxAt w) (hh : headB e = true) (hnf : e.kind ≠ 14) : Calls Tryz.prog 65 #[e.agg] w (Says (tailB e) w) := by
  obtain ⟨s1, s2, s3, s4⟩ := hs
  have HMX := Lib.hid hmx; clear hmx
  generalize htb : tailB e = tb
  have HTB := Lib.hid htb; clear htb
  have hh' : (nameB e.src && decide (1 ≤ e.num) && decide (e.num ≤ 1099511627776) && decide (0 ≤ e.at_) && decide (e.at_ ≤ 1099511627776)) = true := hh
  simp only [Bool.and_eq_true, decide_eq_true_eq] at hh'
  obtain ⟨⟨⟨⟨hns, h1⟩, h2⟩, h3⟩, h4⟩ := hh'
  have HNS := Lib.hid hns; clear hns hh
  have d1 : decide (e.num < 1) = false := decide_eq_false (by omega)
  have d2 : decide (1099511627776 < e.num) = false := decide_eq_false (by omega)
  have d3 : decide (e.at_ < 0) = false := decide_eq_false (by omega)
  have d4 : decide (1099511627776 < e.at_) = false := decide_eq_false (by omega)
  unfold Ev.agg
  go_enter Tryz.func65, Tryz.ntmps65
  go_wp2_with fail
  refine (name_all _ e.src).mono ?_
  rintro r w1 ⟨rfl, rfl⟩
  rw [HNS.out]
  have hb : Below w.heap.size w (w.alloc (evObj e)) := (Below.refl _ _).alloc (Nat.le_refl _) _
  obtain ⟨f0, f1, f2, f3, f4, f5, f6, f7⟩ := EvIn.new w e
  generalize w.alloc (evObj e) = w1 at *
  generalize hke : e.kind = kd at *
  have HKE := Lib.hid hke; clear hke
  go_wp2
  clear d1 d2 d3 d4
  go_quiet ((go_at_call 34; exact Calls.quiet_of_same (nameq' _ _)))
  have hbq : Below w.heap.size w (w1.drewN nq) := below_drewN hb nq
  by_cases hx : kd < 0 ∨ 14 < kd
  · have HT := Lib.hid (show tb = false by
      rw [← HTB.out]
      unfold tailB
      rw [HKE.out]
      rw [if_neg (by omega), if_neg (by omega), if_neg (by omega), if_neg (by omega), if_neg (by omega), if_neg (by omega), if_neg (by omega), if_neg (by omega), if_neg (by omega), if_neg (by omega), if_neg (by omega), if_neg (by omega), if_neg (by omega), if_neg (by omega), if_neg (by omega)])
    have hq : ∀ j : Int, 0 ≤ j → j ≤ 14 → (kd == j) = false := fun j _ _ => beq_eq_false_iff_ne.2 (by omega)
    have k0 := hq 0 (by decide) (by decide)
    have k1 := hq 1 (by decide) (by decide)
    have k2 := hq 2 (by decide) (by decide)
    have k3 := hq 3 (by decide) (by decide)
    have k4 := hq 4 (by decide) (by decide)
    have k5 := hq 5 (by decide) (by decide)
    have k6 := hq 6 (by decide) (by decide)
    have k7 := hq 7 (by decide) (by decide)
    have k8 := hq 8 (by decide) (by decide)
    have k9 := hq 9 (by decide) (by decide)
    have k10 := hq 10 (by decide) (by decide)
    have k11 := hq 11 (by decide) (by decide)
    have k12 := hq 12 (by decide) (by decide)
    have k13 := hq 13 (by decide) (by decide)
    have k14 := hq 14 (by decide) (by decide)
    clear hq hx
    generalize nameB e.per = np at *
    generalize nameB e.item = ni at *
    go_wp2
    go_ret
    exact ⟨ret_bool HT.out.symm, hbq⟩
  rcases (show (kd = 0 ∨ kd = 1 ∨ kd = 2 ∨ kd = 3 ∨ kd = 5 ∨ kd = 6) ∨ (kd = 4) ∨ (kd = 7 ∨ kd = 8 ∨ kd = 9 ∨ kd = 10) ∨ (kd = 11) ∨ (kd = 12) ∨ (kd = 13) by omega) with hk | hk | hk | hk | hk | hk
  · have HT := Lib.hid (show tb = (nameB e.per && nameB e.item && (e.val == 0) && e.text.isEmpty) by
      rw [← HTB.out]
      unfold tailB
      rw [HKE.out]
      rcases hk with rfl | rfl | rfl | rfl | rfl | rfl <;> rfl)
    clear hx
    rcases hk with rfl | rfl | rfl | rfl | rfl | rfl
    all_goals
      generalize nameB e.per = np at *
      generalize nameB e.item = ni at *
      cases np
      · go_wp2
        go_ret
        exact ⟨ret_bool (by rw [HT.out]; first | rfl | simp), hbq⟩
      cases ni
      · go_wp2
        go_ret
        exact ⟨ret_bool (by rw [HT.out]; first | rfl | simp), hbq⟩
      cases zv0 : (e.val == 0)
      · go_wp2
        go_ret
        exact ⟨ret_bool (by rw [HT.out]; rw [zv0]; rfl), hbq⟩
      go_wp2
      go_ret
      exact ⟨ret_bool (by rw [HT.out]; rw [zv0]; first | rfl | simp), hbq⟩
  · have HT := Lib.hid (show tb = (nameB e.per && nameB e.item && decide (1 ≤ e.val) && decide (e.val ≤ 5) && e.text.isEmpty) by
      rw [← HTB.out]
      unfold tailB
      rw [HKE.out]
      rw [hk]; rfl)
    subst hk
    clear hx
    generalize nameB e.per = np at *
    generalize nameB e.item = ni at *
    cases np
    · go_wp2
      go_ret
      exact ⟨ret_bool (by rw [HT.out]; first | rfl | simp), hbq⟩
    cases ni
    · go_wp2
      go_ret
      exact ⟨ret_bool (by rw [HT.out]; first | rfl | simp), hbq⟩
    cases zv1 : decide (1 ≤ e.val)
    · go_wp2
      go_ret
      exact ⟨ret_bool (by rw [HT.out]; rw [zv1]; rfl), hbq⟩
    cases zv5 : decide (e.val ≤ 5)
    · go_wp2
      go_ret
      exact ⟨ret_bool (by rw [HT.out]; rw [zv1]; rw [zv5]; rfl), hbq⟩
    go_wp2
    go_ret
    exact ⟨ret_bool (by rw [HT.out]; rw [zv1]; rw [zv5]; first | rfl | simp), hbq⟩
  · have HT := Lib.hid (show tb = (nameB e.per && e.item.isEmpty && (e.val == 0) && nameB e.text) by
      rw [← HTB.out]
      unfold tailB
      rw [HKE.out]
      rcases hk with rfl | rfl | rfl | rfl <;> rfl)
    clear hx
    rcases hk with rfl | rfl | rfl | rfl
    all_goals
      generalize nameB e.per = np at *
      generalize nameB e.item = ni at *
      cases np
      · go_wp2
        go_ret
        exact ⟨ret_bool (by rw [HT.out]; first | rfl | simp), hbq⟩
      cases zie : e.item.isEmpty
      · go_wp2
        go_ret
        exact ⟨ret_bool (by rw [HT.out]; rw [zie]; rfl), hbq⟩
      cases zv0 : (e.val == 0)
      · go_wp2
        go_ret
        exact ⟨ret_bool (by rw [HT.out]; rw [zie]; rw [zv0]; rfl), hbq⟩
      go_wp2_with fail
      refine (name_all _ e.text).mono ?_
      rintro r w2 ⟨rfl, rfl⟩
      generalize nameB e.text = nt at *
      go_wp2
      go_ret
      exact ⟨ret_bool (by rw [HT.out]; rw [zie]; rw [zv0]; rfl), hbq⟩
  · have HT := Lib.hid (show tb = (e.per.isEmpty && nameB e.item && decide (0 ≤ e.val) && decide (e.val ≤ 1048576) && listingB e.text) by
      rw [← HTB.out]
      unfold tailB
      rw [HKE.out]
      rw [hk]; rfl)
    subst hk
    clear hx
    generalize nameB e.per = np at *
    generalize nameB e.item = ni at *
    cases zpe : e.per.isEmpty
    · go_wp2
      go_ret
      exact ⟨ret_bool (by rw [HT.out]; rw [zpe]; rfl), hbq⟩
    cases ni
    · go_wp2
      go_ret
      exact ⟨ret_bool (by rw [HT.out]; rw [zpe]; first | rfl | simp), hbq⟩
    cases zv0l : decide (0 ≤ e.val)
    · go_wp2
      go_ret
      exact ⟨ret_bool (by rw [HT.out]; rw [zpe]; rw [zv0l]; rfl), hbq⟩
    cases zv20 : decide (e.val ≤ 1048576)
    · go_wp2
      go_ret
      exact ⟨ret_bool (by rw [HT.out]; rw [zpe]; rw [zv0l]; rw [zv20]; rfl), hbq⟩
    have HMQ := Lib.hid (show MaxAt (w1.drewN nq) from HMX.out.up hbq)
    go_wp2_with fail
    refine (listing_any (w1.drewN nq) e.text s4 HMQ.out).mono ?_
    rintro r w3 ⟨rfl, hb3⟩
    have hbz : Below w.heap.size w w3 := hbq.trans (hb3.mono hbq.size)
    generalize listingB e.text = li at *
    go_wp2
    go_ret
    exact ⟨ret_bool (by rw [HT.out]; rw [zpe]; rw [zv0l]; rw [zv20]; rfl), hbz⟩
  · have HT := Lib.hid (show tb = (e.per.isEmpty && nameB e.item && decide (0 ≤ e.val) && decide (e.val ≤ 1048576) && e.text.isEmpty) by
      rw [← HTB.out]
      unfold tailB
      rw [HKE.out]
      rw [hk]; rfl)
    subst hk
    clear hx
    generalize nameB e.per = np at *
    generalize nameB e.item = ni at *
    cases zpe : e.per.isEmpty
    · go_wp2
      go_ret
      exact ⟨ret_bool (by rw [HT.out]; rw [zpe]; rfl), hbq⟩
    cases ni
    · go_wp2
      go_ret
      exact ⟨ret_bool (by rw [HT.out]; rw [zpe]; first | rfl | simp), hbq⟩
    cases zv0l : decide (0 ≤ e.val)
    · go_wp2
      go_ret
      exact ⟨ret_bool (by rw [HT.out]; rw [zpe]; rw [zv0l]; rfl), hbq⟩
    cases zv20 : decide (e.val ≤ 1048576)
    · go_wp2
      go_ret
      exact ⟨ret_bool (by rw [HT.out]; rw [zpe]; rw [zv0l]; rw [zv20]; rfl), hbq⟩
    go_wp2
    go_ret
    exact ⟨ret_bool (by rw [HT.out]; rw [zpe]; rw [zv0l]; rw [zv20]; first | rfl | simp), hbq⟩
  · have HT := Lib.hid (show tb = (e.per.isEmpty && nameB e.item && (e.val == 0) && e.text.isEmpty) by
      rw [← HTB.out]
      unfold tailB
      rw [HKE.out]
      rw [hk]; rfl)
    subst hk
    clear hx
    generalize nameB e.per = np at *
    generalize nameB e.item = ni at *
    cases zpe : e.per.isEmpty
    · go_wp2
      go_ret
      exact ⟨ret_bool (by rw [HT.out]; rw [zpe]; rfl), hbq⟩
    cases ni
    · go_wp2
      go_ret
      exact ⟨ret_bool (by rw [HT.out]; rw [zpe]; first | rfl | simp), hbq⟩
    cases zv0 : (e.val == 0)
    · go_wp2
      go_ret
      exact ⟨ret_bool (by rw [HT.out]; rw [zpe]; rw [zv0]; rfl), hbq⟩
    go_wp2
    go_ret
    exact ⟨ret_bool (by rw [HT.out]; rw [zpe]; rw [zv0]; first | rfl | simp), hbq⟩
theorem may_any (w : World) (e : Ev) (hs : e.small) (hmx : MaxAt w) : Calls Tryz.prog 65 #[e.agg] w (Says (mayB e) w) := by
  unfold mayB
  cases hh : headB e
  · exact may_head w e hs hh
  rw [Bool.true_and]
  by_cases hk : e.kind = 14
  · have hq : tailB e = (nameB e.per && e.item.isEmpty && (e.val == 0) && e.text.isEmpty) := by unfold tailB; rw [hk]; rfl
    rw [hq]
    exact may_forget w e hs hh hk
  · exact may_tail w e hs hmx hh hk
end Go.Proofs.YtdjoaboalknlkaaGreatDoor
