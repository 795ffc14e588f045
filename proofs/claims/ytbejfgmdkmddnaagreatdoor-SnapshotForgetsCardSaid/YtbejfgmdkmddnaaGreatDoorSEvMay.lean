/-
  Layer 2: event.May, whole.
-/
import Derived.Test.YtbejfgmdkmddnaaGreatDoorSEvListing
namespace Go.Proofs.YtbejfgmdkmddnaaGreatDoor
open Go.RowKit Go.Maps Go.Sort

def tailB (e : Ev) : Bool :=
  if e.kind = 0 then nameB e.per && nameB e.item && (e.val == 0) && e.text.isEmpty else
  if e.kind = 1 then nameB e.per && nameB e.item && (e.val == 0) && e.text.isEmpty else
  if e.kind = 2 then nameB e.per && nameB e.item && (e.val == 0) && e.text.isEmpty else
  if e.kind = 3 then nameB e.per && nameB e.item && (e.val == 0) && e.text.isEmpty else
  if e.kind = 4 then nameB e.per && nameB e.item && decide (1 ≤ e.val) && decide (e.val ≤ 5) && e.text.isEmpty else
  if e.kind = 5 then nameB e.per && nameB e.item && (e.val == 0) && e.text.isEmpty else
  if e.kind = 6 then nameB e.per && nameB e.item && (e.val == 0) && e.text.isEmpty else
  if e.kind = 7 then nameB e.per && e.item.isEmpty && (e.val == 0) && nameB e.text else
  if e.kind = 8 then nameB e.per && e.item.isEmpty && (e.val == 0) && nameB e.text else
  if e.kind = 9 then nameB e.per && e.item.isEmpty && (e.val == 0) && nameB e.text else
  if e.kind = 10 then nameB e.per && e.item.isEmpty && (e.val == 0) && nameB e.text else
  if e.kind = 11 then e.per.isEmpty && nameB e.item && decide (0 ≤ e.val) && decide (e.val ≤ 1048576) && listingB e.text else
  if e.kind = 12 then e.per.isEmpty && nameB e.item && decide (0 ≤ e.val) && decide (e.val ≤ 1048576) && e.text.isEmpty else
  if e.kind = 13 then e.per.isEmpty && nameB e.item && (e.val == 0) && e.text.isEmpty else
  if e.kind = 14 then nameB e.per && e.item.isEmpty && (e.val == 0) && e.text.isEmpty else false
/-- an event that may be -/
def mayB (e : Ev) : Bool := headB e && tailB e

theorem nameq' (w : World) (l : List UInt8) : Calls Tryz.prog 60 #[.string ⟨l.toArray⟩] w fun e w' => e = .returned (.bool (nameB l)) ∧ w' = w :=
  (name_all w l).mono fun _ _ h => ⟨h.1, h.2.symm⟩

set_option maxRecDepth 100000 in
set_option maxHeartbeats 4000000 in
theorem may_k0 (w : World) (e : Ev) (hs : e.small) (hmx : MaxAt w) (hh : headB e = true) (hk : e.kind = 0) :
    Calls Tryz.prog 81 #[e.agg] w (Says (nameB e.per && nameB e.item && (e.val == 0) && e.text.isEmpty) w) := by
  obtain ⟨s1, s2, s3, s4⟩ := hs
  have HMX := Lib.hid hmx; clear hmx
  have hh' : (nameB e.src && decide (1 ≤ e.num) && decide (e.num ≤ 1099511627776) && decide (0 ≤ e.at_) && decide (e.at_ ≤ 1099511627776)) = true := hh
  simp only [Bool.and_eq_true, decide_eq_true_eq] at hh'
  obtain ⟨⟨⟨⟨hns, h1⟩, h2⟩, h3⟩, h4⟩ := hh'
  have HNS := Lib.hid hns; clear hns hh
  have d1 : decide (e.num < 1) = false := decide_eq_false (by omega)
  have d2 : decide (1099511627776 < e.num) = false := decide_eq_false (by omega)
  have d3 : decide (e.at_ < 0) = false := decide_eq_false (by omega)
  have d4 : decide (1099511627776 < e.at_) = false := decide_eq_false (by omega)
  have HK := Lib.hid hk; clear hk
  unfold Ev.agg
  go_enter Tryz.func81, Tryz.ntmps81
  go_wp2_with fail
  refine (name_all _ e.src).mono ?_
  rintro r w1 ⟨rfl, rfl⟩
  rw [HNS.out]
  have hb : Below w.heap.size w (w.alloc (evObj e)) := (Below.refl _ _).alloc (Nat.le_refl _) _
  obtain ⟨f0, f1, f2, f3, f4, f5, f6, f7⟩ := EvIn.new w e
  generalize w.alloc (evObj e) = w1 at *
  rw [HK.out] at f3
  go_wp2
  clear d1 d2 d3 d4
  go_quiet ((go_at_call 60; exact Calls.quiet_of_same (nameq' _ _)))
  have hbq : Below w.heap.size w (w1.drewN nq) := below_drewN hb nq
  generalize nameB e.per = np at *
  generalize nameB e.item = ni at *
  cases np
  · go_wp2
    go_ret
    exact ⟨ret_bool (by simp), hbq⟩
  cases ni
  · go_wp2
    go_ret
    exact ⟨ret_bool (by simp), hbq⟩
  cases zv0 : (e.val == 0)
  · go_wp2
    go_ret
    exact ⟨ret_bool (by rw [zv0]; rfl), hbq⟩
  go_wp2
  go_ret
  exact ⟨ret_bool (by rw [zv0]; rfl), hbq⟩

set_option maxRecDepth 100000 in
set_option maxHeartbeats 4000000 in
theorem may_k1 (w : World) (e : Ev) (hs : e.small) (hmx : MaxAt w) (hh : headB e = true) (hk : e.kind = 1) :
    Calls Tryz.prog 81 #[e.agg] w (Says (nameB e.per && nameB e.item && (e.val == 0) && e.text.isEmpty) w) := by
  obtain ⟨s1, s2, s3, s4⟩ := hs
  have HMX := Lib.hid hmx; clear hmx
  have hh' : (nameB e.src && decide (1 ≤ e.num) && decide (e.num ≤ 1099511627776) && decide (0 ≤ e.at_) && decide (e.at_ ≤ 1099511627776)) = true := hh
  simp only [Bool.and_eq_true, decide_eq_true_eq] at hh'
  obtain ⟨⟨⟨⟨hns, h1⟩, h2⟩, h3⟩, h4⟩ := hh'
  have HNS := Lib.hid hns; clear hns hh
  have d1 : decide (e.num < 1) = false := decide_eq_false (by omega)
  have d2 : decide (1099511627776 < e.num) = false := decide_eq_false (by omega)
  have d3 : decide (e.at_ < 0) = false := decide_eq_false (by omega)
  have d4 : decide (1099511627776 < e.at_) = false := decide_eq_false (by omega)
  have HK := Lib.hid hk; clear hk
  unfold Ev.agg
  go_enter Tryz.func81, Tryz.ntmps81
  go_wp2_with fail
  refine (name_all _ e.src).mono ?_
  rintro r w1 ⟨rfl, rfl⟩
  rw [HNS.out]
  have hb : Below w.heap.size w (w.alloc (evObj e)) := (Below.refl _ _).alloc (Nat.le_refl _) _
  obtain ⟨f0, f1, f2, f3, f4, f5, f6, f7⟩ := EvIn.new w e
  generalize w.alloc (evObj e) = w1 at *
  rw [HK.out] at f3
  go_wp2
  clear d1 d2 d3 d4
  go_quiet ((go_at_call 60; exact Calls.quiet_of_same (nameq' _ _)))
  have hbq : Below w.heap.size w (w1.drewN nq) := below_drewN hb nq
  generalize nameB e.per = np at *
  generalize nameB e.item = ni at *
  cases np
  · go_wp2
    go_ret
    exact ⟨ret_bool (by simp), hbq⟩
  cases ni
  · go_wp2
    go_ret
    exact ⟨ret_bool (by simp), hbq⟩
  cases zv0 : (e.val == 0)
  · go_wp2
    go_ret
    exact ⟨ret_bool (by rw [zv0]; rfl), hbq⟩
  go_wp2
  go_ret
  exact ⟨ret_bool (by rw [zv0]; rfl), hbq⟩

set_option maxRecDepth 100000 in
set_option maxHeartbeats 4000000 in
theorem may_k2 (w : World) (e : Ev) (hs : e.small) (hmx : MaxAt w) (hh : headB e = true) (hk : e.kind = 2) :
    Calls Tryz.prog 81 #[e.agg] w (Says (nameB e.per && nameB e.item && (e.val == 0) && e.text.isEmpty) w) := by
  obtain ⟨s1, s2, s3, s4⟩ := hs
  have HMX := Lib.hid hmx; clear hmx
  have hh' : (nameB e.src && decide (1 ≤ e.num) && decide (e.num ≤ 1099511627776) && decide (0 ≤ e.at_) && decide (e.at_ ≤ 1099511627776)) = true := hh
  simp only [Bool.and_eq_true, decide_eq_true_eq] at hh'
  obtain ⟨⟨⟨⟨hns, h1⟩, h2⟩, h3⟩, h4⟩ := hh'
  have HNS := Lib.hid hns; clear hns hh
  have d1 : decide (e.num < 1) = false := decide_eq_false (by omega)
  have d2 : decide (1099511627776 < e.num) = false := decide_eq_false (by omega)
  have d3 : decide (e.at_ < 0) = false := decide_eq_false (by omega)
  have d4 : decide (1099511627776 < e.at_) = false := decide_eq_false (by omega)
  have HK := Lib.hid hk; clear hk
  unfold Ev.agg
  go_enter Tryz.func81, Tryz.ntmps81
  go_wp2_with fail
  refine (name_all _ e.src).mono ?_
  rintro r w1 ⟨rfl, rfl⟩
  rw [HNS.out]
  have hb : Below w.heap.size w (w.alloc (evObj e)) := (Below.refl _ _).alloc (Nat.le_refl _) _
  obtain ⟨f0, f1, f2, f3, f4, f5, f6, f7⟩ := EvIn.new w e
  generalize w.alloc (evObj e) = w1 at *
  rw [HK.out] at f3
  go_wp2
  clear d1 d2 d3 d4
  go_quiet ((go_at_call 60; exact Calls.quiet_of_same (nameq' _ _)))
  have hbq : Below w.heap.size w (w1.drewN nq) := below_drewN hb nq
  generalize nameB e.per = np at *
  generalize nameB e.item = ni at *
  cases np
  · go_wp2
    go_ret
    exact ⟨ret_bool (by simp), hbq⟩
  cases ni
  · go_wp2
    go_ret
    exact ⟨ret_bool (by simp), hbq⟩
  cases zv0 : (e.val == 0)
  · go_wp2
    go_ret
    exact ⟨ret_bool (by rw [zv0]; rfl), hbq⟩
  go_wp2
  go_ret
  exact ⟨ret_bool (by rw [zv0]; rfl), hbq⟩

set_option maxRecDepth 100000 in
set_option maxHeartbeats 4000000 in
theorem may_k3 (w : World) (e : Ev) (hs : e.small) (hmx : MaxAt w) (hh : headB e = true) (hk : e.kind = 3) :
    Calls Tryz.prog 81 #[e.agg] w (Says (nameB e.per && nameB e.item && (e.val == 0) && e.text.isEmpty) w) := by
  obtain ⟨s1, s2, s3, s4⟩ := hs
  have HMX := Lib.hid hmx; clear hmx
  have hh' : (nameB e.src && decide (1 ≤ e.num) && decide (e.num ≤ 1099511627776) && decide (0 ≤ e.at_) && decide (e.at_ ≤ 1099511627776)) = true := hh
  simp only [Bool.and_eq_true, decide_eq_true_eq] at hh'
  obtain ⟨⟨⟨⟨hns, h1⟩, h2⟩, h3⟩, h4⟩ := hh'
  have HNS := Lib.hid hns; clear hns hh
  have d1 : decide (e.num < 1) = false := decide_eq_false (by omega)
  have d2 : decide (1099511627776 < e.num) = false := decide_eq_false (by omega)
  have d3 : decide (e.at_ < 0) = false := decide_eq_false (by omega)
  have d4 : decide (1099511627776 < e.at_) = false := decide_eq_false (by omega)
  have HK := Lib.hid hk; clear hk
  unfold Ev.agg
  go_enter Tryz.func81, Tryz.ntmps81
  go_wp2_with fail
  refine (name_all _ e.src).mono ?_
  rintro r w1 ⟨rfl, rfl⟩
  rw [HNS.out]
  have hb : Below w.heap.size w (w.alloc (evObj e)) := (Below.refl _ _).alloc (Nat.le_refl _) _
  obtain ⟨f0, f1, f2, f3, f4, f5, f6, f7⟩ := EvIn.new w e
  generalize w.alloc (evObj e) = w1 at *
  rw [HK.out] at f3
  go_wp2
  clear d1 d2 d3 d4
  go_quiet ((go_at_call 60; exact Calls.quiet_of_same (nameq' _ _)))
  have hbq : Below w.heap.size w (w1.drewN nq) := below_drewN hb nq
  generalize nameB e.per = np at *
  generalize nameB e.item = ni at *
  cases np
  · go_wp2
    go_ret
    exact ⟨ret_bool (by simp), hbq⟩
  cases ni
  · go_wp2
    go_ret
    exact ⟨ret_bool (by simp), hbq⟩
  cases zv0 : (e.val == 0)
  · go_wp2
    go_ret
    exact ⟨ret_bool (by rw [zv0]; rfl), hbq⟩
  go_wp2
  go_ret
  exact ⟨ret_bool (by rw [zv0]; rfl), hbq⟩

set_option maxRecDepth 100000 in
set_option maxHeartbeats 4000000 in
theorem may_k4 (w : World) (e : Ev) (hs : e.small) (hmx : MaxAt w) (hh : headB e = true) (hk : e.kind = 4) :
    Calls Tryz.prog 81 #[e.agg] w (Says (nameB e.per && nameB e.item && decide (1 ≤ e.val) && decide (e.val ≤ 5) && e.text.isEmpty) w) := by
  obtain ⟨s1, s2, s3, s4⟩ := hs
  have HMX := Lib.hid hmx; clear hmx
  have hh' : (nameB e.src && decide (1 ≤ e.num) && decide (e.num ≤ 1099511627776) && decide (0 ≤ e.at_) && decide (e.at_ ≤ 1099511627776)) = true := hh
  simp only [Bool.and_eq_true, decide_eq_true_eq] at hh'
  obtain ⟨⟨⟨⟨hns, h1⟩, h2⟩, h3⟩, h4⟩ := hh'
  have HNS := Lib.hid hns; clear hns hh
  have d1 : decide (e.num < 1) = false := decide_eq_false (by omega)
  have d2 : decide (1099511627776 < e.num) = false := decide_eq_false (by omega)
  have d3 : decide (e.at_ < 0) = false := decide_eq_false (by omega)
  have d4 : decide (1099511627776 < e.at_) = false := decide_eq_false (by omega)
  have HK := Lib.hid hk; clear hk
  unfold Ev.agg
  go_enter Tryz.func81, Tryz.ntmps81
  go_wp2_with fail
  refine (name_all _ e.src).mono ?_
  rintro r w1 ⟨rfl, rfl⟩
  rw [HNS.out]
  have hb : Below w.heap.size w (w.alloc (evObj e)) := (Below.refl _ _).alloc (Nat.le_refl _) _
  obtain ⟨f0, f1, f2, f3, f4, f5, f6, f7⟩ := EvIn.new w e
  generalize w.alloc (evObj e) = w1 at *
  rw [HK.out] at f3
  go_wp2
  clear d1 d2 d3 d4
  go_quiet ((go_at_call 60; exact Calls.quiet_of_same (nameq' _ _)))
  have hbq : Below w.heap.size w (w1.drewN nq) := below_drewN hb nq
  generalize nameB e.per = np at *
  generalize nameB e.item = ni at *
  cases np
  · go_wp2
    go_ret
    exact ⟨ret_bool (by simp), hbq⟩
  cases ni
  · go_wp2
    go_ret
    exact ⟨ret_bool (by simp), hbq⟩
  cases zv1 : decide (1 ≤ e.val)
  · go_wp2
    go_ret
    exact ⟨ret_bool (by rw [zv1]; rfl), hbq⟩
  cases zv5 : decide (e.val ≤ 5)
  · go_wp2
    go_ret
    exact ⟨ret_bool (by rw [zv1]; rw [zv5]; rfl), hbq⟩
  go_wp2
  go_ret
  exact ⟨ret_bool (by rw [zv1]; rw [zv5]; rfl), hbq⟩

set_option maxRecDepth 100000 in
set_option maxHeartbeats 4000000 in
theorem may_k5 (w : World) (e : Ev) (hs : e.small) (hmx : MaxAt w) (hh : headB e = true) (hk : e.kind = 5) :
    Calls Tryz.prog 81 #[e.agg] w (Says (nameB e.per && nameB e.item && (e.val == 0) && e.text.isEmpty) w) := by
  obtain ⟨s1, s2, s3, s4⟩ := hs
  have HMX := Lib.hid hmx; clear hmx
  have hh' : (nameB e.src && decide (1 ≤ e.num) && decide (e.num ≤ 1099511627776) && decide (0 ≤ e.at_) && decide (e.at_ ≤ 1099511627776)) = true := hh
  simp only [Bool.and_eq_true, decide_eq_true_eq] at hh'
  obtain ⟨⟨⟨⟨hns, h1⟩, h2⟩, h3⟩, h4⟩ := hh'
  have HNS := Lib.hid hns; clear hns hh
  have d1 : decide (e.num < 1) = false := decide_eq_false (by omega)
  have d2 : decide (1099511627776 < e.num) = false := decide_eq_false (by omega)
  have d3 : decide (e.at_ < 0) = false := decide_eq_false (by omega)
  have d4 : decide (1099511627776 < e.at_) = false := decide_eq_false (by omega)
  have HK := Lib.hid hk; clear hk
  unfold Ev.agg
  go_enter Tryz.func81, Tryz.ntmps81
  go_wp2_with fail
  refine (name_all _ e.src).mono ?_
  rintro r w1 ⟨rfl, rfl⟩
  rw [HNS.out]
  have hb : Below w.heap.size w (w.alloc (evObj e)) := (Below.refl _ _).alloc (Nat.le_refl _) _
  obtain ⟨f0, f1, f2, f3, f4, f5, f6, f7⟩ := EvIn.new w e
  generalize w.alloc (evObj e) = w1 at *
  rw [HK.out] at f3
  go_wp2
  clear d1 d2 d3 d4
  go_quiet ((go_at_call 60; exact Calls.quiet_of_same (nameq' _ _)))
  have hbq : Below w.heap.size w (w1.drewN nq) := below_drewN hb nq
  generalize nameB e.per = np at *
  generalize nameB e.item = ni at *
  cases np
  · go_wp2
    go_ret
    exact ⟨ret_bool (by simp), hbq⟩
  cases ni
  · go_wp2
    go_ret
    exact ⟨ret_bool (by simp), hbq⟩
  cases zv0 : (e.val == 0)
  · go_wp2
    go_ret
    exact ⟨ret_bool (by rw [zv0]; rfl), hbq⟩
  go_wp2
  go_ret
  exact ⟨ret_bool (by rw [zv0]; rfl), hbq⟩

set_option maxRecDepth 100000 in
set_option maxHeartbeats 4000000 in
theorem may_k6 (w : World) (e : Ev) (hs : e.small) (hmx : MaxAt w) (hh : headB e = true) (hk : e.kind = 6) :
    Calls Tryz.prog 81 #[e.agg] w (Says (nameB e.per && nameB e.item && (e.val == 0) && e.text.isEmpty) w) := by
  obtain ⟨s1, s2, s3, s4⟩ := hs
  have HMX := Lib.hid hmx; clear hmx
  have hh' : (nameB e.src && decide (1 ≤ e.num) && decide (e.num ≤ 1099511627776) && decide (0 ≤ e.at_) && decide (e.at_ ≤ 1099511627776)) = true := hh
  simp only [Bool.and_eq_true, decide_eq_true_eq] at hh'
  obtain ⟨⟨⟨⟨hns, h1⟩, h2⟩, h3⟩, h4⟩ := hh'
  have HNS := Lib.hid hns; clear hns hh
  have d1 : decide (e.num < 1) = false := decide_eq_false (by omega)
  have d2 : decide (1099511627776 < e.num) = false := decide_eq_false (by omega)
  have d3 : decide (e.at_ < 0) = false := decide_eq_false (by omega)
  have d4 : decide (1099511627776 < e.at_) = false := decide_eq_false (by omega)
  have HK := Lib.hid hk; clear hk
  unfold Ev.agg
  go_enter Tryz.func81, Tryz.ntmps81
  go_wp2_with fail
  refine (name_all _ e.src).mono ?_
  rintro r w1 ⟨rfl, rfl⟩
  rw [HNS.out]
  have hb : Below w.heap.size w (w.alloc (evObj e)) := (Below.refl _ _).alloc (Nat.le_refl _) _
  obtain ⟨f0, f1, f2, f3, f4, f5, f6, f7⟩ := EvIn.new w e
  generalize w.alloc (evObj e) = w1 at *
  rw [HK.out] at f3
  go_wp2
  clear d1 d2 d3 d4
  go_quiet ((go_at_call 60; exact Calls.quiet_of_same (nameq' _ _)))
  have hbq : Below w.heap.size w (w1.drewN nq) := below_drewN hb nq
  generalize nameB e.per = np at *
  generalize nameB e.item = ni at *
  cases np
  · go_wp2
    go_ret
    exact ⟨ret_bool (by simp), hbq⟩
  cases ni
  · go_wp2
    go_ret
    exact ⟨ret_bool (by simp), hbq⟩
  cases zv0 : (e.val == 0)
  · go_wp2
    go_ret
    exact ⟨ret_bool (by rw [zv0]; rfl), hbq⟩
  go_wp2
  go_ret
  exact ⟨ret_bool (by rw [zv0]; rfl), hbq⟩

set_option maxRecDepth 100000 in
set_option maxHeartbeats 4000000 in
theorem may_k7 (w : World) (e : Ev) (hs : e.small) (hmx : MaxAt w) (hh : headB e = true) (hk : e.kind = 7) :
    Calls Tryz.prog 81 #[e.agg] w (Says (nameB e.per && e.item.isEmpty && (e.val == 0) && nameB e.text) w) := by
  obtain ⟨s1, s2, s3, s4⟩ := hs
  have HMX := Lib.hid hmx; clear hmx
  have hh' : (nameB e.src && decide (1 ≤ e.num) && decide (e.num ≤ 1099511627776) && decide (0 ≤ e.at_) && decide (e.at_ ≤ 1099511627776)) = true := hh
  simp only [Bool.and_eq_true, decide_eq_true_eq] at hh'
  obtain ⟨⟨⟨⟨hns, h1⟩, h2⟩, h3⟩, h4⟩ := hh'
  have HNS := Lib.hid hns; clear hns hh
  have d1 : decide (e.num < 1) = false := decide_eq_false (by omega)
  have d2 : decide (1099511627776 < e.num) = false := decide_eq_false (by omega)
  have d3 : decide (e.at_ < 0) = false := decide_eq_false (by omega)
  have d4 : decide (1099511627776 < e.at_) = false := decide_eq_false (by omega)
  have HK := Lib.hid hk; clear hk
  unfold Ev.agg
  go_enter Tryz.func81, Tryz.ntmps81
  go_wp2_with fail
  refine (name_all _ e.src).mono ?_
  rintro r w1 ⟨rfl, rfl⟩
  rw [HNS.out]
  have hb : Below w.heap.size w (w.alloc (evObj e)) := (Below.refl _ _).alloc (Nat.le_refl _) _
  obtain ⟨f0, f1, f2, f3, f4, f5, f6, f7⟩ := EvIn.new w e
  generalize w.alloc (evObj e) = w1 at *
  rw [HK.out] at f3
  go_wp2
  clear d1 d2 d3 d4
  go_quiet ((go_at_call 60; exact Calls.quiet_of_same (nameq' _ _)))
  have hbq : Below w.heap.size w (w1.drewN nq) := below_drewN hb nq
  generalize nameB e.per = np at *
  generalize nameB e.item = ni at *
  cases np
  · go_wp2
    go_ret
    exact ⟨ret_bool (by simp), hbq⟩
  cases zie : e.item.isEmpty
  · go_wp2
    go_ret
    exact ⟨ret_bool (by rw [zie]; rfl), hbq⟩
  cases zv0 : (e.val == 0)
  · go_wp2
    go_ret
    exact ⟨ret_bool (by rw [zie]; rw [zv0]; rfl), hbq⟩
  go_wp2_with fail
  refine (name_all _ e.text).mono ?_
  rintro r w2 ⟨rfl, rfl⟩
  generalize nameB e.text = nt at *
  go_wp2
  go_ret
  exact ⟨ret_bool (by rw [zie]; rw [zv0]; rfl), hbq⟩

set_option maxRecDepth 100000 in
set_option maxHeartbeats 4000000 in
theorem may_k8 (w : World) (e : Ev) (hs : e.small) (hmx : MaxAt w) (hh : headB e = true) (hk : e.kind = 8) :
    Calls Tryz.prog 81 #[e.agg] w (Says (nameB e.per && e.item.isEmpty && (e.val == 0) && nameB e.text) w) := by
  obtain ⟨s1, s2, s3, s4⟩ := hs
  have HMX := Lib.hid hmx; clear hmx
  have hh' : (nameB e.src && decide (1 ≤ e.num) && decide (e.num ≤ 1099511627776) && decide (0 ≤ e.at_) && decide (e.at_ ≤ 1099511627776)) = true := hh
  simp only [Bool.and_eq_true, decide_eq_true_eq] at hh'
  obtain ⟨⟨⟨⟨hns, h1⟩, h2⟩, h3⟩, h4⟩ := hh'
  have HNS := Lib.hid hns; clear hns hh
  have d1 : decide (e.num < 1) = false := decide_eq_false (by omega)
  have d2 : decide (1099511627776 < e.num) = false := decide_eq_false (by omega)
  have d3 : decide (e.at_ < 0) = false := decide_eq_false (by omega)
  have d4 : decide (1099511627776 < e.at_) = false := decide_eq_false (by omega)
  have HK := Lib.hid hk; clear hk
  unfold Ev.agg
  go_enter Tryz.func81, Tryz.ntmps81
  go_wp2_with fail
  refine (name_all _ e.src).mono ?_
  rintro r w1 ⟨rfl, rfl⟩
  rw [HNS.out]
  have hb : Below w.heap.size w (w.alloc (evObj e)) := (Below.refl _ _).alloc (Nat.le_refl _) _
  obtain ⟨f0, f1, f2, f3, f4, f5, f6, f7⟩ := EvIn.new w e
  generalize w.alloc (evObj e) = w1 at *
  rw [HK.out] at f3
  go_wp2
  clear d1 d2 d3 d4
  go_quiet ((go_at_call 60; exact Calls.quiet_of_same (nameq' _ _)))
  have hbq : Below w.heap.size w (w1.drewN nq) := below_drewN hb nq
  generalize nameB e.per = np at *
  generalize nameB e.item = ni at *
  cases np
  · go_wp2
    go_ret
    exact ⟨ret_bool (by simp), hbq⟩
  cases zie : e.item.isEmpty
  · go_wp2
    go_ret
    exact ⟨ret_bool (by rw [zie]; rfl), hbq⟩
  cases zv0 : (e.val == 0)
  · go_wp2
    go_ret
    exact ⟨ret_bool (by rw [zie]; rw [zv0]; rfl), hbq⟩
  go_wp2_with fail
  refine (name_all _ e.text).mono ?_
  rintro r w2 ⟨rfl, rfl⟩
  generalize nameB e.text = nt at *
  go_wp2
  go_ret
  exact ⟨ret_bool (by rw [zie]; rw [zv0]; rfl), hbq⟩

set_option maxRecDepth 100000 in
set_option maxHeartbeats 4000000 in
theorem may_k9 (w : World) (e : Ev) (hs : e.small) (hmx : MaxAt w) (hh : headB e = true) (hk : e.kind = 9) :
    Calls Tryz.prog 81 #[e.agg] w (Says (nameB e.per && e.item.isEmpty && (e.val == 0) && nameB e.text) w) := by
  obtain ⟨s1, s2, s3, s4⟩ := hs
  have HMX := Lib.hid hmx; clear hmx
  have hh' : (nameB e.src && decide (1 ≤ e.num) && decide (e.num ≤ 1099511627776) && decide (0 ≤ e.at_) && decide (e.at_ ≤ 1099511627776)) = true := hh
  simp only [Bool.and_eq_true, decide_eq_true_eq] at hh'
  obtain ⟨⟨⟨⟨hns, h1⟩, h2⟩, h3⟩, h4⟩ := hh'
  have HNS := Lib.hid hns; clear hns hh
  have d1 : decide (e.num < 1) = false := decide_eq_false (by omega)
  have d2 : decide (1099511627776 < e.num) = false := decide_eq_false (by omega)
  have d3 : decide (e.at_ < 0) = false := decide_eq_false (by omega)
  have d4 : decide (1099511627776 < e.at_) = false := decide_eq_false (by omega)
  have HK := Lib.hid hk; clear hk
  unfold Ev.agg
  go_enter Tryz.func81, Tryz.ntmps81
  go_wp2_with fail
  refine (name_all _ e.src).mono ?_
  rintro r w1 ⟨rfl, rfl⟩
  rw [HNS.out]
  have hb : Below w.heap.size w (w.alloc (evObj e)) := (Below.refl _ _).alloc (Nat.le_refl _) _
  obtain ⟨f0, f1, f2, f3, f4, f5, f6, f7⟩ := EvIn.new w e
  generalize w.alloc (evObj e) = w1 at *
  rw [HK.out] at f3
  go_wp2
  clear d1 d2 d3 d4
  go_quiet ((go_at_call 60; exact Calls.quiet_of_same (nameq' _ _)))
  have hbq : Below w.heap.size w (w1.drewN nq) := below_drewN hb nq
  generalize nameB e.per = np at *
  generalize nameB e.item = ni at *
  cases np
  · go_wp2
    go_ret
    exact ⟨ret_bool (by simp), hbq⟩
  cases zie : e.item.isEmpty
  · go_wp2
    go_ret
    exact ⟨ret_bool (by rw [zie]; rfl), hbq⟩
  cases zv0 : (e.val == 0)
  · go_wp2
    go_ret
    exact ⟨ret_bool (by rw [zie]; rw [zv0]; rfl), hbq⟩
  go_wp2_with fail
  refine (name_all _ e.text).mono ?_
  rintro r w2 ⟨rfl, rfl⟩
  generalize nameB e.text = nt at *
  go_wp2
  go_ret
  exact ⟨ret_bool (by rw [zie]; rw [zv0]; rfl), hbq⟩

set_option maxRecDepth 100000 in
set_option maxHeartbeats 4000000 in
theorem may_k10 (w : World) (e : Ev) (hs : e.small) (hmx : MaxAt w) (hh : headB e = true) (hk : e.kind = 10) :
    Calls Tryz.prog 81 #[e.agg] w (Says (nameB e.per && e.item.isEmpty && (e.val == 0) && nameB e.text) w) := by
  obtain ⟨s1, s2, s3, s4⟩ := hs
  have HMX := Lib.hid hmx; clear hmx
  have hh' : (nameB e.src && decide (1 ≤ e.num) && decide (e.num ≤ 1099511627776) && decide (0 ≤ e.at_) && decide (e.at_ ≤ 1099511627776)) = true := hh
  simp only [Bool.and_eq_true, decide_eq_true_eq] at hh'
  obtain ⟨⟨⟨⟨hns, h1⟩, h2⟩, h3⟩, h4⟩ := hh'
  have HNS := Lib.hid hns; clear hns hh
  have d1 : decide (e.num < 1) = false := decide_eq_false (by omega)
  have d2 : decide (1099511627776 < e.num) = false := decide_eq_false (by omega)
  have d3 : decide (e.at_ < 0) = false := decide_eq_false (by omega)
  have d4 : decide (1099511627776 < e.at_) = false := decide_eq_false (by omega)
  have HK := Lib.hid hk; clear hk
  unfold Ev.agg
  go_enter Tryz.func81, Tryz.ntmps81
  go_wp2_with fail
  refine (name_all _ e.src).mono ?_
  rintro r w1 ⟨rfl, rfl⟩
  rw [HNS.out]
  have hb : Below w.heap.size w (w.alloc (evObj e)) := (Below.refl _ _).alloc (Nat.le_refl _) _
  obtain ⟨f0, f1, f2, f3, f4, f5, f6, f7⟩ := EvIn.new w e
  generalize w.alloc (evObj e) = w1 at *
  rw [HK.out] at f3
  go_wp2
  clear d1 d2 d3 d4
  go_quiet ((go_at_call 60; exact Calls.quiet_of_same (nameq' _ _)))
  have hbq : Below w.heap.size w (w1.drewN nq) := below_drewN hb nq
  generalize nameB e.per = np at *
  generalize nameB e.item = ni at *
  cases np
  · go_wp2
    go_ret
    exact ⟨ret_bool (by simp), hbq⟩
  cases zie : e.item.isEmpty
  · go_wp2
    go_ret
    exact ⟨ret_bool (by rw [zie]; rfl), hbq⟩
  cases zv0 : (e.val == 0)
  · go_wp2
    go_ret
    exact ⟨ret_bool (by rw [zie]; rw [zv0]; rfl), hbq⟩
  go_wp2_with fail
  refine (name_all _ e.text).mono ?_
  rintro r w2 ⟨rfl, rfl⟩
  generalize nameB e.text = nt at *
  go_wp2
  go_ret
  exact ⟨ret_bool (by rw [zie]; rw [zv0]; rfl), hbq⟩

set_option maxRecDepth 100000 in
set_option maxHeartbeats 4000000 in
theorem may_k11 (w : World) (e : Ev) (hs : e.small) (hmx : MaxAt w) (hh : headB e = true) (hk : e.kind = 11) :
    Calls Tryz.prog 81 #[e.agg] w (Says (e.per.isEmpty && nameB e.item && decide (0 ≤ e.val) && decide (e.val ≤ 1048576) && listingB e.text) w) := by
  obtain ⟨s1, s2, s3, s4⟩ := hs
  have HMX := Lib.hid hmx; clear hmx
  have hh' : (nameB e.src && decide (1 ≤ e.num) && decide (e.num ≤ 1099511627776) && decide (0 ≤ e.at_) && decide (e.at_ ≤ 1099511627776)) = true := hh
  simp only [Bool.and_eq_true, decide_eq_true_eq] at hh'
  obtain ⟨⟨⟨⟨hns, h1⟩, h2⟩, h3⟩, h4⟩ := hh'
  have HNS := Lib.hid hns; clear hns hh
  have d1 : decide (e.num < 1) = false := decide_eq_false (by omega)
  have d2 : decide (1099511627776 < e.num) = false := decide_eq_false (by omega)
  have d3 : decide (e.at_ < 0) = false := decide_eq_false (by omega)
  have d4 : decide (1099511627776 < e.at_) = false := decide_eq_false (by omega)
  have HK := Lib.hid hk; clear hk
  unfold Ev.agg
  go_enter Tryz.func81, Tryz.ntmps81
  go_wp2_with fail
  refine (name_all _ e.src).mono ?_
  rintro r w1 ⟨rfl, rfl⟩
  rw [HNS.out]
  have hb : Below w.heap.size w (w.alloc (evObj e)) := (Below.refl _ _).alloc (Nat.le_refl _) _
  obtain ⟨f0, f1, f2, f3, f4, f5, f6, f7⟩ := EvIn.new w e
  generalize w.alloc (evObj e) = w1 at *
  rw [HK.out] at f3
  go_wp2
  clear d1 d2 d3 d4
  go_quiet ((go_at_call 60; exact Calls.quiet_of_same (nameq' _ _)))
  have hbq : Below w.heap.size w (w1.drewN nq) := below_drewN hb nq
  generalize nameB e.per = np at *
  generalize nameB e.item = ni at *
  cases zpe : e.per.isEmpty
  · go_wp2
    go_ret
    exact ⟨ret_bool (by rw [zpe]; rfl), hbq⟩
  cases ni
  · go_wp2
    go_ret
    exact ⟨ret_bool (by rw [zpe]; rfl), hbq⟩
  cases zv0l : decide (0 ≤ e.val)
  · go_wp2
    go_ret
    exact ⟨ret_bool (by rw [zpe]; rw [zv0l]; rfl), hbq⟩
  cases zv20 : decide (e.val ≤ 1048576)
  · go_wp2
    go_ret
    exact ⟨ret_bool (by rw [zpe]; rw [zv0l]; rw [zv20]; rfl), hbq⟩
  have HMQ := Lib.hid (show MaxAt (w1.drewN nq) from HMX.out.up hbq)
  go_wp2_with fail
  refine (listing_any (w1.drewN nq) e.text s4 HMQ.out).mono ?_
  rintro r w3 ⟨rfl, hb3⟩
  have hbz : Below w.heap.size w w3 := hbq.trans (hb3.mono hbq.size)
  generalize listingB e.text = li at *
  go_wp2
  go_ret
  exact ⟨ret_bool (by rw [zpe]; rw [zv0l]; rw [zv20]; rfl), hbz⟩

set_option maxRecDepth 100000 in
set_option maxHeartbeats 4000000 in
theorem may_k12 (w : World) (e : Ev) (hs : e.small) (hmx : MaxAt w) (hh : headB e = true) (hk : e.kind = 12) :
    Calls Tryz.prog 81 #[e.agg] w (Says (e.per.isEmpty && nameB e.item && decide (0 ≤ e.val) && decide (e.val ≤ 1048576) && e.text.isEmpty) w) := by
  obtain ⟨s1, s2, s3, s4⟩ := hs
  have HMX := Lib.hid hmx; clear hmx
  have hh' : (nameB e.src && decide (1 ≤ e.num) && decide (e.num ≤ 1099511627776) && decide (0 ≤ e.at_) && decide (e.at_ ≤ 1099511627776)) = true := hh
  simp only [Bool.and_eq_true, decide_eq_true_eq] at hh'
  obtain ⟨⟨⟨⟨hns, h1⟩, h2⟩, h3⟩, h4⟩ := hh'
  have HNS := Lib.hid hns; clear hns hh
  have d1 : decide (e.num < 1) = false := decide_eq_false (by omega)
  have d2 : decide (1099511627776 < e.num) = false := decide_eq_false (by omega)
  have d3 : decide (e.at_ < 0) = false := decide_eq_false (by omega)
  have d4 : decide (1099511627776 < e.at_) = false := decide_eq_false (by omega)
  have HK := Lib.hid hk; clear hk
  unfold Ev.agg
  go_enter Tryz.func81, Tryz.ntmps81
  go_wp2_with fail
  refine (name_all _ e.src).mono ?_
  rintro r w1 ⟨rfl, rfl⟩
  rw [HNS.out]
  have hb : Below w.heap.size w (w.alloc (evObj e)) := (Below.refl _ _).alloc (Nat.le_refl _) _
  obtain ⟨f0, f1, f2, f3, f4, f5, f6, f7⟩ := EvIn.new w e
  generalize w.alloc (evObj e) = w1 at *
  rw [HK.out] at f3
  go_wp2
  clear d1 d2 d3 d4
  go_quiet ((go_at_call 60; exact Calls.quiet_of_same (nameq' _ _)))
  have hbq : Below w.heap.size w (w1.drewN nq) := below_drewN hb nq
  generalize nameB e.per = np at *
  generalize nameB e.item = ni at *
  cases zpe : e.per.isEmpty
  · go_wp2
    go_ret
    exact ⟨ret_bool (by rw [zpe]; rfl), hbq⟩
  cases ni
  · go_wp2
    go_ret
    exact ⟨ret_bool (by rw [zpe]; rfl), hbq⟩
  cases zv0l : decide (0 ≤ e.val)
  · go_wp2
    go_ret
    exact ⟨ret_bool (by rw [zpe]; rw [zv0l]; rfl), hbq⟩
  cases zv20 : decide (e.val ≤ 1048576)
  · go_wp2
    go_ret
    exact ⟨ret_bool (by rw [zpe]; rw [zv0l]; rw [zv20]; rfl), hbq⟩
  go_wp2
  go_ret
  exact ⟨ret_bool (by rw [zpe]; rw [zv0l]; rw [zv20]; rfl), hbq⟩

set_option maxRecDepth 100000 in
set_option maxHeartbeats 4000000 in
theorem may_k13 (w : World) (e : Ev) (hs : e.small) (hmx : MaxAt w) (hh : headB e = true) (hk : e.kind = 13) :
    Calls Tryz.prog 81 #[e.agg] w (Says (e.per.isEmpty && nameB e.item && (e.val == 0) && e.text.isEmpty) w) := by
  obtain ⟨s1, s2, s3, s4⟩ := hs
  have HMX := Lib.hid hmx; clear hmx
  have hh' : (nameB e.src && decide (1 ≤ e.num) && decide (e.num ≤ 1099511627776) && decide (0 ≤ e.at_) && decide (e.at_ ≤ 1099511627776)) = true := hh
  simp only [Bool.and_eq_true, decide_eq_true_eq] at hh'
  obtain ⟨⟨⟨⟨hns, h1⟩, h2⟩, h3⟩, h4⟩ := hh'
  have HNS := Lib.hid hns; clear hns hh
  have d1 : decide (e.num < 1) = false := decide_eq_false (by omega)
  have d2 : decide (1099511627776 < e.num) = false := decide_eq_false (by omega)
  have d3 : decide (e.at_ < 0) = false := decide_eq_false (by omega)
  have d4 : decide (1099511627776 < e.at_) = false := decide_eq_false (by omega)
  have HK := Lib.hid hk; clear hk
  unfold Ev.agg
  go_enter Tryz.func81, Tryz.ntmps81
  go_wp2_with fail
  refine (name_all _ e.src).mono ?_
  rintro r w1 ⟨rfl, rfl⟩
  rw [HNS.out]
  have hb : Below w.heap.size w (w.alloc (evObj e)) := (Below.refl _ _).alloc (Nat.le_refl _) _
  obtain ⟨f0, f1, f2, f3, f4, f5, f6, f7⟩ := EvIn.new w e
  generalize w.alloc (evObj e) = w1 at *
  rw [HK.out] at f3
  go_wp2
  clear d1 d2 d3 d4
  go_quiet ((go_at_call 60; exact Calls.quiet_of_same (nameq' _ _)))
  have hbq : Below w.heap.size w (w1.drewN nq) := below_drewN hb nq
  generalize nameB e.per = np at *
  generalize nameB e.item = ni at *
  cases zpe : e.per.isEmpty
  · go_wp2
    go_ret
    exact ⟨ret_bool (by rw [zpe]; rfl), hbq⟩
  cases ni
  · go_wp2
    go_ret
    exact ⟨ret_bool (by rw [zpe]; rfl), hbq⟩
  cases zv0 : (e.val == 0)
  · go_wp2
    go_ret
    exact ⟨ret_bool (by rw [zpe]; rw [zv0]; rfl), hbq⟩
  go_wp2
  go_ret
  exact ⟨ret_bool (by rw [zpe]; rw [zv0]; rfl), hbq⟩

set_option maxRecDepth 100000 in
set_option maxHeartbeats 4000000 in
theorem may_kx (w : World) (e : Ev) (hs : e.small) (hmx : MaxAt w) (hh : headB e = true) (hk : ∀ j : Nat, j ≤ 14 → e.kind ≠ j) :
    Calls Tryz.prog 81 #[e.agg] w (Says (false) w) := by
  obtain ⟨s1, s2, s3, s4⟩ := hs
  have HMX := Lib.hid hmx; clear hmx
  have hh' : (nameB e.src && decide (1 ≤ e.num) && decide (e.num ≤ 1099511627776) && decide (0 ≤ e.at_) && decide (e.at_ ≤ 1099511627776)) = true := hh
  simp only [Bool.and_eq_true, decide_eq_true_eq] at hh'
  obtain ⟨⟨⟨⟨hns, h1⟩, h2⟩, h3⟩, h4⟩ := hh'
  have HNS := Lib.hid hns; clear hns hh
  have d1 : decide (e.num < 1) = false := decide_eq_false (by omega)
  have d2 : decide (1099511627776 < e.num) = false := decide_eq_false (by omega)
  have d3 : decide (e.at_ < 0) = false := decide_eq_false (by omega)
  have d4 : decide (1099511627776 < e.at_) = false := decide_eq_false (by omega)
  have HK := Lib.hid hk; clear hk
  unfold Ev.agg
  go_enter Tryz.func81, Tryz.ntmps81
  go_wp2_with fail
  refine (name_all _ e.src).mono ?_
  rintro r w1 ⟨rfl, rfl⟩
  rw [HNS.out]
  have hb : Below w.heap.size w (w.alloc (evObj e)) := (Below.refl _ _).alloc (Nat.le_refl _) _
  obtain ⟨f0, f1, f2, f3, f4, f5, f6, f7⟩ := EvIn.new w e
  generalize w.alloc (evObj e) = w1 at *
  generalize e.kind = kd at *
  have k0 : (kd == 0) = false := by have := HK.out 0 (by omega); simpa using this
  have k1 : (kd == 1) = false := by have := HK.out 1 (by omega); simpa using this
  have k2 : (kd == 2) = false := by have := HK.out 2 (by omega); simpa using this
  have k3 : (kd == 3) = false := by have := HK.out 3 (by omega); simpa using this
  have k4 : (kd == 4) = false := by have := HK.out 4 (by omega); simpa using this
  have k5 : (kd == 5) = false := by have := HK.out 5 (by omega); simpa using this
  have k6 : (kd == 6) = false := by have := HK.out 6 (by omega); simpa using this
  have k7 : (kd == 7) = false := by have := HK.out 7 (by omega); simpa using this
  have k8 : (kd == 8) = false := by have := HK.out 8 (by omega); simpa using this
  have k9 : (kd == 9) = false := by have := HK.out 9 (by omega); simpa using this
  have k10 : (kd == 10) = false := by have := HK.out 10 (by omega); simpa using this
  have k11 : (kd == 11) = false := by have := HK.out 11 (by omega); simpa using this
  have k12 : (kd == 12) = false := by have := HK.out 12 (by omega); simpa using this
  have k13 : (kd == 13) = false := by have := HK.out 13 (by omega); simpa using this
  have k14 : (kd == 14) = false := by have := HK.out 14 (by omega); simpa using this
  go_wp2
  clear d1 d2 d3 d4
  go_quiet ((go_at_call 60; exact Calls.quiet_of_same (nameq' _ _)))
  have hbq : Below w.heap.size w (w1.drewN nq) := below_drewN hb nq
  generalize nameB e.per = np at *
  generalize nameB e.item = ni at *
  go_wp2
  go_ret
  exact ⟨rfl, hbq⟩

theorem may_any (w : World) (e : Ev) (hs : e.small) (hmx : MaxAt w) : Calls Tryz.prog 81 #[e.agg] w (Says (mayB e) w) := by
  unfold mayB
  cases hh : headB e
  · exact may_head w e hs hh
  rw [Bool.true_and]
  by_cases k0 : e.kind = 0
  · have hq : tailB e = (nameB e.per && nameB e.item && (e.val == 0) && e.text.isEmpty) := by unfold tailB; rw [k0]; rfl
    rw [hq]
    exact may_k0 w e hs hmx hh k0
  by_cases k1 : e.kind = 1
  · have hq : tailB e = (nameB e.per && nameB e.item && (e.val == 0) && e.text.isEmpty) := by unfold tailB; rw [k1]; rfl
    rw [hq]
    exact may_k1 w e hs hmx hh k1
  by_cases k2 : e.kind = 2
  · have hq : tailB e = (nameB e.per && nameB e.item && (e.val == 0) && e.text.isEmpty) := by unfold tailB; rw [k2]; rfl
    rw [hq]
    exact may_k2 w e hs hmx hh k2
  by_cases k3 : e.kind = 3
  · have hq : tailB e = (nameB e.per && nameB e.item && (e.val == 0) && e.text.isEmpty) := by unfold tailB; rw [k3]; rfl
    rw [hq]
    exact may_k3 w e hs hmx hh k3
  by_cases k4 : e.kind = 4
  · have hq : tailB e = (nameB e.per && nameB e.item && decide (1 ≤ e.val) && decide (e.val ≤ 5) && e.text.isEmpty) := by unfold tailB; rw [k4]; rfl
    rw [hq]
    exact may_k4 w e hs hmx hh k4
  by_cases k5 : e.kind = 5
  · have hq : tailB e = (nameB e.per && nameB e.item && (e.val == 0) && e.text.isEmpty) := by unfold tailB; rw [k5]; rfl
    rw [hq]
    exact may_k5 w e hs hmx hh k5
  by_cases k6 : e.kind = 6
  · have hq : tailB e = (nameB e.per && nameB e.item && (e.val == 0) && e.text.isEmpty) := by unfold tailB; rw [k6]; rfl
    rw [hq]
    exact may_k6 w e hs hmx hh k6
  by_cases k7 : e.kind = 7
  · have hq : tailB e = (nameB e.per && e.item.isEmpty && (e.val == 0) && nameB e.text) := by unfold tailB; rw [k7]; rfl
    rw [hq]
    exact may_k7 w e hs hmx hh k7
  by_cases k8 : e.kind = 8
  · have hq : tailB e = (nameB e.per && e.item.isEmpty && (e.val == 0) && nameB e.text) := by unfold tailB; rw [k8]; rfl
    rw [hq]
    exact may_k8 w e hs hmx hh k8
  by_cases k9 : e.kind = 9
  · have hq : tailB e = (nameB e.per && e.item.isEmpty && (e.val == 0) && nameB e.text) := by unfold tailB; rw [k9]; rfl
    rw [hq]
    exact may_k9 w e hs hmx hh k9
  by_cases k10 : e.kind = 10
  · have hq : tailB e = (nameB e.per && e.item.isEmpty && (e.val == 0) && nameB e.text) := by unfold tailB; rw [k10]; rfl
    rw [hq]
    exact may_k10 w e hs hmx hh k10
  by_cases k11 : e.kind = 11
  · have hq : tailB e = (e.per.isEmpty && nameB e.item && decide (0 ≤ e.val) && decide (e.val ≤ 1048576) && listingB e.text) := by unfold tailB; rw [k11]; rfl
    rw [hq]
    exact may_k11 w e hs hmx hh k11
  by_cases k12 : e.kind = 12
  · have hq : tailB e = (e.per.isEmpty && nameB e.item && decide (0 ≤ e.val) && decide (e.val ≤ 1048576) && e.text.isEmpty) := by unfold tailB; rw [k12]; rfl
    rw [hq]
    exact may_k12 w e hs hmx hh k12
  by_cases k13 : e.kind = 13
  · have hq : tailB e = (e.per.isEmpty && nameB e.item && (e.val == 0) && e.text.isEmpty) := by unfold tailB; rw [k13]; rfl
    rw [hq]
    exact may_k13 w e hs hmx hh k13
  by_cases k14 : e.kind = 14
  · have hq : tailB e = (nameB e.per && e.item.isEmpty && (e.val == 0) && e.text.isEmpty) := by unfold tailB; rw [k14]; rfl
    rw [hq]
    exact may_forget w e hs hh k14
  have hq : tailB e = false := by unfold tailB; simp [k0, k1, k2, k3, k4, k5, k6, k7, k8, k9, k10, k11, k12, k13, k14]
  rw [hq]
  exact may_kx w e hs hmx hh (fun j hj => by
    rcases (show j = 0 ∨ j = 1 ∨ j = 2 ∨ j = 3 ∨ j = 4 ∨ j = 5 ∨ j = 6 ∨ j = 7 ∨ j = 8 ∨ j = 9 ∨ j = 10 ∨ j = 11 ∨ j = 12 ∨ j = 13 ∨ j = 14 by omega) with rfl | rfl | rfl | rfl | rfl | rfl | rfl | rfl | rfl | rfl | rfl | rfl | rfl | rfl | rfl
    · exact k0
    · exact k1
    · exact k2
    · exact k3
    · exact k4
    · exact k5
    · exact k6
    · exact k7
    · exact k8
    · exact k9
    · exact k10
    · exact k11
    · exact k12
    · exact k13
    · exact k14)
end Go.Proofs.YtbejfgmdkmddnaaGreatDoor
