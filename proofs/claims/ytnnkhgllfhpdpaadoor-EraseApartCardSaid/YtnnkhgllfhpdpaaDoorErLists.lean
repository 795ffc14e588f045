/-
  Layer 31: the law EraseLists, walked.
-/
import Derived.Test.YtnnkhgllfhpdpaaDoorErAwake
namespace Go.Proofs.YtnnkhgllfhpdpaaDoor
open Go.RowKit Go.Maps Go.Sort

theorem long_not {es : List Ev} (h : longB es = false) : es.length ≤ 40 ∧ ∀ e ∈ es, e.small := by
  unfold longB at h
  simp only [Bool.or_eq_false_iff, decide_eq_false_iff_not] at h
  refine ⟨by omega, fun e he => ?_⟩
  have := List.any_eq_false.1 h.1 e he
  have hb : ¬ 400 < e.bulk := fun hc => this (decide_eq_true hc)
  unfold Ev.bulk at hb
  exact ⟨by omega, by omega, by omega, by omega⟩

theorem SievePost.open_ {w w' : World} {es : List Ev} {p : Ev → Bool} {e : Ending} (h : SievePost w es p e w') :
    ∃ A c, e = .returned (.slice A (es.filter p).length c) ∧ Evs w' w'.heap.size A (es.filter p).length c (es.filter p) ∧ Below w.heap.size w w' := by
  obtain ⟨v, rfl, hown, hb⟩ := h
  obtain ⟨A, c, rfl⟩ := ownsRow_form hown
  exact ⟨A, c, rfl, Cel.of_own hown, hb⟩
theorem GonePost.open_ {w w' : World} {ks : List (List UInt8)} {e : Ending} (h : GonePost w ks e w') :
    ∃ r A c, e = .returned (.slice A r.length c) ∧ Rising r ks ∧ Strs w' w'.heap.size A r.length c r ∧ Below w.heap.size w w' := by
  obtain ⟨v, r, rfl, hr, hown, hb⟩ := h
  obtain ⟨A, c, rfl⟩ := ownsRow_form hown
  exact ⟨r, A, c, rfl, hr, Cel.of_own hown, hb⟩
theorem Evs.up {w w' : World} {B n c : Nat} {A : Option Addr} {es : List Ev} (h : Evs w B A n c es) (hb : Below B w w') (hB : B ≤ w.heap.size) : Evs w' w'.heap.size A n c es :=
  Cel.more (Cel.below h hb) (Nat.le_trans hB hb.size)
theorem Strs.up {w w' : World} {B n c : Nat} {A : Option Addr} {ss : List (List UInt8)} (h : Strs w B A n c ss) (hb : Below B w w') (hB : B ≤ w.heap.size) : Strs w' w'.heap.size A n c ss :=
  Cel.more (Cel.below h hb) (Nat.le_trans hB hb.size)

set_option maxRecDepth 100000 in
set_option maxHeartbeats 4000000 in
theorem lists_any (w : World) (A : Option Addr) (n c : Nat) (es : List Ev) (h : Evs w w.heap.size A n c es) (hn : n ≤ 140737488355328) (hfit : ∀ e ∈ es, e.fit) (p : List UInt8) (hp : p.length ≤ 140737488355328) :
    Calls Tryd.prog 4 #[.slice A n c, .string ⟨p.toArray⟩] w (Says true w) := by
  have HH := Lib.hid h; clear h
  have HF := Lib.hid hfit; clear hfit
  have HL := Lib.hid HH.out.len
  go_enter Tryd.func4, Tryd.ntmps4
  go_wp2_with fail
  refine (long_any w A n c es HH.out hn HF.out).mono ?_
  rintro q w1 ⟨rfl, hb1⟩
  cases hlo : longB es
  case true =>
    clear hlo
    go_wp2_with fail
    refine (awake_any w1).mono ?_
    rintro q w2 ⟨rfl, hb2⟩
    go_wp2
    go_ret
    exact ⟨rfl, hb1.trans (hb2.mono hb1.size)⟩
  obtain ⟨h40, hsm⟩ := long_not hlo
  rw [HL.out] at h40
  have HSM := Lib.hid hsm; clear hsm hlo
  by_cases hp60 : 60 < p.length
  · go_wp2_with fail
    refine (awake_any w1).mono ?_
    rintro q w2 ⟨rfl, hb2⟩
    go_wp2
    go_ret
    exact ⟨rfl, hb1.trans (hb2.mono hb1.size)⟩
  have d60 : decide (60 < (p.length : Int)) = false := decide_eq_false (by omega)
  go_wp2_with fail
  refine (rwithout_any w1 p A n c es (HH.out.up hb1 (Nat.le_refl _)) (by omega) (by omega)).mono ?_
  intro q w2 hq
  obtain ⟨A2, c2, rfl, hE2, hb2⟩ := hq.open_
  have HE2 := Lib.hid hE2; clear hE2 hq
  have hbw2 : Below w.heap.size w w2 := hb1.trans (hb2.mono hb1.size)
  go_wp2_with fail
  refine (without_any w2 p A n c es (HH.out.up hbw2 (Nat.le_refl _)) (by omega) (by omega)).mono ?_
  intro q w3 hq
  obtain ⟨A3, c3, rfl, hE3, hb3⟩ := hq.open_
  have HE3 := Lib.hid hE3; clear hE3 hq
  have hbw3 : Below w.heap.size w w3 := hbw2.trans (hb3.mono hbw2.size)
  have hfl : (es.filter (fun e => !ownB p e)).length ≤ n := by have := List.length_filter_le (fun e => !ownB p e) es; rw [HL.out] at this; exact this
  go_wp2_with fail
  refine (same31_any w3 _ _ A3 A2 _ c3 c2 _ HE3.out (HE2.out.up hb3 (Nat.le_refl _)) (by omega)).mono ?_
  rintro q w4 ⟨rfl, k4, rfl⟩
  have hbw4 : Below w.heap.size w (w3.drewN k4) := below_drewN hbw3 k4
  generalize w3.drewN k4 = w4 at *
  go_wp2_with fail
  refine (gone_any w4 A n c es (HH.out.up hbw4 (Nat.le_refl _)) (by omega) HSM.out).mono ?_
  intro q w5 hq
  obtain ⟨r5, A5, c5, rfl, hri5, hS5, hb5⟩ := hq.open_
  have HS5 := Lib.hid hS5; clear hS5 hq
  have hbw5 : Below w.heap.size w w5 := hbw4.trans (hb5.mono hbw4.size)
  go_wp2_with fail
  refine (rgone_any w5 A n c es (HH.out.up hbw5 (Nat.le_refl _)) (by omega) HSM.out).mono ?_
  rintro q w6 ⟨v6, r6, rfl, hri6, ⟨A6, c6, hv6, hS6⟩, hb6⟩
  obtain rfl := rising_unique hri5 hri6
  subst hv6
  have hr6 : r5.length ≤ 1000 := by have := rising_length hri5; have := goneL_length es; rw [HL.out] at this; omega
  have HS6 := Lib.hid hS6; clear hS6 hri5 hri6
  have hbw6 : Below w.heap.size w w6 := hbw5.trans (hb6.mono hbw5.size)
  go_wp2_with fail
  refine (same16_any w6 _ _ A5 A6 _ c5 c6 _ (HS5.out.up hb6 (Nat.le_refl _)) HS6.out (by omega)).mono ?_
  rintro q w7 ⟨rfl, k7, rfl⟩
  have hbw7 : Below w.heap.size w (w6.drewN k7) := below_drewN hbw6 k7
  generalize w6.drewN k7 = w7 at *
  go_wp2_with fail
  refine (clean_any w7 A n c es (HH.out.up hbw7 (Nat.le_refl _)) (by omega) HSM.out).mono ?_
  intro q w8 hq
  obtain ⟨A8, c8, rfl, hE8, hb8⟩ := hq.open_
  have HE8 := Lib.hid hE8; clear hE8 hq
  have hbw8 : Below w.heap.size w w8 := hbw7.trans (hb8.mono hbw7.size)
  go_wp2_with fail
  refine (rclean_any w8 A n c es (HH.out.up hbw8 (Nat.le_refl _)) (by omega) HSM.out).mono ?_
  rintro q w9 ⟨v9, rfl, ⟨A9, c9, hv9, hE9⟩, hb9⟩
  subst hv9
  have HE9 := Lib.hid hE9; clear hE9
  have hbw9 : Below w.heap.size w w9 := hbw8.trans (hb9.mono hbw8.size)
  have hfc : (es.filter (outB (goneL es))).length ≤ n := by have := List.length_filter_le (outB (goneL es)) es; rw [HL.out] at this; exact this
  go_wp2_with fail
  refine (same31_any w9 _ _ A8 A9 _ c8 c9 _ (HE8.out.up hb9 (Nat.le_refl _)) HE9.out (by omega)).mono ?_
  rintro q w10 ⟨rfl, k10, rfl⟩
  have hbw10 : Below w.heap.size w (w9.drewN k10) := below_drewN hbw9 k10
  generalize w9.drewN k10 = w10 at *
  go_wp2_with fail
  refine (traces_any w10 p A n c es (HH.out.up hbw10 (Nat.le_refl _)) (by omega) (by omega)).mono ?_
  rintro q w11 ⟨rfl, hb11⟩
  have hbw11 : Below w.heap.size w w11 := hbw10.trans (hb11.mono hbw10.size)
  rw [HL.out]
  generalize (es.filter (fun e => !ownB p e)).length = m at *
  have t1 : ((((n - m : Nat) : Int)) == (n : Int) - (m : Int)) = true := by simp; omega
  go_wp2_with fail
  refine (awake_any w11).mono ?_
  rintro q w12 ⟨rfl, hb12⟩
  go_wp2
  go_ret
  exact ⟨rfl, hbw11.trans (hb12.mono hbw11.size)⟩
end Go.Proofs.YtnnkhgllfhpdpaaDoor
