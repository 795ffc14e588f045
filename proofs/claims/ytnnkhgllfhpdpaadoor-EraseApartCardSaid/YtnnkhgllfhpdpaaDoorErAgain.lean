/-
  Layer 31: a log that has been cleaned is clean (ciceronelaw31.EraseAgain).
-/
import Derived.Test.YtnnkhgllfhpdpaaDoorErLists
namespace Go.Proofs.YtnnkhgllfhpdpaaDoor
open Go.RowKit Go.Maps Go.Sort

theorem forget_not_own {e : Ev} (p : List UInt8) (h : forgetB e = true) : ownB p e = false := by
  unfold forgetB at h
  simp only [Bool.and_eq_true, beq_iff_eq] at h
  unfold ownB
  simp [h.1.1.1.1.1]
theorem forget_out {e : Ev} (ks : List (List UInt8)) (h : forgetB e = true) : outB ks e = true := by
  unfold outB; rw [forget_not_own e.per h]; simp
theorem goneL_clean (es : List Ev) : goneL (es.filter (outB (goneL es))) = goneL es := by
  unfold goneL
  rw [List.filter_filter]
  congr 1
  refine List.filter_congr fun e _ => ?_
  cases h : forgetB e
  · rfl
  · rw [forget_out _ h]; rfl
theorem clean_clean (es : List Ev) : (es.filter (outB (goneL es))).filter (outB (goneL (es.filter (outB (goneL es))))) = es.filter (outB (goneL es)) := by
  rw [goneL_clean, List.filter_filter]
  exact List.filter_congr fun e _ => Bool.and_self _
theorem own_per {p : List UInt8} {e : Ev} (h : ownB p e = true) : e.per = p := by
  unfold ownB at h
  simp only [Bool.and_eq_true, beq_iff_eq] at h
  exact h.1.2
theorem filter_not_length (es : List Ev) (q : Ev → Bool) : es.length - (es.filter (fun e => !q e)).length = (es.filter q).length := by
  induction es with
  | nil => rfl
  | cons x r ih =>
    have h1 := List.length_filter_le (fun e => !q e) r
    cases h : q x
    · rw [List.filter_cons_of_pos (by simp [h]), List.filter_cons_of_neg (by simp [h]), List.length_cons, List.length_cons]; omega
    · rw [List.filter_cons_of_neg (by simp [h]), List.filter_cons_of_pos (by simp [h]), List.length_cons, List.length_cons]; omega
theorem traces_none (es : List Ev) {p : List UInt8} (h : p ∈ goneL es) :
    (es.filter (outB (goneL es))).length - ((es.filter (outB (goneL es))).filter (fun e => !ownB p e)).length = 0 := by
  rw [filter_not_length, List.length_eq_zero_iff, List.filter_eq_nil_iff]
  intro e he ho
  have := (List.mem_filter.1 he).2
  have hp := own_per ho
  subst hp
  unfold outB at this
  rw [decide_eq_true h, ho] at this
  cases this
theorem traces_keep (es : List Ev) {p : List UInt8} (h : p ∉ goneL es) :
    (es.filter (outB (goneL es))).length - ((es.filter (outB (goneL es))).filter (fun e => !ownB p e)).length = es.length - (es.filter (fun e => !ownB p e)).length := by
  rw [filter_not_length, filter_not_length, List.filter_filter]
  congr 1
  refine List.filter_congr fun e _ => ?_
  cases ho : ownB p e
  · rfl
  · have hp := own_per ho
    subst hp
    unfold outB
    rw [decide_eq_false h]; rfl

set_option maxRecDepth 100000 in
set_option maxHeartbeats 4000000 in
theorem again_any (w : World) (A : Option Addr) (n c : Nat) (es : List Ev) (h : Evs w w.heap.size A n c es) (hn : n ≤ 140737488355328) (hfit : ∀ e ∈ es, e.fit) (p : List UInt8) (hp : p.length ≤ 140737488355328) :
    Calls Tryd.prog 5 #[.slice A n c, .string ⟨p.toArray⟩] w (Says true w) := by
  have HH := Lib.hid h; clear h
  have HF := Lib.hid hfit; clear hfit
  have HL := Lib.hid HH.out.len
  go_enter Tryd.func5, Tryd.ntmps5
  go_wp2_with fail
  refine (long_any w A n c es HH.out hn HF.out).mono ?_
  rintro q w1 ⟨rfl, hb1⟩
  cases hlo : longB es
  case true =>
    clear hlo
    go_wp2_with fail
    refine (awake_any w1).mono ?_
    rintro q w2 ⟨rfl, hb2⟩
    go_wp2
    go_ret
    exact ⟨rfl, hb1.trans (hb2.mono hb1.size)⟩
  obtain ⟨h40, hsm⟩ := long_not hlo
  rw [HL.out] at h40
  have HSM := Lib.hid hsm; clear hsm hlo
  by_cases hp60 : 60 < p.length
  · go_wp2_with fail
    refine (awake_any w1).mono ?_
    rintro q w2 ⟨rfl, hb2⟩
    go_wp2
    go_ret
    exact ⟨rfl, hb1.trans (hb2.mono hb1.size)⟩
  have d60 : decide (60 < (p.length : Int)) = false := decide_eq_false (by omega)
  have HCS := Lib.hid (show ∀ e ∈ es.filter (outB (goneL es)), e.small from fun e he => HSM.out e (List.mem_filter.1 he).1)
  have hfc : (es.filter (outB (goneL es))).length ≤ n := by have := List.length_filter_le (outB (goneL es)) es; rw [HL.out] at this; exact this
  have HCC := Lib.hid (clean_clean es)
  have HGC := Lib.hid (goneL_clean es)
  have HTN := Lib.hid (fun p => traces_none es (p := p))
  have HTK := Lib.hid (traces_keep es (p := p))
  go_wp2_with fail
  refine (clean_any w1 A n c es (HH.out.up hb1 (Nat.le_refl _)) (by omega) HSM.out).mono ?_
  intro q w2 hq
  obtain ⟨A2, c2, rfl, hE2, hb2⟩ := hq.open_
  have HE2 := Lib.hid hE2; clear hE2 hq
  have hbw2 : Below w.heap.size w w2 := hb1.trans (hb2.mono hb1.size)
  generalize es.filter (outB (goneL es)) = cl at *
  go_wp2_with fail
  refine (clean_any w2 A2 _ c2 cl HE2.out (by omega) HCS.out).mono ?_
  intro q w3 hq
  obtain ⟨A3, c3, rfl, hE3, hb3⟩ := hq.open_
  rw [HCC.out] at hE3
  rw [HCC.out]
  have HE3 := Lib.hid hE3; clear hE3 hq
  have hbw3 : Below w.heap.size w w3 := hbw2.trans (hb3.mono hbw2.size)
  go_wp2_with fail
  refine (same31_any w3 _ _ A3 A2 _ c3 c2 _ HE3.out (HE2.out.up hb3 (Nat.le_refl _)) (by omega)).mono ?_
  rintro q w4 ⟨rfl, k4, rfl⟩
  have hbw4 : Below w.heap.size w (w3.drewN k4) := below_drewN hbw3 k4
  have hb24 : Below w2.heap.size w2 (w3.drewN k4) := below_drewN hb3 k4
  generalize w3.drewN k4 = w4 at *
  go_wp2_with fail
  refine (gone_any w4 A2 _ c2 cl (HE2.out.up hb24 (Nat.le_refl _)) (by omega) HCS.out).mono ?_
  intro q w5 hq
  rw [HGC.out] at hq
  obtain ⟨r5, A5, c5, rfl, hri5, hS5, hb5⟩ := hq.open_
  have HS5 := Lib.hid hS5; clear hS5 hq
  have hbw5 : Below w.heap.size w w5 := hbw4.trans (hb5.mono hbw4.size)
  have hb25 : Below w2.heap.size w2 w5 := hb24.trans (hb5.mono hb24.size)
  go_wp2_with fail
  refine (gone_any w5 A n c es (HH.out.up hbw5 (Nat.le_refl _)) (by omega) HSM.out).mono ?_
  intro q w6 hq
  obtain ⟨r6, A6, c6, rfl, hri6, hS6, hb6⟩ := hq.open_
  obtain rfl := rising_unique hri5 hri6
  have hr6 : r5.length ≤ 1000 := by have := rising_length hri5; have := goneL_length es; rw [HL.out] at this; omega
  have HS6 := Lib.hid hS6; clear hS6 hri6 hq
  have hbw6 : Below w.heap.size w w6 := hbw5.trans (hb6.mono hbw5.size)
  have hb26 : Below w2.heap.size w2 w6 := hb25.trans (hb6.mono hb25.size)
  go_wp2_with fail
  refine (same16_any w6 _ _ A5 A6 _ c5 c6 _ (HS5.out.up hb6 (Nat.le_refl _)) HS6.out (by omega)).mono ?_
  rintro q w7 ⟨rfl, k7, rfl⟩
  have hbw7 : Below w.heap.size w (w6.drewN k7) := below_drewN hbw6 k7
  have hb27 : Below w2.heap.size w2 (w6.drewN k7) := below_drewN hb26 k7
  generalize w6.drewN k7 = w7 at *
  clear hri5 HS5 HS6
  go_wp2_with fail
  refine (gone_any w7 A n c es (HH.out.up hbw7 (Nat.le_refl _)) (by omega) HSM.out).mono ?_
  intro q w8 hq
  obtain ⟨r, Ar, cr, rfl, hri, hS, hb8⟩ := hq.open_
  have hr : r.length ≤ 1000 := by have := rising_length hri; have := goneL_length es; rw [HL.out] at this; omega
  have HRI := Lib.hid hri; have HST := Lib.hid hS; clear hri hS hq
  have HSMR := Lib.hid (rising_small HRI.out HSM.out)
  have hbw8 : Below w.heap.size w w8 := hbw7.trans (hb8.mono hbw7.size)
  have hb28 : Below w2.heap.size w2 w8 := hb27.trans (hb8.mono hb27.size)
  go_wp2
  go_loopw [6, 35] (fun l i wr => ∃ k : Nat, i = .int .i64 k ∧ k ≤ r.length ∧ l = .bool (decide (p ∈ r.take k)) ∧ Below w8.heap.size w8 wr) (fun _ i _ => r.length - (intOf i).toNat)
  case atStart => exact ⟨0, rfl, Nat.zero_le _, by simp, Below.refl _ _⟩
  case round =>
    obtain ⟨k, rfl, hk, rfl, hbr⟩ := hrel
    have hb2r : Below w2.heap.size w2 wr := hb28.trans (hbr.mono hb28.size)
    have hbwr : Below w.heap.size w wr := hbw8.trans (hbr.mono hbw8.size)
    by_cases hkn : k < r.length
    · obtain ⟨b, off, rfl, hb, hc⟩ := HST.out.at_ k hkn
      have hc' : wr.cell? ⟨b, off + k, none⟩ = some (.string ⟨r[k].toArray⟩) := (hbr.cell (p := ⟨b, off + k, none⟩) hb).trans hc
      have HTA := Lib.hid (show r.take (k + 1) = r.take k ++ [r[k]] by rw [List.take_add_one, List.getElem?_eq_getElem hkn]; rfl)
      have hps := HSMR.out r[k] (List.getElem_mem hkn)
      have hz : cl.length - (cl.filter (fun e => !ownB r[k] e)).length = 0 := HTN.out r[k] ((HRI.out.2 _).1 (List.getElem_mem hkn))
      have HZ := Lib.hid hz; clear hz hc
      generalize r[k] = s at *
      have t1 : (k : Int) < r.length := by omega
      have HD := Lib.hid (show decide (p ∈ r.take (k + 1)) = (decide (p ∈ r.take k) || (s == p)) by
        rw [HTA.out, Bool.eq_iff_iff]
        simp only [decide_eq_true_eq, List.mem_append, List.mem_singleton, Bool.or_eq_true, beq_iff_eq]
        exact ⟨fun h => h.elim Or.inl (fun h => Or.inr h.symm), fun h => h.elim Or.inl (fun h => Or.inr h.symm)⟩)
      generalize decide (p ∈ r.take k) = l at *
      cases l
      · go_wp2_with fail
        refine (traces_any wr s A2 _ c2 cl (HE2.out.up hb2r (Nat.le_refl _)) (by omega) (by omega)).mono ?_
        rintro q wt ⟨rfl, hbt⟩
        rw [HZ.out]
        clear hc'
        go_wp2
        go_roundw
        case rel => exact ⟨k + 1, by go_num, by omega, by rw [HD.out]; rfl, hbr.trans (hbt.mono hbr.size)⟩
        case measure => simp [intOf]; omega
      · go_wp2_with fail
        refine (traces_any wr s A2 _ c2 cl (HE2.out.up hb2r (Nat.le_refl _)) (by omega) (by omega)).mono ?_
        rintro q wt ⟨rfl, hbt⟩
        rw [HZ.out]
        clear hc'
        go_wp2
        go_roundw
        case rel => exact ⟨k + 1, by go_num, by omega, by rw [HD.out]; rfl, hbr.trans (hbt.mono hbr.size)⟩
        case measure => simp [intOf]; omega
    · have hkk : r.take k = r := List.take_of_length_le (by omega)
      rw [hkk]
      by_cases hpr : p ∈ r
      · have hd : decide (p ∈ r) = true := decide_eq_true hpr
        rw [hd]
        clear hpr hkk hd
        go_wp2_with fail
        refine (awake_any wr).mono ?_
        rintro q wt ⟨rfl, hbt⟩
        go_wp2
        go_ret
        exact ⟨rfl, hbwr.trans (hbt.mono hbwr.size)⟩
      · have hd : decide (p ∈ r) = false := decide_eq_false hpr
        rw [hd]
        have HT := Lib.hid (HTK.out (fun hc => hpr ((HRI.out.2 p).2 hc)))
        clear hpr hkk hd
        go_wp2_with fail
        refine (traces_any wr p A2 _ c2 cl (HE2.out.up hb2r (Nat.le_refl _)) (by omega) (by omega)).mono ?_
        rintro q wt ⟨rfl, hbt⟩
        rw [HT.out]
        have hbwt : Below w.heap.size w wt := hbwr.trans (hbt.mono hbwr.size)
        go_wp2_with fail
        refine (traces_any wt p A n c es (HH.out.up hbwt (Nat.le_refl _)) (by omega) (by omega)).mono ?_
        rintro q wu ⟨rfl, hbu⟩
        have hbwu : Below w.heap.size w wu := hbwt.trans (hbu.mono hbwt.size)
        generalize es.length - (es.filter (fun e => !ownB p e)).length = m at *
        go_wp2_with fail
        refine (awake_any wu).mono ?_
        rintro q wv ⟨rfl, hbv⟩
        go_wp2
        go_ret
        exact ⟨rfl, hbwu.trans (hbv.mono hbwu.size)⟩
end Go.Proofs.YtnnkhgllfhpdpaaDoor
