/-
  Layer 30, plain: what is well read from bytes is read alike if more bytes stand behind; two texts are alike only if all that they tell is.
  Layer 30: Load, of a snapshot, and of bytes that are none.
-/
import Derived.Test.YtbejfgmdkmddnaaGreatDoorSSnPlain
import Derived.Test.YtbejfgmdkmddnaaGreatDoorSSnRd3
import Derived.Test.YtbejfgmdkmddnaaGreatDoorSSnSv
import Derived.Test.YtbejfgmdkmddnaaGreatDoorSFrmAll
import Derived.Test.YtbejfgmdkmddnaaGreatDoorSFrmLaw
namespace Go.Proofs.YtbejfgmdkmddnaaGreatDoor
open Go.RowKit

theorem numD_app (R : List UInt8) : ∀ (f i acc : Nat) (l : List UInt8) (n : Nat) (r : List UInt8), numD f i acc l = .ok n r → numD f i acc (l ++ R) = .ok n (r ++ R)
  | 0, _, _, _, _, _, h => by simp [numD] at h
  | f + 1, _, _, [], _, _, h => by simp [numD] at h
  | f + 1, i, acc, c :: l, n, r, h => by
    simp only [numD, List.cons_append] at h ⊢
    split at h
    · cases h
    rename_i h1
    rw [if_neg h1]
    split at h
    · rename_i h2
      rw [if_pos h2]
      injection h with h3 h4
      rw [h3, h4]
    · rename_i h2
      rw [if_neg h2]
      exact numD_app R f _ _ l n r h
theorem oneS_app (R : List UInt8) {l r : List UInt8} (h : oneS (.ok l) = .ok r) : oneS (.ok (l ++ R)) = .ok (r ++ R) ∧ oneV (.ok (l ++ R)) = oneV (.ok l) := by
  cases l with
  | nil => cases h
  | cons c t => injection h with h; subst h; exact ⟨rfl, rfl⟩
theorem txtS_app (R : List UInt8) {l r : List UInt8} (h : txtS (.ok l) = .ok r) : txtS (.ok (l ++ R)) = .ok (r ++ R) ∧ txtV (.ok (l ++ R)) = txtV (.ok l) := by
  cases l with
  | nil => cases h
  | cons c t =>
    simp only [txtS, txtV, List.cons_append] at h ⊢
    split at h
    · cases h
    · rename_i h1
      injection h with h; subst h
      rw [if_neg (by rw [List.length_append]; omega), if_neg (by rw [List.length_append]; omega), if_neg h1]
      exact ⟨by rw [List.drop_append_of_le_length (by omega)], by rw [List.take_append_of_le_length (by omega)]⟩
theorem numS_app (R : List UInt8) {l r : List UInt8} (h : numS (.ok l) = .ok r) : numS (.ok (l ++ R)) = .ok (r ++ R) ∧ numV (.ok (l ++ R)) = numV (.ok l) := by
  unfold numS numV at *
  simp only at h ⊢
  split at h
  · rename_i v t h1
    injection h with h; subst h
    have h2 : numR (l ++ R) = .ok v (t ++ R) := numD_app R _ _ _ _ _ _ h1
    rw [h1, h2]; exact ⟨rfl, rfl⟩
  · cases h
  · cases h
theorem decE_app (R : List UInt8) {l r : List UInt8} {e : Ev} (h : decE l = .ok e r) : decE (l ++ R) = .ok e (r ++ R) := by
  unfold decE at h
  split at h
  · rename_i r' h8
    have H8 := h8
    obtain ⟨l7, g7, _⟩ := txtS_len h8
    obtain ⟨l6, g6, _⟩ := numS_len g7
    obtain ⟨l5, g5, _⟩ := txtS_len g6
    obtain ⟨l4, g4, _⟩ := txtS_len g5
    obtain ⟨l3, g3, _⟩ := numS_len g4
    obtain ⟨l2, g2, _⟩ := numS_len g3
    obtain ⟨l1, g1, _⟩ := txtS_len g2
    change st1 l = .ok l1 at g1
    change st2 l = .ok l2 at g2
    change st3 l = .ok l3 at g3
    change st4 l = .ok l4 at g4
    change st5 l = .ok l5 at g5
    change st6 l = .ok l6 at g6
    change st7 l = .ok l7 at g7
    have a1 := oneS_app R (show oneS (.ok l) = .ok l1 from g1)
    have a2 := txtS_app R (show txtS (.ok l1) = .ok l2 by rw [← g1]; exact g2)
    have a3 := numS_app R (show numS (.ok l2) = .ok l3 by rw [← g2]; exact g3)
    have a4 := numS_app R (show numS (.ok l3) = .ok l4 by rw [← g3]; exact g4)
    have a5 := txtS_app R (show txtS (.ok l4) = .ok l5 by rw [← g4]; exact g5)
    have a6 := txtS_app R (show txtS (.ok l5) = .ok l6 by rw [← g5]; exact g6)
    have a7 := numS_app R (show numS (.ok l6) = .ok l7 by rw [← g6]; exact g7)
    have a8 := txtS_app R (show txtS (.ok l7) = .ok r' by rw [← g7]; exact h8)
    have k1 : st1 (l ++ R) = .ok (l1 ++ R) := a1.1
    have k2 : st2 (l ++ R) = .ok (l2 ++ R) := by unfold st2; rw [k1]; exact a2.1
    have k3 : st3 (l ++ R) = .ok (l3 ++ R) := by unfold st3; rw [k2]; exact a3.1
    have k4 : st4 (l ++ R) = .ok (l4 ++ R) := by unfold st4; rw [k3]; exact a4.1
    have k5 : st5 (l ++ R) = .ok (l5 ++ R) := by unfold st5; rw [k4]; exact a5.1
    have k6 : st6 (l ++ R) = .ok (l6 ++ R) := by unfold st6; rw [k5]; exact a6.1
    have k7 : st7 (l ++ R) = .ok (l7 ++ R) := by unfold st7; rw [k6]; exact a7.1
    have k8 : st8 (l ++ R) = .ok (r' ++ R) := by unfold st8; rw [k7]; exact a8.1
    have he : evD (l ++ R) = evD l := by
      unfold evD
      rw [k1, k2, k3, k4, k5, k6, k7, g1, g2, g3, g4, g5, g6, g7, a1.2, a2.2, a3.2, a4.2, a5.2, a6.2, a7.2, a8.2]
    split at h
    · rename_i hm
      injection h with h1 h2
      subst h1 h2
      unfold decE
      rw [k8, he]
      simp [hm]
    · cases h
  · cases h
  · cases h
theorem Sn.eta {s : Sn} (h : s.ok = true) : s = ⟨s.b, true⟩ := by
  cases s; simp only at h; rw [h]
theorem snD_ok (l : List UInt8) : (snD l).ok = ((sn9 l).2.ok && (sn9 l).2.b.isEmpty) := by simp only [snD]
theorem til_app (R b : List UInt8) (ok : Bool) (h : (tilS ⟨b, ok⟩).ok = true) : ok = true ∧ tilS ⟨b ++ R, ok⟩ = ⟨(tilS ⟨b, ok⟩).b ++ R, true⟩ ∧ tilV ⟨b ++ R, ok⟩ = tilV ⟨b, ok⟩ := by
  rcases cut_cases 10 b with h1 | ⟨x, y, rfl, h1⟩
  · unfold tilS at h; rw [cut_miss 10 b h1] at h; simp at h
  · obtain ⟨t1, t2⟩ := til_hit x y ok h1
    obtain ⟨u1, u2⟩ := til_hit x (y ++ R) ok h1
    rw [t1] at h
    simp only at h
    rw [show x ++ 10 :: y ++ R = x ++ 10 :: (y ++ R) by simp, u1, u2, t1, t2, h]
    exact ⟨rfl, rfl, rfl⟩
theorem lin_app (w R b : List UInt8) (ok : Bool) (h : (linS w ⟨b, ok⟩).ok = true) : ok = true ∧ linS w ⟨b ++ R, ok⟩ = ⟨(linS w ⟨b, ok⟩).b ++ R, true⟩ ∧ linV w ⟨b ++ R, ok⟩ = linV w ⟨b, ok⟩ := by
  unfold linS at h
  split at h
  · rename_i h1
    obtain ⟨a1, a2, a3⟩ := til_app R b ok h
    unfold linS linV
    rw [a3, if_pos h1, if_pos h1, a2]
    exact ⟨a1, rfl, rfl⟩
  · cases h
theorem som_app (w R b : List UInt8) (ok : Bool) (h : (somS w ⟨b, ok⟩).ok = true) : ok = true ∧ somS w ⟨b ++ R, ok⟩ = ⟨(somS w ⟨b, ok⟩).b ++ R, true⟩ ∧ somV w ⟨b ++ R, ok⟩ = somV w ⟨b, ok⟩ := by
  unfold somS at h
  split at h
  · cases h
  · rename_i h1
    obtain ⟨a1, a2, a3⟩ := lin_app w R b ok h
    have h2 : ¬ (((linS w ⟨b, ok⟩).b ++ R).length : Int) < linV w ⟨b, ok⟩ := by rw [List.length_append]; omega
    unfold somS somV
    rw [a2, a3, if_neg h2, if_neg h2, if_neg h1, if_neg h1, List.drop_append_of_le_length (by omega), List.take_append_of_le_length (by omega)]
    exact ⟨a1, rfl, rfl⟩
theorem evsR_app (R : List UInt8) : ∀ (n : Nat) (b : List UInt8) (ok : Bool) (l : List Ev), (evsR n ⟨b, ok⟩ l).2.ok = true → ok = true ∧ evsR n ⟨b ++ R, ok⟩ l = ((evsR n ⟨b, ok⟩ l).1, ⟨(evsR n ⟨b, ok⟩ l).2.b ++ R, true⟩)
  | 0, b, ok, l, h => by simp only [evsR] at h ⊢; rw [h]; exact ⟨rfl, rfl⟩
  | n + 1, b, ok, l, h => by
    simp only [evsR] at h ⊢
    cases hd : decE b with
    | ok e r =>
      rw [hd] at h
      rw [decE_app R hd]
      exact evsR_app R n r ok _ h
    | torn => rw [hd] at h; cases h
    | form => rw [hd] at h; cases h
theorem ev_app (w R b : List UInt8) (ok : Bool) (h : (evS w ⟨b, ok⟩).ok = true) : ok = true ∧ evS w ⟨b ++ R, ok⟩ = ⟨(evS w ⟨b, ok⟩).b ++ R, true⟩ ∧ evV w ⟨b ++ R, ok⟩ = evV w ⟨b, ok⟩ := by
  unfold evS at h
  obtain ⟨a1, a2⟩ := evsR_app R _ (linS w ⟨b, ok⟩).b (linS w ⟨b, ok⟩).ok [] h
  obtain ⟨b1, b2, b3⟩ := lin_app w R b ok a1
  rw [a1] at a2
  have e := Sn.eta a1
  unfold evS evV
  rw [b2, b3, a2, ← e]
  exact ⟨b1, rfl, rfl⟩
theorem gonR_ok : ∀ (n : Nat) (s : Sn) (l : List (List UInt8)), (gonR n s l).2.ok = true → s.ok = true
  | 0, s, l, h => h
  | n + 1, s, l, h => by
    simp only [gonR] at h
    split at h
    · rename_i h1; exact h1
    · exact h
theorem gonR_app (R : List UInt8) : ∀ (n : Nat) (b : List UInt8) (l : List (List UInt8)), (gonR n ⟨b, true⟩ l).2.ok = true → gonR n ⟨b ++ R, true⟩ l = ((gonR n ⟨b, true⟩ l).1, ⟨(gonR n ⟨b, true⟩ l).2.b ++ R, true⟩)
  | 0, b, l, h => rfl
  | n + 1, b, l, h => by
    simp only [gonR, if_true] at h ⊢
    have h1 := gonR_ok _ _ _ h
    obtain ⟨_, a2, a3⟩ := til_app R b true h1
    have e := Sn.eta h1
    rw [a2, a3]
    rw [e] at h ⊢
    exact gonR_app R n _ _ h
theorem lin_appS (w R : List UInt8) (s : Sn) (h : (linS w s).ok = true) : s.ok = true ∧ linS w ⟨s.b ++ R, true⟩ = ⟨(linS w s).b ++ R, true⟩ ∧ linV w ⟨s.b ++ R, true⟩ = linV w s := by
  cases s with
  | mk b ok => obtain ⟨rfl, h2, h3⟩ := lin_app w R b ok h; exact ⟨rfl, h2, h3⟩
theorem som_appS (w R : List UInt8) (s : Sn) (h : (somS w s).ok = true) : s.ok = true ∧ somS w ⟨s.b ++ R, true⟩ = ⟨(somS w s).b ++ R, true⟩ := by
  cases s with
  | mk b ok => obtain ⟨rfl, h2, h3⟩ := som_app w R b ok h; exact ⟨rfl, h2⟩
theorem ev_appS (w R : List UInt8) (s : Sn) (h : (evS w s).ok = true) : s.ok = true ∧ evS w ⟨s.b ++ R, true⟩ = ⟨(evS w s).b ++ R, true⟩ := by
  cases s with
  | mk b ok => obtain ⟨rfl, h2, h3⟩ := ev_app w R b ok h; exact ⟨rfl, h2⟩
theorem gon_appS (R : List UInt8) (n : Nat) (s : Sn) (h : (gonR n s []).2.ok = true) : s.ok = true ∧ (gonR n ⟨s.b ++ R, true⟩ []).2 = ⟨(gonR n s []).2.b ++ R, true⟩ := by
  have h1 := gonR_ok n s [] h
  cases s with
  | mk b ok =>
    simp only at h1
    subst h1
    exact ⟨rfl, by rw [gonR_app R n b [] h]⟩
theorem snD_app0 (l R : List UInt8) (s1 s2 s3 s4 s5 s6 s7 s8 s9 t1 t2 t3 t4 t5 t6 t7 t8 t9 : Sn)
    (e1 : s1 = linS wSnap ⟨l, true⟩) (e2 : s2 = linS wSlack s1) (e3 : s3 = linS wIdle s2) (e4 : s4 = somS wClock s3) (e5 : s5 = somS wHad s4) (e6 : s6 = evS wTaken s5) (e7 : s7 = evS wLate s6) (e8 : s8 = linS wGone s7) (e9 : s9 = (gonR (linV wGone s7).toNat s8 []).2)
    (f1 : t1 = linS wSnap ⟨l ++ R, true⟩) (f2 : t2 = linS wSlack t1) (f3 : t3 = linS wIdle t2) (f4 : t4 = somS wClock t3) (f5 : t5 = somS wHad t4) (f6 : t6 = evS wTaken t5) (f7 : t7 = evS wLate t6) (f8 : t8 = linS wGone t7) (f9 : t9 = (gonR (linV wGone t7).toNat t8 []).2)
    (h : s9.ok = true) : t9 = ⟨s9.b ++ R, true⟩ := by
  rw [e9] at h
  obtain ⟨a8, g9⟩ := gon_appS R _ s8 h
  rw [e8] at a8
  obtain ⟨a7, g8, v8⟩ := lin_appS wGone R s7 a8
  rw [e7] at a7
  obtain ⟨a6, g7⟩ := ev_appS wLate R s6 a7
  rw [e6] at a6
  obtain ⟨a5, g6⟩ := ev_appS wTaken R s5 a6
  rw [e5] at a5
  obtain ⟨a4, g5⟩ := som_appS wHad R s4 a5
  rw [e4] at a4
  obtain ⟨a3, g4⟩ := som_appS wClock R s3 a4
  rw [e3] at a3
  obtain ⟨a2, g3, _⟩ := lin_appS wIdle R s2 a3
  rw [e2] at a2
  obtain ⟨a1, g2, _⟩ := lin_appS wSlack R s1 a2
  rw [e1] at a1
  obtain ⟨_, g1, _⟩ := lin_appS wSnap R ⟨l, true⟩ a1
  have k1 : t1 = ⟨s1.b ++ R, true⟩ := by rw [f1, g1, e1]
  have k2 : t2 = ⟨s2.b ++ R, true⟩ := by rw [f2, k1, g2, e2]
  have k3 : t3 = ⟨s3.b ++ R, true⟩ := by rw [f3, k2, g3, e3]
  have k4 : t4 = ⟨s4.b ++ R, true⟩ := by rw [f4, k3, g4, e4]
  have k5 : t5 = ⟨s5.b ++ R, true⟩ := by rw [f5, k4, g5, e5]
  have k6 : t6 = ⟨s6.b ++ R, true⟩ := by rw [f6, k5, g6, e6]
  have k7 : t7 = ⟨s7.b ++ R, true⟩ := by rw [f7, k6, g7, e7]
  have k8 : t8 = ⟨s8.b ++ R, true⟩ := by rw [f8, k7, g8, e8]
  rw [f9, k8, k7, v8, g9, e9]
/-- what is a whole text is none any more if bytes stand behind -/
theorem snD_app {l : List UInt8} (h : (snD l).ok = true) (R : List UInt8) : (snD (l ++ R)).ok = R.isEmpty := by
  rw [snD_ok] at h ⊢
  simp only [Bool.and_eq_true, List.isEmpty_iff] at h
  have k := snD_app0 l R (sn1 l) (sn2 l) (sn3 l) (sn4 l) (sn5 l) (sn6 l) (sn7 l) (sn8 l) (sn9 l).2 (sn1 (l ++ R)) (sn2 (l ++ R)) (sn3 (l ++ R)) (sn4 (l ++ R)) (sn5 (l ++ R)) (sn6 (l ++ R)) (sn7 (l ++ R)) (sn8 (l ++ R)) (sn9 (l ++ R)).2
    (by unfold sn1; rfl) (by unfold sn2; rfl) (by unfold sn3; rfl) (by unfold sn4; rfl) (by unfold sn5; rfl) (by unfold sn6; rfl) (by unfold sn7; rfl) (by unfold sn8; rfl) (by unfold sn9; rfl)
    (by unfold sn1; rfl) (by unfold sn2; rfl) (by unfold sn3; rfl) (by unfold sn4; rfl) (by unfold sn5; rfl) (by unfold sn6; rfl) (by unfold sn7; rfl) (by unfold sn8; rfl) (by unfold sn9; rfl) h.1
  rw [k, h.2]; rfl
/-- texts that are alike tell the same -/
theorem snT_inj {n a b n' a' b' : Int} {lc lh lc' lh' : List UInt8} {ts ls ts' ls' : List Ev} {gs gs' : List (List UInt8)} (h : SnFit n a b lc lh ts ls gs) (h' : SnFit n' a' b' lc' lh' ts' ls' gs') (he : snT n a b lc lh ts ls gs = snT n' a' b' lc' lh' ts' ls' gs') :
    n = n' ∧ a = a' ∧ b = b' ∧ lc = lc' ∧ lh = lh' ∧ ts = ts' ∧ ls = ls' ∧ gs = gs' := by
  have h1 := snD_snT h []
  have h2 := snD_snT h' []
  rw [List.append_nil] at h1 h2
  rw [he, h2] at h1
  injection h1 with g1 g2 g3 g4 g5 g6 g7 g8
  exact ⟨g1.symm, g2.symm, g3.symm, g4.symm, g5.symm, g6.symm, g7.symm, g8.symm⟩
end Go.Proofs.YtbejfgmdkmddnaaGreatDoor
namespace Go.Proofs.YtbejfgmdkmddnaaGreatDoor
open Go.RowKit Go.Maps Go.Sort Go.Shelf

theorem lt_of_notL {a b : List UInt8} (h : ¬ a < b) (h2 : a ≠ b) : b < a := by
  have : b ≤ a := List.not_lt.1 h
  rcases List.le_iff_lt_or_eq.1 this with h3 | h3
  · exact h3
  · exact absurd h3.symm h2
theorem rising_ex : ∀ g : List (List UInt8), ∃ r, Rising r g
  | [] => ⟨[], List.Pairwise.nil, fun x => by simp⟩
  | a :: g => by
    obtain ⟨r, h1, h2⟩ := rising_ex g
    by_cases ha : a ∈ r
    · refine ⟨r, h1, fun x => ?_⟩
      rw [h2 x, List.mem_cons]
      exact ⟨.inr, fun h => h.elim (fun e => by rw [e]; exact (h2 a).1 ha) id⟩
    · refine ⟨r.filter (fun x => decide (x < a)) ++ a :: r.filter (fun x => decide (a < x)), ?_, fun x => ?_⟩
      · refine List.pairwise_append.2 ⟨h1.filter _, List.pairwise_cons.2 ⟨fun y hy => by simpa using (List.mem_filter.1 hy).2, h1.filter _⟩, fun x hx y hy => ?_⟩
        have h3 : x < a := by simpa using (List.mem_filter.1 hx).2
        rcases List.mem_cons.1 hy with rfl | hy
        · exact h3
        · exact List.lt_trans h3 (by simpa using (List.mem_filter.1 hy).2)
      · rw [List.mem_append, List.mem_cons, List.mem_filter, List.mem_filter, List.mem_cons]
        constructor
        · rintro (⟨h, _⟩ | h | ⟨h, _⟩)
          · exact .inr ((h2 x).1 h)
          · exact .inl h
          · exact .inr ((h2 x).1 h)
        · rintro (h | h)
          · exact .inr (.inl h)
          · have hx := (h2 x).2 h
            by_cases hlt : x < a
            · exact .inl ⟨hx, by simpa using hlt⟩
            · exact .inr (.inr ⟨hx, by simpa using lt_of_notL hlt (fun e => ha (e ▸ hx))⟩)
theorem goneR_rise (x : Itk) : Rising (goneR x) x.gone := by
  obtain ⟨r, hr⟩ := rising_ex x.gone
  rw [← goneR_of hr]; exact hr
theorem PtGood.snFit {N : Nat} {x : Itk} (h : PtGood N x) (hN : N ≤ 600) {n : Int} (h0 : 0 ≤ n) (h1 : n ≤ 1048576) : SnFit n x.clk.slack x.clk.idle (encC x.clk) (encH x.had) x.taken x.late (goneR x) := by
  have k1 := h.clk.slack; have k2 := h.clk.idle
  have k3 := h.encC_len; have k4 := h.had_len hN; have k5 := h.ok.taken; have k6 := h.ok.late; have k7 := h.gone
  have k8 := rising_lenO (goneR_rise x)
  exact ⟨h0, by omega, by omega, by omega, by omega, by omega, by omega, by omega, by omega, by omega, by omega, fun e he => h.ok.may e (.inl he), fun e he => h.ok.may e (.inr he), fun g hg h10 => by
    have hn := h.pt.name g (((goneR_rise x).2 g).1 hg)
    unfold nameB at hn
    simp only [Bool.and_eq_true] at hn
    exact (nameC_no (List.all_eq_true.1 hn.2 10 h10)).1 rfl⟩
theorem fresh_byt {B : Nat} {w : World} {v : Value} {l : List UInt8} (h : Lib.FreshBytes B w v l) : ∃ g c, v = .slice (some ⟨g, 0, none⟩) l.length c ∧ Byt w w.heap.size (some ⟨g, 0, none⟩) l.length c l := by
  obtain ⟨g, cap, zs, rfl, _, h2, h3, h4, h5, h6, h7, _⟩ := h
  refine ⟨g, cap, rfl, ⟨rfl, h2, h3, fun h0 => ⟨g, 0, rfl, World.block_lt_of_cell? _ _ (h7 0 (by omega)), fun i hi => ?_⟩⟩⟩
  rw [Nat.zero_add, h7 i (by omega)]
  have h8 : (Lib.bytesOf (zs.take l.length))[i]? = some l[i] := by rw [h6]; exact List.getElem?_eq_getElem hi
  unfold Lib.bytesOf at h8
  rw [List.getElem?_map, List.getElem?_take, if_pos hi] at h8
  have hz : i < zs.length := by omega
  rw [List.getElem?_eq_getElem hz] at h8
  simp only [Option.map_some, Option.some.injEq] at h8
  have h9 := h5 zs[i] (List.getElem_mem hz)
  rw [List.getD_eq_getElem?_getD, List.getElem?_eq_getElem hz, Option.getD_some, ← h8]
  congr 2
  simp; omega
theorem join_flat : ∀ ls : List (List UInt8), Lib.join ls [] = ls.flatten
  | [] => rfl
  | [a] => by simp [Lib.join, List.intercalate]
  | a :: b :: t => by
    have ih := join_flat (b :: t)
    unfold Lib.join List.intercalate at ih ⊢
    rw [show List.intersperse [] (a :: b :: t) = a :: [] :: List.intersperse [] (b :: t) from rfl, List.flatten_cons, List.flatten_cons, ih, List.flatten_cons]
    rfl
theorem lens_flat : ∀ ls : List (List UInt8), Lib.lens ls = ls.flatten.length
  | [] => rfl
  | a :: t => by
    have ih := lens_flat t
    unfold Lib.lens at ih ⊢
    rw [List.map_cons, List.sum_cons, ih, List.flatten_cons, List.length_append]
def JnPost (w : World) (l : List UInt8) (e : Ending) (w' : World) : Prop := ∃ A c, e = .returned (.slice A l.length c) ∧ Byt w' w'.heap.size A l.length c l ∧ (A = none → c = 0) ∧ Below w.heap.size w w'
theorem OwnBs.holds {w : World} {base : Nat} {vs : List Value} {ps : List (List UInt8)} (h : OwnBs w base vs ps) {i : Nat} {v : Value} {p : List UInt8} (h1 : vs[i]? = some v) (h2 : ps[i]? = some p) : Lib.HoldsBytes w v p := by
  have ho := h.2 i v p h1 h2
  obtain ⟨A, c, rfl⟩ := ho.form
  refine ⟨A, c, rfl, fun e => ?_, fun a ha j x hj => ?_⟩
  · subst e
    have hb := ho.byt
    rcases Nat.eq_zero_or_pos p.length with h0 | h0
    · exact List.eq_nil_of_length_eq_zero h0
    · obtain ⟨b, off, e, _⟩ := hb.cell h0; cases e
  · have hjl : j < p.length := (List.getElem?_eq_some_iff.1 hj).1
    obtain ⟨b, off, e, _, hc⟩ := ho.byt.cell (by omega)
    rw [ha] at e; injection e with e; subst e
    have := hc j hjl
    rw [Go.WideShapes.add_plain, this, (List.getElem?_eq_some_iff.1 hj).2]
theorem join_any (w : World) (B base : Nat) (A : Option Addr) (n c : Nat) (vs : List Value) (ps : List (List UInt8)) (hc : Cel w B 1 A n c vs) (ho : OwnBs w base vs ps) (hl : ps.flatten.length ≤ 1000000000) (hn : n ≤ 1000000000) : Calls Tryz.prog 44 #[.slice A n c, .slice none 0 0] w (JnPost w ps.flatten) := by
  have hvn : vs.length = n := by have := hc.len; omega
  have hpn : ps.length = n := by rw [← ho.1]; exact hvn
  match ps, hpn with
  | [], hpn =>
    obtain rfl : n = 0 := by simpa using hpn.symm
    refine (Tryz.bytes_Join_none A c (.slice none 0 0) w).mono ?_
    rintro e w' ⟨rfl, rfl⟩
    exact ⟨_, _, rfl, Byt.nil _ _ _ _ (Nat.zero_le _), (fun e => by cases e), (Below.refl _ _).alloc (Nat.le_refl _) _⟩
  | [p], hpn =>
    obtain rfl : n = 1 := by simpa using hpn.symm
    obtain ⟨b, off, rfl, _, hcc⟩ := hc.cell (by omega)
    obtain ⟨v, hv⟩ : ∃ v, vs[0]? = some v := ⟨vs[0]'(by omega), List.getElem?_eq_getElem _⟩
    obtain ⟨Ap, cp, e, h1, h2⟩ := ho.holds hv (p := p) rfl
    subst e
    have h3 := hcc 0 _ hv
    rw [Nat.add_zero] at h3
    rw [show [p].flatten = p by simp]
    by_cases hp : p = []
    · subst hp
      refine (Tryz.bytes_Join_one_empty b off c Ap cp (.slice none 0 0) w h3).mono ?_
      rintro e w' ⟨rfl, rfl⟩
      exact ⟨none, 0, rfl, Byt.nil _ _ _ _ (Nat.zero_le _), fun _ => rfl, Below.refl _ _⟩
    · cases Ap with
      | none => exact absurd (h1 rfl) hp
      | some a =>
        refine (Tryz.bytes_Join_one b off c a cp p (.slice none 0 0) w h3 (h2 a rfl) (List.length_pos_iff.2 hp) (by simp at hl; omega)).mono ?_
        rintro e w' ⟨v', rfl, hf, hb⟩
        obtain ⟨g, cc, rfl, hby⟩ := fresh_byt hf
        exact ⟨_, _, rfl, hby, (fun e => by cases e), hb⟩
  | p :: q :: t, hpn =>
    obtain ⟨b, off, rfl, _, hcc⟩ := hc.cell (by simp at hpn; omega)
    have hn2 : 2 ≤ n := by simp at hpn; omega
    refine (Tryz.bytes_Join_many b off n c vs (p :: q :: t) (.slice none 0 0) [] w hpn hn2 ⟨ho.1, fun i v hv => by rw [Go.WideShapes.add_plain]; exact hcc i v hv, fun i v l h1 h2 => ho.holds h1 h2⟩ hc.cap ⟨none, 0, rfl, fun _ => rfl, fun a ha => by cases ha⟩ (by omega) (by rw [lens_flat]; simp only [List.length_nil, Nat.zero_mul]; omega)).mono ?_
    rintro e w' ⟨v', rfl, hf, hb⟩
    rw [join_flat] at hf
    obtain ⟨g, cc, rfl, hby⟩ := fresh_byt hf
    exact ⟨_, _, rfl, hby, (fun e => by cases e), hb⟩
/-- frames that are torn, or bad -/
theorem snload_state (w : World) (A : Option Addr) (n c : Nat) (l : List UInt8) (h : Byt w w.heap.size A n c l) (hn : n ≤ 1000000) (er : Int) (hs : ((Frm.allB l).2.2 = 1 ∧ er = 3) ∨ ((Frm.allB l).2.2 = 2 ∧ er = 4)) : Calls Tryz.prog 15 #[.slice A n c] w (fun e w' => e = .returned (.tuple #[.pointer none, .int .i64 0, .int .i64 er]) ∧ Below w.heap.size w w') := by
  have HA := Lib.hid (all_any w A n c l h hn)
  clear h
  go_enter Tryz.func15, Tryz.ntmps15
  go_wp2_with fail
  with_reducible refine HA.out.mono ?_
  rintro r w1 ⟨v, vs, rfl, ho, hob, hb⟩
  obtain ⟨Av, kv, rfl⟩ := ownsRow_form ho
  have HB := Lib.hid hb
  clear ho hob hb HA
  generalize (Frm.allB l).2.2 = st at *
  generalize (Frm.allB l).2.1 = m at *
  rcases hs with ⟨rfl, rfl⟩ | ⟨rfl, rfl⟩
  · go_wp2
    go_ret3
    exact ⟨rfl, HB.out⟩
  · go_wp2
    go_ret3
    exact ⟨rfl, HB.out⟩
/-- what reads as no text -/
theorem snload_form (w : World) (A : Option Addr) (n c : Nat) (l : List UInt8) (h : Byt w w.heap.size A n c l) (hn : n ≤ 1000000) (hs : (Frm.allB l).2.2 = 0) (hfl : (Frm.allB l).1.flatten.length ≤ 1000000) (hno : (snD (Frm.allB l).1.flatten).ok = false) (hmx : MaxAt w) (hee : ErrsAt w) : Calls Tryz.prog 15 #[.slice A n c] w (fun e w' => e = .returned (.tuple #[.pointer none, .int .i64 0, .int .i64 2]) ∧ Below w.heap.size w w') := by
  have HA := Lib.hid (all_any w A n c l h hn)
  have hle := (Frm.allB_le l).2
  have hll := h.len
  have HMX := Lib.hid hmx; have HEE := Lib.hid hee
  clear h hmx hee
  go_enter Tryz.func15, Tryz.ntmps15
  go_wp2_with fail
  with_reducible refine HA.out.mono ?_
  rintro r w1 ⟨v, vs, rfl, ho, hob, hb⟩
  obtain ⟨Av, kv, rfl⟩ := ownsRow_form ho
  have HB := Lib.hid hb
  have hvs := hob.1
  have HJ := Lib.hid (join_any w1 _ _ Av vs.length kv vs _ (Cel.of_own ho) hob (by omega) (by omega))
  rw [hs]
  clear ho hob hb HA hvs
  generalize (Frm.allB l).1.flatten = T at *
  generalize (Frm.allB l).2.1 = m at *
  go_wp2_with fail
  with_reducible refine HJ.out.mono ?_
  rintro r w2 ⟨A2, c2, rfl, hb2, hA2, hbl2⟩
  have HB2 := Lib.hid (HB.out.trans (hbl2.mono HB.out.size))
  have HR := Lib.hid (snread_any w2 A2 T.length c2 T hb2 hA2 (by omega) (HEE.out.up HB2.out) (HMX.out.up HB2.out))
  clear HJ hb2 hA2 hbl2
  go_wp2_with fail
  with_reducible refine HR.out.mono ?_
  rintro r w3 ⟨Ac, nc, kc, Ah, nh, kh, At, nt, kt, Al, nl, kl, Ag, ng, kg, rfl, q1, q2, q3, q4, q5, q6⟩
  have HB3 := Lib.hid (HB2.out.trans (q6.mono HB2.out.size))
  clear HR q1 q2 q3 q4 q5 q6
  rw [hno]
  generalize snD T = D at *
  have HF := Lib.hid (show ∀ o, Below w.heap.size w (w3.alloc o) from fun o => HB3.out.trans ((Below.refl _ _).alloc HB3.out.size o))
  unfold ptsAgg
  go_wp2
  go_ret3
  exact ⟨rfl, HF.out _⟩
theorem of_good {w : World} {N : Nat} {x : Itk} (hx : PtGood N x) (hN : N ≤ 600) {Ac Ah At Al Ag : Option Addr} {nc kc nh kh nt kt nl kl ng kg : Nat} {r : List (List UInt8)} (hr : Rising r x.gone) (h : OfIn w N Ac Ah At Al Ag nc kc nh kh nt kt nl kl ng kg (encC x.clk) (encH x.had) x.taken x.late r) :
    Calls Tryz.prog 25 #[ptsAgg x.clk.slack x.clk.idle (.slice Ac nc kc) (.slice Ah nh kh) (.slice At nt kt) (.slice Al nl kl) (.slice Ag ng kg)] w (AgainPost w N x) := by
  refine (of_any w N Ac Ah At Al Ag nc kc nh kh nt kt nl kl ng kg x.clk.slack x.clk.idle (encC x.clk) (encH x.had) x.taken x.late r h).mono ?_
  rintro e w' ⟨hb, ⟨c, m, bi, F, hp, rfl, hi, hF⟩ | ⟨er, rfl, h1, h2⟩⟩
  · have e1 : c = x.clk := by have := hp.dc; rw [hx.dc] at this; injection this with this; exact this.symm
    have e2 : m = x.had := by obtain ⟨q, hq⟩ := hp.dh; rw [hx.dh hN] at hq; injection hq with hq _; exact hq.symm
    subst e1 e2
    exact ⟨bi, F, rfl, ItkAt.congrG hi hr.2, hb, hF⟩
  · exact absurd (hx.parts hN hr) (h2 _ _)
theorem num_step (a q : Nat) (h : ¬ a ≤ 65536) (h3 : q * 65536 ≤ a - 65536 + 65535) : (q + 1) * 65536 ≤ a + 65535 := by
  generalize hC : 65536 = C at *
  generalize hD : 65535 = D at *
  rw [Nat.add_mul, Nat.one_mul]
  generalize q * C = z at *
  omega
theorem num_last (a q : Nat) (h2 : 0 < a) (h3 : q = 0) : (q + 1) * 65536 ≤ a + 65535 := by
  subst h3
  rw [Nat.zero_add, Nat.one_mul]
  omega
theorem chunksB_num2 (l : List UInt8) : (chunksB l).length * 65536 ≤ l.length + 65535 := by
  have key : ∀ (f : Nat) (l : List UInt8), l.length ≤ f → (chunks f l).length * 65536 ≤ l.length + 65535 := fun f => by
    induction f with
    | zero => intro l _; simp [chunks]
    | succ f ih =>
      intro l hf
      unfold chunks
      split
      · simp
      · rename_i h1
        have h2 := List.length_pos_iff.2 h1
        have h3 := ih (l.drop 65536) (by rw [List.length_drop]; omega)
        rw [List.length_drop] at h3
        rw [List.length_cons]
        by_cases h4 : l.length ≤ 65536
        · have h7 : (l.drop 65536).length = 0 := by rw [List.length_drop]; omega
          have h8 := List.eq_nil_of_length_eq_zero h7
          have h6 : (chunks f (l.drop 65536)).length = 0 := by
            rw [h8]
            cases f with
            | zero => rfl
            | succ f => unfold chunks; rfl
          exact num_last _ _ h2 h6
        · exact num_step _ _ h4 h3
  exact key _ l (Nat.le_refl _)
theorem piecesB_len2 (l : List UInt8) (h : l.length ≤ 900000) : (piecesB l).length ≤ l.length + 150 := by
  unfold piecesB
  rw [catB_len, chunksB_flat]
  have := chunksB_num2 l
  omega
theorem PtGood.had_len2 {N : Nat} {x : Itk} (h : PtGood N x) (hN : N ≤ 100) : (encH x.had).length ≤ 163400 := by
  have h1 := numB_short (n := x.had.length) (by have := h.ok.had; omega)
  have h2 := flat_lenN (M := N) x.had (fun p hp => encS_lenN (h.play.ok.each p hp).1 (h.play.ok.each p hp).2.1 (h.ok.hadrow h.play.ok p hp) (by omega))
  have h3 := h.ok.had
  have h4 : (33 + 16 * N) * x.had.length ≤ (33 + 16 * 100) * 100 := Nat.mul_le_mul (by omega) (by omega)
  unfold encH; rw [List.length_append]; omega
theorem PtGood.text_len {N : Nat} {x : Itk} (h : PtGood N x) (hN : N ≤ 100) {n : Int} (h0 : 0 ≤ n) (h1 : n ≤ 1048576) : (snX n x).length ≤ 530000 := by
  have k1 := h.clk.slack; have k2 := h.clk.idle
  have k3 := h.encC_len; have k4 := h.had_len2 hN; have k5 := h.ok.taken; have k6 := h.ok.late; have k7 := h.gone
  have k8 := rising_lenO (goneR_rise x)
  have e1 := evsT_len x.taken fun e he => h.ok.may e (.inl he)
  have e2 := evsT_len x.late fun e he => h.ok.may e (.inr he)
  have e3 := namesT_len (goneR x) fun p hp => by
    have := h.pt.name p (((goneR_rise x).2 p).1 hp)
    have := (nameB_len this).2; omega
  have f1 := lineB_one wSnap n (by omega) (by omega)
  have f2 := lineB_one wSlack x.clk.slack (by omega) (by omega)
  have f3 := lineB_one wIdle x.clk.idle (by omega) (by omega)
  have f4 := lineB_one wClock (encC x.clk).length (by omega) (by omega)
  have f5 := lineB_one wHad (encH x.had).length (by omega) (by omega)
  have f6 := lineB_one wTaken x.taken.length (by omega) (by omega)
  have f7 := lineB_one wLate x.late.length (by omega) (by omega)
  have f8 := lineB_one wGone (goneR x).length (by omega) (by omega)
  unfold snX snT
  simp only [List.length_append]
  simp only [wSnap, wSlack, wIdle, wClock, wHad, wTaken, wLate, wGone, List.length_cons, List.length_nil] at *
  omega
def LdPost (w : World) (N : Nat) (x : Itk) (off : Int) (e : Ending) (w' : World) : Prop := ∃ bi F, e = .returned (.tuple #[.pointer (some ⟨bi, 0, none⟩), .int .i64 off, .int .i64 0]) ∧ ItkAt w' F bi N x ∧ Below w.heap.size w w' ∧ ∀ b, F b → w.heap.size ≤ b
set_option maxRecDepth 100000 in
set_option maxHeartbeats 4000000 in
/-- a snapshot is loaded -/
theorem snload_good (w : World) (A : Option Addr) (n c : Nat) (x : Itk) (off : Int) (N : Nat) (h : Byt w w.heap.size A n c (piecesB (snX off x))) (hg : PtGood N x) (hN : N ≤ 100) (h0 : 0 ≤ off) (h1 : off ≤ 1048576) (hmx : MaxAt w) (hee : ErrsAt w) (htab : Lib.TabBelow Tryz.prog w.heap.size w "internal/strconv.uint64pow10" .u64 Lib.pow10Tab) : Calls Tryz.prog 15 #[.slice A n c] w (LdPost w N x off) := by
  have htl := hg.text_len hN h0 h1
  have hpl := piecesB_len2 (snX off x) (by omega)
  have hll := h.len
  have HA := Lib.hid (all_any w A n c _ h (by omega))
  have hab := allB_pieces (snX off x)
  have hcl := chunksB_num2 (snX off x)
  have HSD := Lib.hid (show snD (snX off x) = ⟨off, x.clk.slack, x.clk.idle, encC x.clk, encH x.had, x.taken, x.late, goneR x, true⟩ from by
    have h2 := snD_snT (hg.snFit (by omega) h0 h1) []
    rw [List.append_nil] at h2
    exact h2)
  have HG := Lib.hid hg; have HMX := Lib.hid hmx; have HEE := Lib.hid hee; have HT := Lib.hid htab; have HBY := Lib.hid h
  unfold AllPost at HA
  rw [hab] at HA
  clear h hg hmx hee htab hab
  go_enter Tryz.func15, Tryz.ntmps15
  go_wp2_with fail
  with_reducible refine HA.out.mono ?_
  rintro r w1 ⟨v, vs, rfl, ho, hob, hb⟩
  obtain ⟨Av, kv, rfl⟩ := ownsRow_form ho
  have HB := Lib.hid hb
  have hvs := hob.1
  have HJ := Lib.hid (join_any w1 _ _ Av vs.length kv vs _ (Cel.of_own ho) hob (by rw [chunksB_flat]; omega) (by omega))
  rw [chunksB_flat] at HJ
  clear ho hob hb HA hvs hcl
  generalize (piecesB (snX off x)).length = m at *
  go_wp2_with fail
  with_reducible refine HJ.out.mono ?_
  rintro r w2 ⟨A2, c2, rfl, hb2, hA2, hbl2⟩
  have HB2 := Lib.hid (HB.out.trans (hbl2.mono HB.out.size))
  have HR := Lib.hid (snread_any w2 A2 (snX off x).length c2 (snX off x) hb2 hA2 (by omega) (HEE.out.up HB2.out) (HMX.out.up HB2.out))
  unfold RdOut at HR
  rw [HSD.out] at HR
  clear HJ hb2 hA2 hbl2
  go_wp2_with fail
  with_reducible refine HR.out.mono ?_
  rintro r w3 ⟨Ac, nc, kc, Ah, nh, kh, At, nt, kt, Al, nl, kl, Ag, ng, kg, rfl, q1, q2, q3, q4, q5, q6⟩
  have hs3 := q6.size
  have hbA : Below w3.heap.size w3 (w3.alloc (ptsObj x.clk.slack x.clk.idle (.slice Ac nc kc) (.slice Ah nh kh) (.slice At nt kt) (.slice Al nl kl) (.slice Ag ng kg))) := (Below.refl _ _).alloc (Nat.le_refl _) _
  have HB4 := Lib.hid (HB2.out.trans ((q6.trans (hbA.mono hs3)).mono HB2.out.size))
  have HP4 := Lib.hid (show (w3.alloc (ptsObj x.clk.slack x.clk.idle (.slice Ac nc kc) (.slice Ah nh kh) (.slice At nt kt) (.slice Al nl kl) (.slice Ag ng kg))).heap[w3.heap.size]? = some (ptsObj x.clk.slack x.clk.idle (.slice Ac nc kc) (.slice Ah nh kh) (.slice At nt kt) (.slice Al nl kl) (.slice Ag ng kg)) from heap_alloc_new w3 _)
  have l1 := q1.len; have l2 := q2.len; have l3 := Evs.len q3; have l4 := Evs.len q4; have l5 := Strs.len q5
  have hrl := rising_lenO (goneR_rise x)
  have HOF := Lib.hid (of_good HG.out (by omega) (goneR_rise x) (w := w3.alloc (ptsObj x.clk.slack x.clk.idle (.slice Ac nc kc) (.slice Ah nh kh) (.slice At nt kt) (.slice Al nl kl) (.slice Ag ng kg)))
    { clk := (q1.below (hbA.mono hs3)).more (by have := hbA.size; omega)
      had := (q2.below (hbA.mono hs3)).more (by have := hbA.size; omega)
      tk := Cel.more (Cel.below q3 hbA) hbA.size
      le := Cel.more (Cel.below q4 hbA) hbA.size
      gn := Cel.more (Cel.below q5 hbA) hbA.size
      hnc := by have := HG.out.encC_len; omega
      hnh := by have := HG.out.had_len2 hN; omega
      hnt := by have := HG.out.ok.taken; omega
      hnl := by have := HG.out.ok.late; omega
      hng := by have := HG.out.gone; omega
      hN := by omega
      st := fun e he => mayB_smallO (HG.out.ok.may e (.inl he))
      sl := fun e he => mayB_smallO (HG.out.ok.may e (.inr he))
      max := HMX.out.up HB4.out
      errs := HEE.out.up HB4.out
      tab := tab_up HT.out HB4.out
      bd := HG.out.bd (by omega) })
  clear HR q1 q2 q3 q4 q5 q6 l1 l2 l3 l4 l5 hbA hrl
  unfold ptsAgg at HOF ⊢
  go_upto_region 8 with fail
  generalize w3.alloc (ptsObj x.clk.slack x.clk.idle (.slice Ac nc kc) (.slice Ah nh kh) (.slice At nt kt) (.slice Al nl kl) (.slice Ag ng kg)) = w4 at *
  obtain ⟨z0, z1, z2, z3, z4, z5, z6, _⟩ := pts_cells HP4.out
  go_wp2_with fail
  with_reducible refine HOF.out.mono ?_
  rintro r w5 ⟨bi, F, rfl, hi, hb5, hF⟩
  have HB5 := Lib.hid (HB4.out.trans (hb5.mono HB4.out.size))
  have HI := Lib.hid hi
  have HFN := Lib.hid (show ∀ b, F b → w.heap.size ≤ b from fun b hb => by have := hF b hb; have := HB4.out.size; omega)
  have HSV := Lib.hid (snsave_any w5 F bi N x hi HG.out (by omega) off h0 h1 (HMX.out.up HB5.out) (tab_up HT.out HB5.out))
  clear HOF z0 z1 z2 z3 z4 z5 z6 hi hb5 hF
  go_wp2_with fail
  with_reducible refine HSV.out.mono ?_
  rintro r w6 ⟨v6, rfl, ho6, hb6⟩
  obtain ⟨A6, k6, rfl⟩ := ho6.form
  have HB6 := Lib.hid (HB5.out.trans (hb6.mono HB5.out.size))
  have HI6 := Lib.hid (HI.out.up hb6)
  have HEQ := Lib.hid (equal_any w6 _ _ _ _ _ _ _ _ _ _ ho6.byt (HBY.out.below HB6.out))
  have HF := Lib.hid (show LdPost w N x off (.returned (.tuple #[.pointer (some ⟨bi, 0, none⟩), .int .i64 off, .int .i64 0])) w6 from ⟨bi, F, rfl, HI6.out, HB6.out, HFN.out⟩)
  rw [beq_self_eq_true] at HEQ
  clear HSV ho6 hb6
  go_wp2_with fail
  with_reducible refine HEQ.out.mono ?_
  rintro r w7 ⟨rfl, rfl⟩
  clear HEQ
  go_wp2
  go_ret3
  exact HF.out
end Go.Proofs.YtbejfgmdkmddnaaGreatDoor
