/-
  Plain laws of layer 3: a whole frame, a cut one, one with another byte, frames in a row. No program in sight.
-/
import Derived.Test.YtbejfgmdkmddnaaGreatDoorSFrmWalk
namespace Frm

theorem getD_front (p : List UInt8) (r : List UInt8) :
    (sealB p ++ r).getD 0 0 = u8 (p.length / 65536) ∧ (sealB p ++ r).getD 1 0 = u8 (p.length / 256) ∧ (sealB p ++ r).getD 2 0 = u8 p.length ∧
    (sealB p ++ r).getD 3 0 = 255 - u8 (p.length / 65536) ∧ (sealB p ++ r).getD 4 0 = 255 - u8 (p.length / 256) ∧ (sealB p ++ r).getD 5 0 = 255 - u8 p.length := by
  simp [sealB, front, be3]

/-- what is seen of the first six bytes -/
theorem sz_seen (l : List UInt8) (n : Nat) (h0 : l.getD 0 0 = u8 (n / 65536)) (h1 : l.getD 1 0 = u8 (n / 256)) (h2 : l.getD 2 0 = u8 n) (hn : n < 16777216) : sz l = n := by
  unfold sz; rw [h0, h1, h2, u8_toNat, u8_toNat, u8_toNat]; omega

theorem be4_inj {a b : Nat} (ha : a < 4294967296) (hb : b < 4294967296) (h : be4 a = be4 b) : a = b := by
  simp only [be4, List.cons.injEq, and_true] at h
  obtain ⟨h1, h2, h3, h4⟩ := h
  have e1 := congrArg UInt8.toNat h1; have e2 := congrArg UInt8.toNat h2; have e3 := congrArg UInt8.toNat h3; have e4 := congrArg UInt8.toNat h4
  simp only [u8_toNat] at e1 e2 e3 e4
  omega

theorem openB_whole (p r : List UInt8) (hp : p.length ≤ 65536) : openB (sealB p ++ r) = (p, 6 + p.length + 4, 0) := by
  obtain ⟨h0, h1, h2, h3, h4, h5⟩ := getD_front p r
  have hs := sz_seen (sealB p ++ r) p.length h0 h1 h2 (by omega)
  have hl : (sealB p ++ r).length = p.length + 10 + r.length := by rw [List.length_append, sealB_length]
  have hu : unlike (sealB p ++ r) = false := by
    unfold unlike unlikeAt
    rw [h3, h4, h5, show 3 - 3 = 0 from rfl, show 4 - 3 = 1 from rfl, show 5 - 3 = 2 from rfl, h0, h1, h2]
    simp
  have hlo : long (sealB p ++ r) = false := by unfold long; rw [hs]; simp; omega
  have ht : there (sealB p ++ r) = true := by unfold there; rw [hs, hl]; simp; omega
  have hf : (sealB p ++ r).take (6 + p.length) = front p := by
    unfold sealB
    rw [List.append_assoc, List.take_append_of_le_length (by rw [front_length]; omega), List.take_of_length_le (by rw [front_length]; omega)]
  have hd : ((sealB p ++ r).drop (6 + p.length)).take 4 = be4 (asum (front p)) := by
    unfold sealB
    rw [List.append_assoc, List.drop_append, List.drop_eq_nil_of_le (by rw [front_length]; omega), front_length, show 6 + p.length - (p.length + 6) = 0 by omega]
    simp [be4]
  have hw : wrong (sealB p ++ r) = false := by unfold wrong; rw [hs, ht, hd, hf]; simp
  have hpay : ((sealB p ++ r).drop 6).take p.length = p := by
    simp [sealB, front, be3]
  unfold openB bad
  rw [hu, hlo, hw, ht, hs, hpay]
  rfl

theorem openB_cut (p : List UInt8) (hp : p.length ≤ 65536) (cut : Nat) (hc : cut < p.length + 10) : openB ((sealB p).take cut) = ([], 0, 1) := by
  have hg := getD_front p []
  rw [List.append_nil] at hg
  obtain ⟨h0, h1, h2, h3, h4, h5⟩ := hg
  have hl : ((sealB p).take cut).length = cut := by rw [List.length_take, sealB_length]; omega
  have hgt : ∀ i, i < cut → ((sealB p).take cut).getD i 0 = (sealB p).getD i 0 := fun i hi => by
    simp [List.getD, hi]
  have hua : ∀ i, 3 ≤ i → i < 6 → unlikeAt ((sealB p).take cut) i = false := by
    intro i h3' h6
    unfold unlikeAt
    rw [hl]
    by_cases hi : i < cut
    · rw [hgt i hi, hgt (i - 3) (by omega)]
      have : i = 3 ∨ i = 4 ∨ i = 5 := by omega
      rcases this with rfl | rfl | rfl
      · rw [h3, show 3 - 3 = 0 from rfl, h0]; simp
      · rw [h4, show 4 - 3 = 1 from rfl, h1]; simp
      · rw [h5, show 5 - 3 = 2 from rfl, h2]; simp
    · simp [hi]
  have hu : unlike ((sealB p).take cut) = false := by unfold unlike; rw [hua 3 (by omega) (by omega), hua 4 (by omega) (by omega), hua 5 (by omega) (by omega)]; rfl
  have hs : 3 ≤ cut → sz ((sealB p).take cut) = p.length := fun h => sz_seen _ _ ((hgt 0 (by omega)).trans h0) ((hgt 1 (by omega)).trans h1) ((hgt 2 (by omega)).trans h2) (by omega)
  have hlo : long ((sealB p).take cut) = false := by
    unfold long; rw [hl]
    by_cases h : 3 ≤ cut
    · rw [hs h]; simp; omega
    · simp [h]
  have ht : there ((sealB p).take cut) = false := by
    unfold there; rw [hl]
    by_cases h : 6 ≤ cut
    · rw [hs (by omega)]; simp; omega
    · simp [h]
  have hw : wrong ((sealB p).take cut) = false := by unfold wrong; rw [ht]; rfl
  unfold openB bad
  rw [hu, hlo, hw, ht]
  rfl

theorem ad_fst (l : List UInt8) : (ad l).1 = (1 + (l.map UInt8.toNat).sum) % 65521 := by
  have key : ∀ (l : List UInt8) (p : Nat × Nat), p.1 < 65521 → (l.foldl adStep p).1 = (p.1 + (l.map UInt8.toNat).sum) % 65521 := by
    intro l
    induction l with
    | nil => intro p hp; simp; omega
    | cons c l ih =>
      intro p hp
      rw [List.foldl_cons, ih _ (Nat.mod_lt _ (by decide))]
      simp only [adStep, List.map_cons, List.sum_cons]
      omega
  exact key l (1, 0) (by decide)

theorem sum_set (l : List UInt8) (i : Nat) (h : i < l.length) (y : UInt8) : ((l.set i y).map UInt8.toNat).sum + l[i].toNat = (l.map UInt8.toNat).sum + y.toNat := by
  induction l generalizing i with
  | nil => simp at h
  | cons c l ih =>
    cases i with
    | zero => simp; omega
    | succ i =>
      have := ih i (by simpa using h)
      simp only [List.set_cons_succ, List.map_cons, List.sum_cons, List.getElem_cons_succ]
      omega

theorem asum_set (l : List UInt8) (i : Nat) (h : i < l.length) (y : UInt8) (hy : y ≠ l[i]) : asum (l.set i y) ≠ asum l := by
  intro e
  have h1 := ad_lt l
  have h2 := ad_lt (l.set i y)
  have e1 : (ad (l.set i y)).1 = (ad l).1 := by unfold asum at e; omega
  rw [ad_fst, ad_fst] at e1
  have hs := sum_set l i h y
  have hne : y.toNat ≠ l[i].toNat := fun e => hy (UInt8.toNat_inj.1 e)
  have hy' := y.toNat_lt; have hx' := l[i].toNat_lt
  omega

theorem getD_set_ne (l r : List UInt8) (i j : Nat) (y : UInt8) (h : i ≠ j) : (l.set i y ++ r).getD j 0 = (l ++ r).getD j 0 := by
  simp only [List.getD, List.getElem?_append, List.length_set, List.getElem?_set]
  simp [h]
theorem getD_set_eq (l r : List UInt8) (i : Nat) (y : UInt8) (h : i < l.length) : (l.set i y ++ r).getD i 0 = y := by
  simp [List.getD, List.getElem?_append, h]

theorem openB_turned (p r : List UInt8) (hp : p.length ≤ 65536) (i : Nat) (hi : i < p.length + 10) (y : UInt8) (hy : y ≠ (sealB p).getD i 0) : openB ((sealB p).set i y ++ r) = ([], 0, 2) := by
  obtain ⟨h0, h1, h2, h3, h4, h5⟩ := getD_front p r
  have hl : ((sealB p).set i y ++ r).length = p.length + 10 + r.length := by rw [List.length_append, List.length_set, sealB_length]
  have hbad : bad ((sealB p).set i y ++ r) = true := by
    have hgd : ∀ j, i ≠ j → ((sealB p).set i y ++ r).getD j 0 = (sealB p ++ r).getD j 0 := fun j hj => getD_set_ne _ _ _ _ _ hj
    have hge := getD_set_eq (sealB p) r i y (by rw [sealB_length]; exact hi)
    have hold : (sealB p ++ r).getD i 0 = (sealB p).getD i 0 := by
      simp only [List.getD]; rw [List.getElem?_append_left (by rw [sealB_length]; exact hi)]
    rw [← hold] at hy
    unfold bad
    by_cases hu6 : i < 6
    · have hun : unlike ((sealB p).set i y ++ r) = true := by
        have hcase : i = 0 ∨ i = 1 ∨ i = 2 ∨ i = 3 ∨ i = 4 ∨ i = 5 := by omega
        have key : ∀ a b : UInt8, a ≠ b → 255 - b ≠ 255 - a := fun a b hab e => hab (by
          have := congrArg UInt8.toNat e; rw [sub255, sub255] at this
          have := a.toNat_lt; have := b.toNat_lt
          exact UInt8.toNat_inj.1 (by omega))
        rcases hcase with rfl | rfl | rfl | rfl | rfl | rfl
        · refine unlike_of _ 3 (by omega) (by omega) ?_
          unfold unlikeAt; rw [hl, show 3 - 3 = 0 from rfl, hge, hgd 3 (by omega), h3]
          rw [h0] at hy
          simp only [Bool.and_eq_true, decide_eq_true_eq, bne_iff_ne]; exact ⟨by omega, key _ _ hy⟩
        · refine unlike_of _ 4 (by omega) (by omega) ?_
          unfold unlikeAt; rw [hl, show 4 - 3 = 1 from rfl, hge, hgd 4 (by omega), h4]
          rw [h1] at hy
          simp only [Bool.and_eq_true, decide_eq_true_eq, bne_iff_ne]; exact ⟨by omega, key _ _ hy⟩
        · refine unlike_of _ 5 (by omega) (by omega) ?_
          unfold unlikeAt; rw [hl, show 5 - 3 = 2 from rfl, hge, hgd 5 (by omega), h5]
          rw [h2] at hy
          simp only [Bool.and_eq_true, decide_eq_true_eq, bne_iff_ne]; exact ⟨by omega, key _ _ hy⟩
        · refine unlike_of _ 3 (by omega) (by omega) ?_
          unfold unlikeAt; rw [hl, show 3 - 3 = 0 from rfl, hge, hgd 0 (by omega), h0]
          rw [h3] at hy
          simp only [Bool.and_eq_true, decide_eq_true_eq, bne_iff_ne]; exact ⟨by omega, hy⟩
        · refine unlike_of _ 4 (by omega) (by omega) ?_
          unfold unlikeAt; rw [hl, show 4 - 3 = 1 from rfl, hge, hgd 1 (by omega), h1]
          rw [h4] at hy
          simp only [Bool.and_eq_true, decide_eq_true_eq, bne_iff_ne]; exact ⟨by omega, hy⟩
        · refine unlike_of _ 5 (by omega) (by omega) ?_
          unfold unlikeAt; rw [hl, show 5 - 3 = 2 from rfl, hge, hgd 2 (by omega), h2]
          rw [h5] at hy
          simp only [Bool.and_eq_true, decide_eq_true_eq, bne_iff_ne]; exact ⟨by omega, hy⟩
      rw [hun]; rfl
    · have hs : sz ((sealB p).set i y ++ r) = p.length := sz_seen _ _ ((hgd 0 (by omega)).trans h0) ((hgd 1 (by omega)).trans h1) ((hgd 2 (by omega)).trans h2) (by omega)
      have ht : there ((sealB p).set i y ++ r) = true := by unfold there; rw [hs, hl]; simp; omega
      have hw : wrong ((sealB p).set i y ++ r) = true := by
        unfold wrong
        rw [hs, ht, Bool.true_and, bne_iff_ne]
        by_cases hfr : i < 6 + p.length
        · have hset : (sealB p).set i y = (front p).set i y ++ be4 (asum (front p)) := by
            unfold sealB; rw [List.set_append_left _ _ (by rw [front_length]; omega)]
          have hf : ((sealB p).set i y ++ r).take (6 + p.length) = (front p).set i y := by
            rw [hset, List.append_assoc, List.take_append_of_le_length (by rw [List.length_set, front_length]; omega), List.take_of_length_le (by rw [List.length_set, front_length]; omega)]
          have hd : (((sealB p).set i y ++ r).drop (6 + p.length)).take 4 = be4 (asum (front p)) := by
            rw [hset, List.append_assoc, List.drop_append, List.drop_eq_nil_of_le (by rw [List.length_set, front_length]; omega), List.length_set, front_length, show 6 + p.length - (p.length + 6) = 0 by omega]
            simp [be4]
          rw [hf, hd]
          intro e
          have hx : (sealB p ++ r).getD i 0 = (front p)[i]'(by rw [front_length]; omega) := by
            unfold sealB
            simp only [List.getD, List.append_assoc]
            rw [List.getElem?_append_left (by rw [front_length]; omega), List.getElem?_eq_getElem (by rw [front_length]; omega)]; rfl
          rw [hx] at hy
          exact asum_set (front p) i (by rw [front_length]; omega) y hy (be4_inj (asum_lt _) (asum_lt _) e).symm
        · have hset : (sealB p).set i y = front p ++ (be4 (asum (front p))).set (i - (p.length + 6)) y := by
            unfold sealB; rw [List.set_append_right _ _ (by rw [front_length]; omega), front_length]
          have hf : ((sealB p).set i y ++ r).take (6 + p.length) = front p := by
            rw [hset, List.append_assoc, List.take_append_of_le_length (by rw [front_length]; omega), List.take_of_length_le (by rw [front_length]; omega)]
          have hd : (((sealB p).set i y ++ r).drop (6 + p.length)).take 4 = (be4 (asum (front p))).set (i - (p.length + 6)) y := by
            rw [hset, List.append_assoc, List.drop_append, List.drop_eq_nil_of_le (by rw [front_length]; omega), front_length, show 6 + p.length - (p.length + 6) = 0 by omega]
            rw [List.drop_zero, List.nil_append, List.take_append_of_le_length (by simp [be4]), List.take_of_length_le (by simp [be4])]
          rw [hf, hd]
          intro e
          have hlt : i - (p.length + 6) < (be4 (asum (front p))).length := by simp [be4]; omega
          have hx : (sealB p ++ r).getD i 0 = (be4 (asum (front p)))[i - (p.length + 6)]'hlt := by
            unfold sealB
            simp only [List.getD, List.append_assoc]
            rw [List.getElem?_append_right (by rw [front_length]; omega), front_length, List.getElem?_append_left hlt, List.getElem?_eq_getElem hlt]; rfl
          rw [hx] at hy
          have := congrArg (fun l => l[i - (p.length + 6)]?) e
          simp [hlt] at this
          exact hy this
      rw [hw]; simp
  unfold openB
  rw [hbad]
  rfl

theorem allB_cons (p r : List UInt8) (hp : p.length ≤ 65536) : allB (sealB p ++ r) = (p :: (allB r).1, 6 + p.length + 4 + (allB r).2.1, (allB r).2.2) := by
  have ho := openB_whole p r hp
  have hl := sealB_length p
  rw [allB_go _ (fun e => by have := congrArg List.length e; simp at this; rw [List.eq_nil_iff_length_eq_zero] at this; omega) (by rw [ho]), ho]
  have : List.drop (6 + p.length + 4) (sealB p ++ r) = r := by
    rw [List.drop_append, List.drop_eq_nil_of_le (by omega), hl, show 6 + p.length + 4 - (p.length + 10) = 0 by omega]; rfl
  simp only [this]

/-- frames one behind the other -/
def catB : List (List UInt8) → List UInt8
  | [] => []
  | p :: l => sealB p ++ catB l
/-- where the first j of them end -/
def endB (l : List (List UInt8)) (j : Nat) : Nat := (catB (l.take j)).length
theorem endB_zero (l : List (List UInt8)) : endB l 0 = 0 := rfl
theorem endB_cons (p : List UInt8) (l : List (List UInt8)) (j : Nat) : endB (p :: l) (j + 1) = p.length + 10 + endB l j := by
  simp [endB, catB, sealB_length]
theorem allB_rows (l : List (List UInt8)) : (∀ p ∈ l, p.length ≤ 65536) → ∀ (cut W : Nat), W ≤ l.length → endB l W ≤ cut → (W < l.length → cut < endB l (W + 1)) → cut ≤ endB l l.length →
    allB ((catB l).take cut) = (l.take W, endB l W, if endB l W = cut then 0 else 1) := by
  induction l with
  | nil =>
    intro _ cut W hW h1 _ h3
    have hW0 : W = 0 := by simpa using hW
    subst hW0
    have : cut = 0 := by simpa [endB, catB] using h3
    subst this
    rfl
  | cons p l ih =>
    intro h cut W hW h1 h2 h3
    have hp : p.length ≤ 65536 := h p List.mem_cons_self
    cases W with
    | zero =>
      have hc := h2 (by simp)
      rw [endB_cons, endB_zero] at hc
      have ht : (catB (p :: l)).take cut = (sealB p).take cut := by
        simp only [catB]
        rw [List.take_append_of_le_length (by rw [sealB_length]; omega)]
      rw [ht, endB_zero]
      by_cases hz : cut = 0
      · subst hz; rfl
      · rw [if_neg (by omega)]
        have ho := openB_cut p hp cut (by omega)
        rw [allB_stop _ (fun e => by have := congrArg List.length e; rw [List.length_take, sealB_length] at this; simp at this; omega) (by rw [ho]; decide), ho]
        rfl
    | succ W =>
      rw [endB_cons] at h1
      have ht : (catB (p :: l)).take cut = sealB p ++ (catB l).take (cut - (p.length + 10)) := by
        simp only [catB]
        rw [List.take_append, List.take_of_length_le (by rw [sealB_length]; omega), sealB_length]
      rw [ht, allB_cons p _ hp]
      have := ih (fun q hq => h q (List.mem_cons_of_mem _ hq)) (cut - (p.length + 10)) W (by simpa using hW) (by omega)
        (fun hlt => by have := h2 (by simpa using hlt); rw [endB_cons] at this; omega)
        (by rw [List.length_cons, endB_cons] at h3; omega)
      rw [this, endB_cons]
      simp only [List.take_succ_cons]
      have e1 : 6 + p.length + 4 + endB l W = p.length + 10 + endB l W := by omega
      rw [e1]
      by_cases hz : endB l W = cut - (p.length + 10)
      · rw [if_pos hz, if_pos (by omega)]
      · rw [if_neg hz, if_neg (by omega)]
end Frm
