/-
  Plain laws of layer 3: a whole frame, a cut one, one with another byte, frames in a row. No program in sight.
  Layer 5, plain: lists cut into segments; decimal digits.
  Layer 5, plain: a journal: events on a disk.
-/
import Derived.Test.YtgbagjpokpchpaaGreatDoorFFrmPlain
import Derived.Lib.ItoaNum
import Derived.Test.YtgbagjpokpchpaaGreatDoorFEvMay
import Derived.Test.YtgbagjpokpchpaaGreatDoorFEvLen
import Derived.Test.YtgbagjpokpchpaaGreatDoorFDkPlain
namespace Frm

theorem getD_front (p : List UInt8) (r : List UInt8) :
    (sealB p ++ r).getD 0 0 = u8 (p.length / 65536) ∧ (sealB p ++ r).getD 1 0 = u8 (p.length / 256) ∧ (sealB p ++ r).getD 2 0 = u8 p.length ∧
    (sealB p ++ r).getD 3 0 = 255 - u8 (p.length / 65536) ∧ (sealB p ++ r).getD 4 0 = 255 - u8 (p.length / 256) ∧ (sealB p ++ r).getD 5 0 = 255 - u8 p.length := by
  simp [sealB, front, be3]

/-- what is seen of the first six bytes -/
theorem sz_seen (l : List UInt8) (n : Nat) (h0 : l.getD 0 0 = u8 (n / 65536)) (h1 : l.getD 1 0 = u8 (n / 256)) (h2 : l.getD 2 0 = u8 n) (hn : n < 16777216) : sz l = n := by
  unfold sz; rw [h0, h1, h2, u8_toNat, u8_toNat, u8_toNat]; omega

theorem be4_inj {a b : Nat} (ha : a < 4294967296) (hb : b < 4294967296) (h : be4 a = be4 b) : a = b := by
  simp only [be4, List.cons.injEq, and_true] at h
  obtain ⟨h1, h2, h3, h4⟩ := h
  have e1 := congrArg UInt8.toNat h1; have e2 := congrArg UInt8.toNat h2; have e3 := congrArg UInt8.toNat h3; have e4 := congrArg UInt8.toNat h4
  simp only [u8_toNat] at e1 e2 e3 e4
  omega

theorem openB_whole (p r : List UInt8) (hp : p.length ≤ 65536) : openB (sealB p ++ r) = (p, 6 + p.length + 4, 0) := by
  obtain ⟨h0, h1, h2, h3, h4, h5⟩ := getD_front p r
  have hs := sz_seen (sealB p ++ r) p.length h0 h1 h2 (by omega)
  have hl : (sealB p ++ r).length = p.length + 10 + r.length := by rw [List.length_append, sealB_length]
  have hu : unlike (sealB p ++ r) = false := by
    unfold unlike unlikeAt
    rw [h3, h4, h5, show 3 - 3 = 0 from rfl, show 4 - 3 = 1 from rfl, show 5 - 3 = 2 from rfl, h0, h1, h2]
    simp
  have hlo : long (sealB p ++ r) = false := by unfold long; rw [hs]; simp; omega
  have ht : there (sealB p ++ r) = true := by unfold there; rw [hs, hl]; simp; omega
  have hf : (sealB p ++ r).take (6 + p.length) = front p := by
    unfold sealB
    rw [List.append_assoc, List.take_append_of_le_length (by rw [front_length]; omega), List.take_of_length_le (by rw [front_length]; omega)]
  have hd : ((sealB p ++ r).drop (6 + p.length)).take 4 = be4 (asum (front p)) := by
    unfold sealB
    rw [List.append_assoc, List.drop_append, List.drop_eq_nil_of_le (by rw [front_length]; omega), front_length, show 6 + p.length - (p.length + 6) = 0 by omega]
    simp [be4]
  have hw : wrong (sealB p ++ r) = false := by unfold wrong; rw [hs, ht, hd, hf]; simp
  have hpay : ((sealB p ++ r).drop 6).take p.length = p := by
    simp [sealB, front, be3]
  unfold openB bad
  rw [hu, hlo, hw, ht, hs, hpay]
  rfl

theorem openB_cut (p : List UInt8) (hp : p.length ≤ 65536) (cut : Nat) (hc : cut < p.length + 10) : openB ((sealB p).take cut) = ([], 0, 1) := by
  have hg := getD_front p []
  rw [List.append_nil] at hg
  obtain ⟨h0, h1, h2, h3, h4, h5⟩ := hg
  have hl : ((sealB p).take cut).length = cut := by rw [List.length_take, sealB_length]; omega
  have hgt : ∀ i, i < cut → ((sealB p).take cut).getD i 0 = (sealB p).getD i 0 := fun i hi => by
    simp [List.getD, hi]
  have hua : ∀ i, 3 ≤ i → i < 6 → unlikeAt ((sealB p).take cut) i = false := by
    intro i h3' h6
    unfold unlikeAt
    rw [hl]
    by_cases hi : i < cut
    · rw [hgt i hi, hgt (i - 3) (by omega)]
      have : i = 3 ∨ i = 4 ∨ i = 5 := by omega
      rcases this with rfl | rfl | rfl
      · rw [h3, show 3 - 3 = 0 from rfl, h0]; simp
      · rw [h4, show 4 - 3 = 1 from rfl, h1]; simp
      · rw [h5, show 5 - 3 = 2 from rfl, h2]; simp
    · simp [hi]
  have hu : unlike ((sealB p).take cut) = false := by unfold unlike; rw [hua 3 (by omega) (by omega), hua 4 (by omega) (by omega), hua 5 (by omega) (by omega)]; rfl
  have hs : 3 ≤ cut → sz ((sealB p).take cut) = p.length := fun h => sz_seen _ _ ((hgt 0 (by omega)).trans h0) ((hgt 1 (by omega)).trans h1) ((hgt 2 (by omega)).trans h2) (by omega)
  have hlo : long ((sealB p).take cut) = false := by
    unfold long; rw [hl]
    by_cases h : 3 ≤ cut
    · rw [hs h]; simp; omega
    · simp [h]
  have ht : there ((sealB p).take cut) = false := by
    unfold there; rw [hl]
    by_cases h : 6 ≤ cut
    · rw [hs (by omega)]; simp; omega
    · simp [h]
  have hw : wrong ((sealB p).take cut) = false := by unfold wrong; rw [ht]; rfl
  unfold openB bad
  rw [hu, hlo, hw, ht]
  rfl

theorem ad_fst (l : List UInt8) : (ad l).1 = (1 + (l.map UInt8.toNat).sum) % 65521 := by
  have key : ∀ (l : List UInt8) (p : Nat × Nat), p.1 < 65521 → (l.foldl adStep p).1 = (p.1 + (l.map UInt8.toNat).sum) % 65521 := by
    intro l
    induction l with
    | nil => intro p hp; simp; omega
    | cons c l ih =>
      intro p hp
      rw [List.foldl_cons, ih _ (Nat.mod_lt _ (by decide))]
      simp only [adStep, List.map_cons, List.sum_cons]
      omega
  exact key l (1, 0) (by decide)

theorem sum_set (l : List UInt8) (i : Nat) (h : i < l.length) (y : UInt8) : ((l.set i y).map UInt8.toNat).sum + l[i].toNat = (l.map UInt8.toNat).sum + y.toNat := by
  induction l generalizing i with
  | nil => simp at h
  | cons c l ih =>
    cases i with
    | zero => simp; omega
    | succ i =>
      have := ih i (by simpa using h)
      simp only [List.set_cons_succ, List.map_cons, List.sum_cons, List.getElem_cons_succ]
      omega

theorem asum_set (l : List UInt8) (i : Nat) (h : i < l.length) (y : UInt8) (hy : y ≠ l[i]) : asum (l.set i y) ≠ asum l := by
  intro e
  have h1 := ad_lt l
  have h2 := ad_lt (l.set i y)
  have e1 : (ad (l.set i y)).1 = (ad l).1 := by unfold asum at e; omega
  rw [ad_fst, ad_fst] at e1
  have hs := sum_set l i h y
  have hne : y.toNat ≠ l[i].toNat := fun e => hy (UInt8.toNat_inj.1 e)
  have hy' := y.toNat_lt; have hx' := l[i].toNat_lt
  omega

theorem getD_set_ne (l r : List UInt8) (i j : Nat) (y : UInt8) (h : i ≠ j) : (l.set i y ++ r).getD j 0 = (l ++ r).getD j 0 := by
  simp only [List.getD, List.getElem?_append, List.length_set, List.getElem?_set]
  simp [h]
theorem getD_set_eq (l r : List UInt8) (i : Nat) (y : UInt8) (h : i < l.length) : (l.set i y ++ r).getD i 0 = y := by
  simp [List.getD, List.getElem?_append, h]

theorem openB_turned (p r : List UInt8) (hp : p.length ≤ 65536) (i : Nat) (hi : i < p.length + 10) (y : UInt8) (hy : y ≠ (sealB p).getD i 0) : openB ((sealB p).set i y ++ r) = ([], 0, 2) := by
  obtain ⟨h0, h1, h2, h3, h4, h5⟩ := getD_front p r
  have hl : ((sealB p).set i y ++ r).length = p.length + 10 + r.length := by rw [List.length_append, List.length_set, sealB_length]
  have hbad : bad ((sealB p).set i y ++ r) = true := by
    have hgd : ∀ j, i ≠ j → ((sealB p).set i y ++ r).getD j 0 = (sealB p ++ r).getD j 0 := fun j hj => getD_set_ne _ _ _ _ _ hj
    have hge := getD_set_eq (sealB p) r i y (by rw [sealB_length]; exact hi)
    have hold : (sealB p ++ r).getD i 0 = (sealB p).getD i 0 := by
      simp only [List.getD]; rw [List.getElem?_append_left (by rw [sealB_length]; exact hi)]
    rw [← hold] at hy
    unfold bad
    by_cases hu6 : i < 6
    · have hun : unlike ((sealB p).set i y ++ r) = true := by
        have hcase : i = 0 ∨ i = 1 ∨ i = 2 ∨ i = 3 ∨ i = 4 ∨ i = 5 := by omega
        have key : ∀ a b : UInt8, a ≠ b → 255 - b ≠ 255 - a := fun a b hab e => hab (by
          have := congrArg UInt8.toNat e; rw [sub255, sub255] at this
          have := a.toNat_lt; have := b.toNat_lt
          exact UInt8.toNat_inj.1 (by omega))
        rcases hcase with rfl | rfl | rfl | rfl | rfl | rfl
        · refine unlike_of _ 3 (by omega) (by omega) ?_
          unfold unlikeAt; rw [hl, show 3 - 3 = 0 from rfl, hge, hgd 3 (by omega), h3]
          rw [h0] at hy
          simp only [Bool.and_eq_true, decide_eq_true_eq, bne_iff_ne]; exact ⟨by omega, key _ _ hy⟩
        · refine unlike_of _ 4 (by omega) (by omega) ?_
          unfold unlikeAt; rw [hl, show 4 - 3 = 1 from rfl, hge, hgd 4 (by omega), h4]
          rw [h1] at hy
          simp only [Bool.and_eq_true, decide_eq_true_eq, bne_iff_ne]; exact ⟨by omega, key _ _ hy⟩
        · refine unlike_of _ 5 (by omega) (by omega) ?_
          unfold unlikeAt; rw [hl, show 5 - 3 = 2 from rfl, hge, hgd 5 (by omega), h5]
          rw [h2] at hy
          simp only [Bool.and_eq_true, decide_eq_true_eq, bne_iff_ne]; exact ⟨by omega, key _ _ hy⟩
        · refine unlike_of _ 3 (by omega) (by omega) ?_
          unfold unlikeAt; rw [hl, show 3 - 3 = 0 from rfl, hge, hgd 0 (by omega), h0]
          rw [h3] at hy
          simp only [Bool.and_eq_true, decide_eq_true_eq, bne_iff_ne]; exact ⟨by omega, hy⟩
        · refine unlike_of _ 4 (by omega) (by omega) ?_
          unfold unlikeAt; rw [hl, show 4 - 3 = 1 from rfl, hge, hgd 1 (by omega), h1]
          rw [h4] at hy
          simp only [Bool.and_eq_true, decide_eq_true_eq, bne_iff_ne]; exact ⟨by omega, hy⟩
        · refine unlike_of _ 5 (by omega) (by omega) ?_
          unfold unlikeAt; rw [hl, show 5 - 3 = 2 from rfl, hge, hgd 2 (by omega), h2]
          rw [h5] at hy
          simp only [Bool.and_eq_true, decide_eq_true_eq, bne_iff_ne]; exact ⟨by omega, hy⟩
      rw [hun]; rfl
    · have hs : sz ((sealB p).set i y ++ r) = p.length := sz_seen _ _ ((hgd 0 (by omega)).trans h0) ((hgd 1 (by omega)).trans h1) ((hgd 2 (by omega)).trans h2) (by omega)
      have ht : there ((sealB p).set i y ++ r) = true := by unfold there; rw [hs, hl]; simp; omega
      have hw : wrong ((sealB p).set i y ++ r) = true := by
        unfold wrong
        rw [hs, ht, Bool.true_and, bne_iff_ne]
        by_cases hfr : i < 6 + p.length
        · have hset : (sealB p).set i y = (front p).set i y ++ be4 (asum (front p)) := by
            unfold sealB; rw [List.set_append_left _ _ (by rw [front_length]; omega)]
          have hf : ((sealB p).set i y ++ r).take (6 + p.length) = (front p).set i y := by
            rw [hset, List.append_assoc, List.take_append_of_le_length (by rw [List.length_set, front_length]; omega), List.take_of_length_le (by rw [List.length_set, front_length]; omega)]
          have hd : (((sealB p).set i y ++ r).drop (6 + p.length)).take 4 = be4 (asum (front p)) := by
            rw [hset, List.append_assoc, List.drop_append, List.drop_eq_nil_of_le (by rw [List.length_set, front_length]; omega), List.length_set, front_length, show 6 + p.length - (p.length + 6) = 0 by omega]
            simp [be4]
          rw [hf, hd]
          intro e
          have hx : (sealB p ++ r).getD i 0 = (front p)[i]'(by rw [front_length]; omega) := by
            unfold sealB
            simp only [List.getD, List.append_assoc]
            rw [List.getElem?_append_left (by rw [front_length]; omega), List.getElem?_eq_getElem (by rw [front_length]; omega)]; rfl
          rw [hx] at hy
          exact asum_set (front p) i (by rw [front_length]; omega) y hy (be4_inj (asum_lt _) (asum_lt _) e).symm
        · have hset : (sealB p).set i y = front p ++ (be4 (asum (front p))).set (i - (p.length + 6)) y := by
            unfold sealB; rw [List.set_append_right _ _ (by rw [front_length]; omega), front_length]
          have hf : ((sealB p).set i y ++ r).take (6 + p.length) = front p := by
            rw [hset, List.append_assoc, List.take_append_of_le_length (by rw [front_length]; omega), List.take_of_length_le (by rw [front_length]; omega)]
          have hd : (((sealB p).set i y ++ r).drop (6 + p.length)).take 4 = (be4 (asum (front p))).set (i - (p.length + 6)) y := by
            rw [hset, List.append_assoc, List.drop_append, List.drop_eq_nil_of_le (by rw [front_length]; omega), front_length, show 6 + p.length - (p.length + 6) = 0 by omega]
            rw [List.drop_zero, List.nil_append, List.take_append_of_le_length (by simp [be4]), List.take_of_length_le (by simp [be4])]
          rw [hf, hd]
          intro e
          have hlt : i - (p.length + 6) < (be4 (asum (front p))).length := by simp [be4]; omega
          have hx : (sealB p ++ r).getD i 0 = (be4 (asum (front p)))[i - (p.length + 6)]'hlt := by
            unfold sealB
            simp only [List.getD, List.append_assoc]
            rw [List.getElem?_append_right (by rw [front_length]; omega), front_length, List.getElem?_append_left hlt, List.getElem?_eq_getElem hlt]; rfl
          rw [hx] at hy
          have := congrArg (fun l => l[i - (p.length + 6)]?) e
          simp [hlt] at this
          exact hy this
      rw [hw]; simp
  unfold openB
  rw [hbad]
  rfl

theorem allB_cons (p r : List UInt8) (hp : p.length ≤ 65536) : allB (sealB p ++ r) = (p :: (allB r).1, 6 + p.length + 4 + (allB r).2.1, (allB r).2.2) := by
  have ho := openB_whole p r hp
  have hl := sealB_length p
  rw [allB_go _ (fun e => by have := congrArg List.length e; simp at this; rw [List.eq_nil_iff_length_eq_zero] at this; omega) (by rw [ho]), ho]
  have : List.drop (6 + p.length + 4) (sealB p ++ r) = r := by
    rw [List.drop_append, List.drop_eq_nil_of_le (by omega), hl, show 6 + p.length + 4 - (p.length + 10) = 0 by omega]; rfl
  simp only [this]

/-- frames one behind the other -/
def catB : List (List UInt8) → List UInt8
  | [] => []
  | p :: l => sealB p ++ catB l
theorem catB_append (a b : List (List UInt8)) : catB (a ++ b) = catB a ++ catB b := by
  induction a with
  | nil => rfl
  | cons p a ih => simp [catB, ih]
/-- where the first j of them end -/
def endB (l : List (List UInt8)) (j : Nat) : Nat := (catB (l.take j)).length
theorem endB_zero (l : List (List UInt8)) : endB l 0 = 0 := rfl
theorem endB_succ (l : List (List UInt8)) (j : Nat) (h : j < l.length) : endB l (j + 1) = endB l j + (l[j].length + 10) := by
  unfold endB
  rw [List.take_add_one, List.getElem?_eq_getElem h, catB_append, List.length_append]
  simp [catB, sealB_length]
theorem endB_cons (p : List UInt8) (l : List (List UInt8)) (j : Nat) : endB (p :: l) (j + 1) = p.length + 10 + endB l j := by
  simp [endB, catB, sealB_length]
theorem endB_le (l : List (List UInt8)) (h : ∀ p ∈ l, p.length ≤ 1000) (j : Nat) : endB l j ≤ 1010 * j := by
  induction l generalizing j with
  | nil => simp [endB, catB]
  | cons p l ih =>
    cases j with
    | zero => simp [endB_zero]
    | succ j =>
      rw [endB_cons]
      have := ih (fun q hq => h q (List.mem_cons_of_mem _ hq)) j
      have := h p List.mem_cons_self
      omega

theorem allB_rows (l : List (List UInt8)) : (∀ p ∈ l, p.length ≤ 65536) → ∀ (cut W : Nat), W ≤ l.length → endB l W ≤ cut → (W < l.length → cut < endB l (W + 1)) → cut ≤ endB l l.length →
    allB ((catB l).take cut) = (l.take W, endB l W, if endB l W = cut then 0 else 1) := by
  induction l with
  | nil =>
    intro _ cut W hW h1 _ h3
    have hW0 : W = 0 := by simpa using hW
    subst hW0
    have : cut = 0 := by simpa [endB, catB] using h3
    subst this
    rfl
  | cons p l ih =>
    intro h cut W hW h1 h2 h3
    have hp : p.length ≤ 65536 := h p List.mem_cons_self
    cases W with
    | zero =>
      have hc := h2 (by simp)
      rw [endB_cons, endB_zero] at hc
      have ht : (catB (p :: l)).take cut = (sealB p).take cut := by
        simp only [catB]
        rw [List.take_append_of_le_length (by rw [sealB_length]; omega)]
      rw [ht, endB_zero]
      by_cases hz : cut = 0
      · subst hz; rfl
      · rw [if_neg (by omega)]
        have ho := openB_cut p hp cut (by omega)
        rw [allB_stop _ (fun e => by have := congrArg List.length e; rw [List.length_take, sealB_length] at this; simp at this; omega) (by rw [ho]; decide), ho]
        rfl
    | succ W =>
      rw [endB_cons] at h1
      have ht : (catB (p :: l)).take cut = sealB p ++ (catB l).take (cut - (p.length + 10)) := by
        simp only [catB]
        rw [List.take_append, List.take_of_length_le (by rw [sealB_length]; omega), sealB_length]
      rw [ht, allB_cons p _ hp]
      have := ih (fun q hq => h q (List.mem_cons_of_mem _ hq)) (cut - (p.length + 10)) W (by simpa using hW) (by omega)
        (fun hlt => by have := h2 (by simpa using hlt); rw [endB_cons] at this; omega)
        (by rw [List.length_cons, endB_cons] at h3; omega)
      rw [this, endB_cons]
      simp only [List.take_succ_cons]
      have e1 : 6 + p.length + 4 + endB l W = p.length + 10 + endB l W := by omega
      rw [e1]
      by_cases hz : endB l W = cut - (p.length + 10)
      · rw [if_pos hz, if_pos (by omega)]
      · rw [if_neg hz, if_neg (by omega)]
end Frm
namespace Go.Proofs.YtgbagjpokpchpaaGreatDoor
section
variable {α : Type}
/-- what stands in one segment -/
def segL (per k : Nat) (l : List α) : List α := (l.drop (k * per)).take per
/-- how many segments -/
def nseg (n per : Nat) : Nat := (n + per - 1) / per
theorem segL_length (per k : Nat) (l : List α) : (segL per k l).length = min per (l.length - k * per) := by simp [segL]
theorem segL_le (per k : Nat) (l : List α) : (segL per k l).length ≤ per := by rw [segL_length]; omega
theorem segL_take {per k m : Nat} (l : List α) (h : (k + 1) * per ≤ m) : segL per k (l.take m) = segL per k l := by
  rw [Nat.succ_mul] at h
  unfold segL
  rw [List.drop_take, List.take_take, Nat.min_eq_left (by omega)]
theorem segL_append {per k : Nat} (l r : List α) (h : (k + 1) * per ≤ l.length) : segL per k (l ++ r) = segL per k l := by
  rw [Nat.succ_mul] at h
  unfold segL
  rw [List.drop_append_of_le_length (by omega), List.take_append_of_le_length (by simp; omega)]
theorem segL_snoc {per : Nat} (hp : 1 ≤ per) (l : List α) (x : α) : segL per (l.length / per) (l ++ [x]) = segL per (l.length / per) l ++ [x] := by
  have h1 : l.length / per * per ≤ l.length := Nat.div_mul_le_self _ _
  have h2 : l.length < l.length / per * per + per := by
    have e := Nat.div_add_mod l.length per
    have := Nat.mod_lt l.length (show per > 0 by omega)
    rw [Nat.mul_comm] at e; omega
  unfold segL
  rw [List.drop_append_of_le_length h1]
  rw [List.take_of_length_le (by simp; omega), List.take_of_length_le (by simp; omega)]
theorem segL_nil (per k : Nat) (l : List α) (h : l.length ≤ k * per) : segL per k l = [] := by
  unfold segL; rw [List.drop_eq_nil_of_le h]; simp
theorem segL_last {per k : Nat} (l : List α) (h : l.length ≤ (k + 1) * per) : segL per k l = l.drop (k * per) := by
  rw [Nat.succ_mul] at h
  unfold segL; rw [List.take_of_length_le (by simp; omega)]
theorem segL_map {β : Type} (per k : Nat) (f : α → β) (l : List α) : segL per k (l.map f) = (segL per k l).map f := by
  unfold segL; rw [← List.map_drop, ← List.map_take]
theorem segL_succ (per k : Nat) (l : List α) : l.drop (k * per) = segL per k l ++ l.drop ((k + 1) * per) := by
  unfold segL
  rw [Nat.succ_mul, ← List.drop_drop, List.take_append_drop]
theorem segL_all (per : Nat) (l : List α) : ∀ k, (List.range k).flatMap (fun i => segL per i l) = l.take (k * per)
  | 0 => by simp
  | k + 1 => by
    rw [List.range_succ, List.flatMap_append, segL_all per l k, List.flatMap_singleton, segL]
    rw [Nat.succ_mul, List.take_add]
theorem nseg_le {n per : Nat} (hp : 1 ≤ per) : n ≤ nseg n per * per := by
  unfold nseg
  have e := Nat.div_add_mod (n + per - 1) per
  have := Nat.mod_lt (n + per - 1) (show per > 0 by omega)
  rw [Nat.mul_comm] at e; omega
theorem nseg_lt {n per : Nat} : nseg n per * per ≤ n + per - 1 := by
  unfold nseg; exact Nat.div_mul_le_self _ _
theorem nseg_snoc {n per : Nat} (hp : 1 ≤ per) : nseg (n + 1) per = n / per + 1 := by
  unfold nseg
  rw [show n + 1 + per - 1 = n + per by omega, Nat.add_div_right _ (by omega)]
theorem nseg_le_succ {n per : Nat} (hp : 1 ≤ per) : nseg n per ≤ n / per + 1 := by
  unfold nseg
  rw [← Nat.add_div_right _ (by omega : 0 < per)]
  exact Nat.div_le_div_right (by omega)
end
/-! ### decimal digits -/
open Lib
def decVal (l : List UInt8) : Nat := l.foldl (fun a c => a * 10 + (c.toNat - 48)) 0
theorem decVal_digits (k : Nat) : decVal (decDigits k) = k := by
  induction k using Nat.strongRecOn with
  | _ k ih =>
    by_cases h : k < 10
    · rw [decDigits, dif_pos h]; simp [decVal]; omega
    · have := ih (k / 10) (by omega)
      rw [decDigits, dif_neg h]
      unfold decVal at *
      rw [List.foldl_append, this]
      simp; omega
theorem decDigits_inj {k k' : Nat} (h : decDigits k = decDigits k') : k = k' := by rw [← decVal_digits k, h, decVal_digits]
theorem decDigits_ne (k : Nat) : decDigits k ≠ [] := by
  rw [decDigits]; split <;> simp
theorem decDigits_byte (k : Nat) : ∀ c ∈ decDigits k, 48 ≤ c.toNat ∧ c.toNat ≤ 57 := by
  induction k using Nat.strongRecOn with
  | _ k ih =>
    intro c hc
    by_cases h : k < 10
    · rw [decDigits, dif_pos h] at hc; simp at hc; subst hc; simp; omega
    · rw [decDigits, dif_neg h] at hc
      rcases List.mem_append.1 hc with hc | hc
      · exact ih (k / 10) (by omega) c hc
      · simp at hc; subst hc; simp; omega
/-- the name of a segment's file -/
def segF (s : List UInt8) (k : Nat) : List UInt8 := s ++ 46 :: decDigits k
theorem segF_inj {s : List UInt8} {k k' : Nat} (h : segF s k = segF s k') : k = k' := by
  unfold segF at h
  have := List.append_cancel_left h
  simp at this
  exact decDigits_inj this
theorem digits_two {k : Nat} (h : k < 100) : 1 ≤ (decDigits k).length ∧ (decDigits k).length ≤ 2 := by
  by_cases h1 : k < 10
  · rw [decDigits, dif_pos h1]; simp
  · rw [decDigits, dif_neg h1, decDigits, dif_pos (by omega)]; simp
theorem segF_len (s : List UInt8) {k : Nat} (h : k < 100) : 1 ≤ (segF s k).length ∧ (segF s k).length ≤ s.length + 3 := by
  have := digits_two h
  unfold segF; simp; omega
end Go.Proofs.YtgbagjpokpchpaaGreatDoor
namespace Go.Proofs.YtgbagjpokpchpaaGreatDoor
open Go.RowKit Go.Maps Go.Sort

def bytesE : Option Ev → List UInt8
  | none => []
  | some e => encE e
/-- an entry's frame -/
def sealE (x : Option Ev) : List UInt8 := Frm.sealB (bytesE x)
structure Jl where
  dk : Dk
  name : List UInt8
  per : Nat
  files : Nat
  es : List (Option Ev)
  lasts : Nat
  stuck : Int
def Jl.new (d : Dk) (s : List UInt8) (per : Nat) : Jl := ⟨d, s, per, 0, [], 0, 0⟩
def Jl.last (j : Jl) : List UInt8 := segF j.name (j.files - 1)
/-- all entries last, if there is a file -/
def Jl.sync (j : Jl) : Jl :=
  if j.files = 0 then j
  else if j.dk.syncE j.last ≠ 0 then { j with dk := j.dk.sync j.last, stuck := j.dk.syncE j.last }
  else { j with dk := j.dk.sync j.last, lasts := j.es.length }
def Jl.syncE (j : Jl) : Int := if j.files = 0 then 0 else j.dk.syncE j.last
/-- ahead of a new segment all entries last -/
def Jl.pre (j : Jl) : Jl := if j.es.length % j.per = 0 then j.sync else j
def Jl.preE (j : Jl) : Int := if j.es.length % j.per = 0 then j.syncE else 0
def Jl.seg (j : Jl) : List UInt8 := segF j.name (j.es.length / j.per)
def Jl.put (j : Jl) (x : Option Ev) : Jl :=
  if j.preE ≠ 0 then j.pre
  else if j.pre.dk.appendE j.seg (sealE x) ≠ 0 then { j.pre with dk := j.pre.dk.append j.seg (sealE x), stuck := j.pre.dk.appendE j.seg (sealE x) }
  else { j.pre with dk := j.pre.dk.append j.seg (sealE x), files := j.es.length / j.per + 1, es := j.es ++ [x] }
def Jl.putE (j : Jl) (x : Option Ev) : Int := if j.preE ≠ 0 then j.preE else j.pre.dk.appendE j.seg (sealE x)
/-- events, one behind another, up to the first error -/
def Jl.puts : Jl → List Ev → Jl
  | j, [] => j
  | j, e :: l => if j.putE (some e) ≠ 0 then j.put (some e) else (j.put (some e)).puts l
def Jl.putsE : Jl → List Ev → Int
  | _, [] => 0
  | j, e :: l => if j.putE (some e) ≠ 0 then j.putE (some e) else (j.put (some e)).putsE l
theorem Jl.puts_append (b : List Ev) : ∀ (a : List Ev) (j : Jl), j.putsE a = 0 → j.puts (a ++ b) = (j.puts a).puts b ∧ j.putsE (a ++ b) = (j.puts a).putsE b
  | [], _, _ => ⟨rfl, rfl⟩
  | e :: a, j, h => by
    unfold Jl.putsE at h
    by_cases h0 : j.putE (some e) ≠ 0
    · rw [if_pos h0] at h; exact absurd h h0
    · rw [if_neg h0] at h
      have ih := Jl.puts_append b a (j.put (some e)) h
      simp only [List.cons_append, Jl.puts, Jl.putsE, if_neg h0]
      exact ih
theorem Jl.puts_snoc (j : Jl) (a : List Ev) (e : Ev) (h : j.putsE a = 0) : j.puts (a ++ [e]) = (j.puts a).put (some e) ∧ j.putsE (a ++ [e]) = (j.puts a).putE (some e) := by
  have := Jl.puts_append [e] a j h
  refine ⟨this.1.trans ?_, this.2.trans ?_⟩
  · simp only [Jl.puts]; split <;> rfl
  · simp only [Jl.putsE]; split
    · rfl
    · next h0 => exact (Decidable.not_not.1 h0).symm
/-- a journal at which nothing goes wrong -/
structure Jl.Fine (j : Jl) : Prop where
  dark : j.dk.lit = false
  up : j.dk.down = false
  free : j.stuck = 0
  per1 : 1 ≤ j.per
  nm : j.name.length ≤ 24
  used0 : 0 ≤ j.dk.used
  used : j.dk.used ≤ 1300 * j.es.length
  fl : j.dk.files.length ≤ j.es.length + 1
  here : j.files ≠ 0 → (getB j.dk.files j.last).isSome = true
  small : j.files ≤ j.es.length + 1
theorem Jl.Fine.sync {j : Jl} (h : j.Fine) (hn : j.es.length < 100) : j.sync.Fine ∧ j.syncE = 0 ∧ j.sync.es = j.es ∧ j.sync.name = j.name ∧ j.sync.per = j.per ∧ j.sync.files = j.files ∧ j.sync.dk.used = j.dk.used := by
  unfold Jl.sync Jl.syncE
  by_cases h0 : j.files = 0
  · simp only [if_pos h0]; exact ⟨h, trivial, trivial, trivial, trivial, trivial, trivial⟩
  · have hs := h.small
    have hl := segF_len j.name (k := j.files - 1) (by omega)
    have ha : j.dk.asked j.last = 0 := Dk.asked_fine h.up hl.1 (by have := h.nm; unfold Jl.last; omega)
    have hf : j.dk.found j.last = 0 := by
      unfold Dk.found
      rw [ha, if_neg (by simp)]
      have := h.here h0
      rw [if_neg (by cases hg : getB j.dk.files j.last with | none => rw [hg] at this; cases this | some _ => simp)]
    have ⟨e1, e2⟩ := Dk.step_dark h.dark
    have hE : j.dk.syncE j.last = 0 := by unfold Dk.syncE; rw [if_neg (by simp [hf]), e2]; rfl
    simp only [if_neg h0]
    rw [if_neg (by simp [hE])]
    have hd : j.dk.sync j.last = j.dk.put j.last { j.dk.file j.last with lasts := (j.dk.file j.last).data.length, stays := true } := by
      unfold Dk.sync; rw [if_neg (by simp [hf]), e2, e1]; rfl
    refine ⟨⟨?_, ?_, h.free, h.per1, h.nm, ?_, ?_, ?_, ?_, h.small⟩, hE, rfl, rfl, rfl, rfl, ?_⟩
    · rw [hd]; exact h.dark
    · rw [hd]; exact h.up
    · rw [hd]; exact h.used0
    · rw [hd]; exact h.used
    · rw [hd]
      show (putB j.last _ j.dk.files).length ≤ j.es.length + 1
      exact Nat.le_trans (putB_length_here _ (h.here h0)) h.fl
    · intro _
      rw [hd]
      show (getB (putB j.last _ j.dk.files) j.last).isSome = true
      rw [getB_put_same]; rfl
    · rw [hd]; rfl
theorem Jl.Fine.pre {j : Jl} (h : j.Fine) (hn : j.es.length < 100) : j.pre.Fine ∧ j.preE = 0 ∧ j.pre.es = j.es ∧ j.pre.name = j.name ∧ j.pre.per = j.per ∧ j.pre.files = j.files ∧ j.pre.dk.used = j.dk.used := by
  unfold Jl.pre Jl.preE
  split
  · exact h.sync hn
  · exact ⟨h, rfl, rfl, rfl, rfl, rfl, rfl⟩
theorem Jl.Fine.put {j : Jl} (h : j.Fine) (hn : j.es.length < 100) (x : Option Ev) (hx : (bytesE x).length ≤ 1229) :
    (j.put x).Fine ∧ j.putE x = 0 ∧ (j.put x).es = j.es ++ [x] ∧ (j.put x).name = j.name ∧ (j.put x).per = j.per := by
  obtain ⟨hp, e0, e1, e2, e3, e4, e5⟩ := h.pre hn
  have hk : j.es.length / j.per ≤ j.es.length := Nat.div_le_self _ _
  have hl := segF_len j.name (k := j.es.length / j.per) (by omega)
  have hnm := h.nm
  have ha : j.pre.dk.asked j.seg = 0 := Dk.asked_fine hp.up hl.1 (by unfold Jl.seg; omega)
  have hsl : (sealE x).length ≤ 1239 := by unfold sealE; rw [Frm.sealB_length]; omega
  have hu := h.used
  have hfl := hp.fl
  rw [e1] at hfl
  have hfull : j.pre.dk.fullB j.seg (sealE x).length = false := by
    unfold Dk.fullB
    rw [Bool.or_eq_false_iff]
    refine ⟨?_, ?_⟩
    · rw [decide_eq_false_iff_not, e5]; omega
    · rw [Bool.and_eq_false_iff]; right; rw [decide_eq_false_iff_not]; omega
  have hE : j.pre.dk.appendE j.seg (sealE x) = 0 := by
    unfold Dk.appendE
    rw [if_neg (by simp [ha]), hfull, (Dk.step_dark hp.dark).2]; rfl
  have hd : j.pre.dk.append j.seg (sealE x) = { j.pre.dk.put j.seg { j.pre.dk.file j.seg with data := (j.pre.dk.file j.seg).data ++ sealE x } with used := j.pre.dk.used + (sealE x).length } := by
    unfold Dk.append
    rw [if_neg (by simp [ha]), hfull]
    exact (Dk.step_dark (d := { j.pre.dk.put j.seg { j.pre.dk.file j.seg with data := (j.pre.dk.file j.seg).data ++ sealE x } with used := j.pre.dk.used + (sealE x).length }) hp.dark).1
  have hput : j.put x = { j.pre with dk := j.pre.dk.append j.seg (sealE x), files := j.es.length / j.per + 1, es := j.es ++ [x] } := by
    unfold Jl.put
    rw [if_neg (by simp [e0]), if_neg (by simp [hE])]
  have hputE : j.putE x = 0 := by unfold Jl.putE; rw [if_neg (by simp [e0])]; exact hE
  refine ⟨?_, hputE, ?_, ?_, ?_⟩
  · rw [hput, hd]
    refine ⟨hp.dark, hp.up, hp.free, hp.per1, ?_, ?_, ?_, ?_, ?_, ?_⟩
    · show j.pre.name.length ≤ 24
      exact hp.nm
    · show 0 ≤ j.pre.dk.used + _
      have := hp.used0
      omega
    · show j.pre.dk.used + _ ≤ 1300 * _
      rw [e5]; simp only [List.length_append, List.length_cons, List.length_nil]; omega
    · show (putB j.seg _ j.pre.dk.files).length ≤ (j.es ++ [x]).length + 1
      refine Nat.le_trans (putB_length_le j.pre.dk.files j.seg _) ?_
      simp only [List.length_append, List.length_cons, List.length_nil]; omega
    · intro _
      show (getB (putB j.seg _ j.pre.dk.files) (segF j.pre.name (j.es.length / j.per + 1 - 1))).isSome = true
      have : segF j.pre.name (j.es.length / j.per + 1 - 1) = j.seg := by unfold Jl.seg; rw [e2]; rfl
      rw [this, getB_put_same]; rfl
    · show j.es.length / j.per + 1 ≤ (j.es ++ [x]).length + 1
      simp only [List.length_append, List.length_cons, List.length_nil]; omega
  · rw [hput]
  · rw [hput]; exact e2
  · rw [hput]; exact e3
theorem Jl.Fine.puts (l : List Ev) : ∀ {j : Jl}, j.Fine → j.es.length + l.length ≤ 100 → (∀ e ∈ l, (encE e).length ≤ 1229) → (j.puts l).Fine ∧ j.putsE l = 0 ∧ (j.puts l).es = j.es ++ l.map some ∧ (j.puts l).name = j.name ∧ (j.puts l).per = j.per := by
  induction l with
  | nil => intro j h _ _; exact ⟨h, rfl, by simp [Jl.puts], rfl, rfl⟩
  | cons e l ih =>
    intro j h hn hl
    simp only [List.length_cons] at hn
    obtain ⟨h1, h2, h3, h4, h5⟩ := h.put (by omega) (some e) (hl e (by simp))
    obtain ⟨a, b, c, d, f⟩ := ih h1 (by rw [h3]; simp; omega) (fun x hx => hl x (by simp [hx]))
    have h0 : ¬ j.putE (some e) ≠ 0 := by simp [h2]
    simp only [Jl.puts, Jl.putsE, if_neg h0]
    refine ⟨a, b, ?_, d.trans h4, f.trans h5⟩
    rw [c, h3]; simp
theorem Jl.fine_new (s : List UInt8) (per : Nat) (h : s.length ≤ 24) (hp : 1 ≤ per) : (Jl.new Dk.new s per).Fine :=
  ⟨rfl, rfl, rfl, hp, h, by simp [Jl.new, Dk.new], by simp [Jl.new, Dk.new], by simp [Jl.new, Dk.new], fun h => absurd rfl h, by simp [Jl.new]⟩
end Go.Proofs.YtgbagjpokpchpaaGreatDoor
