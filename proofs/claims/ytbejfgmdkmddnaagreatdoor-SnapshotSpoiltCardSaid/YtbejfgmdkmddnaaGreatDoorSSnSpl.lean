/-
  Layer 30, plain: a text in frames that is cut off, or has another byte.
-/
import Derived.Test.YtbejfgmdkmddnaaGreatDoorSSnSv
import Derived.Test.YtbejfgmdkmddnaaGreatDoorSSnLd
namespace Go.Proofs.YtbejfgmdkmddnaaGreatDoor
open Go.RowKit

theorem allB_turned : ∀ (l : List (List UInt8)), (∀ p ∈ l, p.length ≤ 65536) → ∀ (i : Nat) (y : UInt8), i < (Frm.catB l).length → y ≠ (Frm.catB l).getD i 0 → (Frm.allB ((Frm.catB l).set i y)).2.2 = 2
  | [], _, i, y, hi, _ => by simp [Frm.catB] at hi
  | p :: l, hp, i, y, hi, hy => by
    have hpl := hp p (by simp)
    have e : Frm.catB (p :: l) = Frm.sealB p ++ Frm.catB l := rfl
    rw [e] at hi hy ⊢
    by_cases h : i < (Frm.sealB p).length
    · rw [List.set_append_left _ _ h]
      have h2 : i < p.length + 10 := by rw [Frm.sealB_length] at h; exact h
      have h3 := Frm.openB_turned p (Frm.catB l) hpl i h2 y (by
        intro e2
        apply hy
        rw [e2]
        simp only [List.getD_eq_getElem?_getD]
        rw [List.getElem?_append_left h])
      have hne : (Frm.sealB p).set i y ++ Frm.catB l ≠ [] := by
        intro hc
        have := congrArg List.length hc
        simp only [List.length_append, List.length_set, List.length_nil] at this
        omega
      rw [Frm.allB_stop _ hne (by rw [h3]; simp), h3]
    · have h' : (Frm.sealB p).length ≤ i := by omega
      rw [List.set_append_right _ _ h', Frm.allB_cons p _ hpl]
      refine allB_turned l (fun x hx => hp x (by simp [hx])) _ y (by rw [List.length_append] at hi; omega) ?_
      intro e2
      apply hy
      rw [e2]
      simp only [List.getD_eq_getElem?_getD]
      rw [List.getElem?_append_right h']

theorem chunks_ne (f : Nat) : ∀ (l : List UInt8), ∀ p ∈ chunks f l, p ≠ [] := by
  induction f with
  | zero => intro l p hp; simp [chunks] at hp
  | succ f ih =>
    intro l p hp
    unfold chunks at hp
    split at hp
    · simp at hp
    · rename_i h
      rcases List.mem_cons.1 hp with rfl | hp
      · intro e
        have h2 := congrArg List.length e
        have := List.length_pos_iff.2 h
        rw [List.length_take, List.length_nil] at h2; omega
      · exact ih _ p hp
theorem whole_ex (ls : List (List UInt8)) (cut : Nat) : ∀ k, k ≤ ls.length → ∃ W, W ≤ k ∧ Frm.endB ls W ≤ cut ∧ (W < k → cut < Frm.endB ls (W + 1)) := by
  intro k
  induction k with
  | zero => intro _; exact ⟨0, Nat.le_refl _, by rw [Frm.endB_zero]; omega, fun h => absurd h (by omega)⟩
  | succ k ih =>
    intro hk
    obtain ⟨W, h1, h2, h3⟩ := ih (by omega)
    by_cases hW : W < k
    · exact ⟨W, by omega, h2, fun _ => h3 hW⟩
    · obtain rfl : W = k := by omega
      by_cases hc : Frm.endB ls (W + 1) ≤ cut
      · exact ⟨W + 1, Nat.le_refl _, hc, fun h => absurd h (by omega)⟩
      · exact ⟨W, by omega, h2, fun _ => by omega⟩
/-- a text in frames, cut off -/
theorem pieces_cut {T : List UInt8} (h : (snD T).ok = true) {at_ : Nat} (ha : at_ < (piecesB T).length) :
    (Frm.allB ((piecesB T).take at_)).2.2 = 1 ∨ ((Frm.allB ((piecesB T).take at_)).2.2 = 0 ∧ (Frm.allB ((piecesB T).take at_)).1.flatten.length ≤ T.length ∧ (snD (Frm.allB ((piecesB T).take at_)).1.flatten).ok = false) := by
  have hend : Frm.endB (chunksB T) (chunksB T).length = (piecesB T).length := by unfold Frm.endB piecesB; rw [List.take_length]
  obtain ⟨W, h1, h2, h3⟩ := whole_ex (chunksB T) at_ (chunksB T).length (Nat.le_refl _)
  have hWl : W < (chunksB T).length := by
    rcases Nat.lt_or_ge W (chunksB T).length with h' | h'
    · exact h'
    · have : W = (chunksB T).length := by omega
      rw [this, hend] at h2; omega
  have hr := Frm.allB_rows (chunksB T) (chunksB_le T) at_ W h1 h2 h3 (by omega)
  have hr' : Frm.allB ((piecesB T).take at_) = ((chunksB T).take W, Frm.endB (chunksB T) W, if Frm.endB (chunksB T) W = at_ then 0 else 1) := hr
  rw [hr']
  by_cases he : Frm.endB (chunksB T) W = at_
  · right
    have hT : ((chunksB T).take W).flatten ++ ((chunksB T).drop W).flatten = T := by
      rw [← List.flatten_append, List.take_append_drop, chunksB_flat]
    refine ⟨if_pos he, ?_, ?_⟩
    · have := congrArg List.length hT
      rw [List.length_append] at this
      show ((chunksB T).take W).flatten.length ≤ T.length
      omega
    · show (snD ((chunksB T).take W).flatten).ok = false
      cases hq : (snD ((chunksB T).take W).flatten).ok with
      | false => rfl
      | true =>
        have h5 := snD_app hq ((chunksB T).drop W).flatten
        rw [hT, h] at h5
        have h6 : ((chunksB T).drop W).flatten = [] := List.isEmpty_iff.1 h5.symm
        have h7 : (chunksB T)[W] ∈ (chunksB T).drop W := by
          rw [List.drop_eq_getElem_cons hWl]; exact List.mem_cons_self
        have h8 := chunks_ne _ T _ (show (chunksB T)[W] ∈ chunks T.length T from List.getElem_mem hWl)
        exact absurd (List.flatten_eq_nil_iff.1 h6 _ h7) h8
  · left; exact if_neg he
theorem pieces_turned {T : List UInt8} {at_ : Nat} (ha : at_ < (piecesB T).length) {y : UInt8} (hy : y ≠ (piecesB T).getD at_ 0) : (Frm.allB ((piecesB T).set at_ y)).2.2 = 2 :=
  allB_turned _ (chunksB_le T) at_ y ha hy
end Go.Proofs.YtbejfgmdkmddnaaGreatDoor
