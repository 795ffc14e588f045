/-
  Layer 5, plain: lists cut into segments; decimal digits.
-/
import Derived.Lib.ItoaNum
namespace Go.Proofs.YtejjfhhppjdcaaaGreatDoor
section
variable {α : Type}
/-- what stands in one segment -/
def segL (per k : Nat) (l : List α) : List α := (l.drop (k * per)).take per
/-- how many segments -/
def nseg (n per : Nat) : Nat := (n + per - 1) / per
theorem segL_length (per k : Nat) (l : List α) : (segL per k l).length = min per (l.length - k * per) := by simp [segL]
theorem segL_le (per k : Nat) (l : List α) : (segL per k l).length ≤ per := by rw [segL_length]; omega
theorem segL_take {per k m : Nat} (l : List α) (h : (k + 1) * per ≤ m) : segL per k (l.take m) = segL per k l := by
  rw [Nat.succ_mul] at h
  unfold segL
  rw [List.drop_take, List.take_take, Nat.min_eq_left (by omega)]
theorem segL_append {per k : Nat} (l r : List α) (h : (k + 1) * per ≤ l.length) : segL per k (l ++ r) = segL per k l := by
  rw [Nat.succ_mul] at h
  unfold segL
  rw [List.drop_append_of_le_length (by omega), List.take_append_of_le_length (by simp; omega)]
theorem segL_snoc {per : Nat} (hp : 1 ≤ per) (l : List α) (x : α) : segL per (l.length / per) (l ++ [x]) = segL per (l.length / per) l ++ [x] := by
  have h1 : l.length / per * per ≤ l.length := Nat.div_mul_le_self _ _
  have h2 : l.length < l.length / per * per + per := by
    have e := Nat.div_add_mod l.length per
    have := Nat.mod_lt l.length (show per > 0 by omega)
    rw [Nat.mul_comm] at e; omega
  unfold segL
  rw [List.drop_append_of_le_length h1]
  rw [List.take_of_length_le (by simp; omega), List.take_of_length_le (by simp; omega)]
theorem segL_nil (per k : Nat) (l : List α) (h : l.length ≤ k * per) : segL per k l = [] := by
  unfold segL; rw [List.drop_eq_nil_of_le h]; simp
theorem segL_last {per k : Nat} (l : List α) (h : l.length ≤ (k + 1) * per) : segL per k l = l.drop (k * per) := by
  rw [Nat.succ_mul] at h
  unfold segL; rw [List.take_of_length_le (by simp; omega)]
theorem segL_map {β : Type} (per k : Nat) (f : α → β) (l : List α) : segL per k (l.map f) = (segL per k l).map f := by
  unfold segL; rw [← List.map_drop, ← List.map_take]
theorem segL_succ (per k : Nat) (l : List α) : l.drop (k * per) = segL per k l ++ l.drop ((k + 1) * per) := by
  unfold segL
  rw [Nat.succ_mul, ← List.drop_drop, List.take_append_drop]
theorem segL_all (per : Nat) (l : List α) : ∀ k, (List.range k).flatMap (fun i => segL per i l) = l.take (k * per)
  | 0 => by simp
  | k + 1 => by
    rw [List.range_succ, List.flatMap_append, segL_all per l k, List.flatMap_singleton, segL]
    rw [Nat.succ_mul, List.take_add]
theorem nseg_le {n per : Nat} (hp : 1 ≤ per) : n ≤ nseg n per * per := by
  unfold nseg
  have e := Nat.div_add_mod (n + per - 1) per
  have := Nat.mod_lt (n + per - 1) (show per > 0 by omega)
  rw [Nat.mul_comm] at e; omega
theorem nseg_lt {n per : Nat} : nseg n per * per ≤ n + per - 1 := by
  unfold nseg; exact Nat.div_mul_le_self _ _
theorem nseg_snoc {n per : Nat} (hp : 1 ≤ per) : nseg (n + 1) per = n / per + 1 := by
  unfold nseg
  rw [show n + 1 + per - 1 = n + per by omega, Nat.add_div_right _ (by omega)]
theorem nseg_le_succ {n per : Nat} (hp : 1 ≤ per) : nseg n per ≤ n / per + 1 := by
  unfold nseg
  rw [← Nat.add_div_right _ (by omega : 0 < per)]
  exact Nat.div_le_div_right (by omega)
end
/-! ### decimal digits -/
open Lib
def decVal (l : List UInt8) : Nat := l.foldl (fun a c => a * 10 + (c.toNat - 48)) 0
theorem decVal_digits (k : Nat) : decVal (decDigits k) = k := by
  induction k using Nat.strongRecOn with
  | _ k ih =>
    by_cases h : k < 10
    · rw [decDigits, dif_pos h]; simp [decVal]; omega
    · have := ih (k / 10) (by omega)
      rw [decDigits, dif_neg h]
      unfold decVal at *
      rw [List.foldl_append, this]
      simp; omega
theorem decDigits_inj {k k' : Nat} (h : decDigits k = decDigits k') : k = k' := by rw [← decVal_digits k, h, decVal_digits]
theorem decDigits_ne (k : Nat) : decDigits k ≠ [] := by
  rw [decDigits]; split <;> simp
theorem decDigits_byte (k : Nat) : ∀ c ∈ decDigits k, 48 ≤ c.toNat ∧ c.toNat ≤ 57 := by
  induction k using Nat.strongRecOn with
  | _ k ih =>
    intro c hc
    by_cases h : k < 10
    · rw [decDigits, dif_pos h] at hc; simp at hc; subst hc; simp; omega
    · rw [decDigits, dif_neg h] at hc
      rcases List.mem_append.1 hc with hc | hc
      · exact ih (k / 10) (by omega) c hc
      · simp at hc; subst hc; simp; omega
/-- the name of a segment's file -/
def segF (s : List UInt8) (k : Nat) : List UInt8 := s ++ 46 :: decDigits k
theorem segF_inj {s : List UInt8} {k k' : Nat} (h : segF s k = segF s k') : k = k' := by
  unfold segF at h
  have := List.append_cancel_left h
  simp at this
  exact decDigits_inj this
theorem digits_two {k : Nat} (h : k < 100) : 1 ≤ (decDigits k).length ∧ (decDigits k).length ≤ 2 := by
  by_cases h1 : k < 10
  · rw [decDigits, dif_pos h1]; simp
  · rw [decDigits, dif_neg h1, decDigits, dif_pos (by omega)]; simp
theorem segF_len (s : List UInt8) {k : Nat} (h : k < 100) : 1 ≤ (segF s k).length ∧ (segF s k).length ≤ s.length + 3 := by
  have := digits_two h
  unfold segF; simp; omega
end Go.Proofs.YtejjfhhppjdcaaaGreatDoor
