/-
  Plain: groups of seven bits.
  Layer 2, plain: an event's bytes.
  Plain: how long the texts of an event that may be are.
-/
import Derived.Test.YtgbagjpokpchpaaGreatDoorFBytes
import Derived.Test.YtgbagjpokpchpaaGreatDoorFEv
import Derived.Test.YtgbagjpokpchpaaGreatDoorFEvMay
namespace Go.Proofs.YtgbagjpokpchpaaGreatDoor

/-- groups of seven bits -/
def numB (n : Nat) : List UInt8 := if n < 128 then [UInt8.ofNat n] else UInt8.ofNat (n % 128 + 128) :: numB (n / 128)
termination_by n
decreasing_by omega
theorem numB_lo {n : Nat} (h : n < 128) : numB n = [UInt8.ofNat n] := by rw [numB, if_pos h]
theorem numB_hi {n : Nat} (h : ¬ n < 128) : numB n = UInt8.ofNat (n % 128 + 128) :: numB (n / 128) := by rw [numB, if_neg h]
theorem numB_len (n : Nat) : (numB n).length ≤ n + 1 := by
  induction n using Nat.strongRecOn with
  | _ n ih =>
    by_cases h : n < 128
    · rw [numB_lo h]; simp
    · rw [numB_hi h]; have := ih (n / 128) (by omega); simp; omega
theorem numB_short {n : Nat} (h : n < 72057594037927936) : (numB n).length ≤ 8 := by
  have key : ∀ k n, n < 128 ^ (k + 1) → (numB n).length ≤ k + 1 := fun k => by
    induction k with
    | zero => intro n h; rw [numB_lo (by simpa using h)]; simp
    | succ k ih =>
      intro n h
      by_cases h1 : n < 128
      · rw [numB_lo h1]; simp
      · rw [numB_hi h1]
        have := ih (n / 128) (by rw [Nat.div_lt_iff_lt_mul (by omega)]; rw [Nat.pow_succ] at h; exact h)
        simp; omega
  exact key 7 n (by simpa using h)
end Go.Proofs.YtgbagjpokpchpaaGreatDoor
namespace Go.Proofs.YtgbagjpokpchpaaGreatDoor

/-- a text with its length ahead -/
def textB (s : List UInt8) : List UInt8 := UInt8.ofNat s.length :: s
/-- an event's bytes -/
def encE (e : Ev) : List UInt8 :=
  UInt8.ofNat e.kind.toNat :: (textB e.src ++ numB e.num.toNat ++ numB e.at_.toNat ++ textB e.per ++ textB e.item ++ numB e.val.toNat ++ textB e.text)
theorem encE_len {e : Ev} (h1 : e.src.length ≤ 300) (h2 : e.per.length ≤ 300) (h3 : e.item.length ≤ 300) (h4 : e.text.length ≤ 300) (n1 : e.num ≤ 1099511627776) (n2 : e.at_ ≤ 1099511627776) (n3 : e.val ≤ 1099511627776) : (encE e).length ≤ 1229 := by
  have a := numB_short (n := e.num.toNat) (by omega)
  have b := numB_short (n := e.at_.toNat) (by omega)
  have c := numB_short (n := e.val.toNat) (by omega)
  unfold encE textB
  simp only [List.length_cons, List.length_append]
  omega
end Go.Proofs.YtgbagjpokpchpaaGreatDoor
namespace Go.Proofs.YtgbagjpokpchpaaGreatDoor
open Go.RowKit

theorem nameB_len {l : List UInt8} (h : nameB l = true) : 1 ≤ l.length ∧ l.length ≤ 24 := by
  unfold nameB at h
  simp only [Bool.and_eq_true, decide_eq_true_eq] at h
  exact ⟨h.1.1, h.1.2⟩
theorem splitB_len (c : UInt8) : ∀ (k : Nat) (s : ByteArray), (∀ t ∈ Lib.splitB ⟨#[c]⟩ 0 k s, t.size ≤ 24) → s.size + 1 ≤ 25 * (Lib.splitB ⟨#[c]⟩ 0 k s).length
  | 0, s, h => by
    rw [Lib.splitB_zero] at h ⊢
    have := h s (by simp)
    simp; omega
  | k + 1, s, h => by
    rcases Lib.indexB_cases s ⟨#[c]⟩ with hi | ⟨i, hi, hle⟩
    · rw [Lib.splitB_miss _ _ _ _ hi] at h ⊢
      have := h s (by simp)
      simp; omega
    · rw [Lib.splitB_hit _ _ _ _ _ hi] at h ⊢
      have h1 := h _ (List.mem_cons_self ..)
      have ih := splitB_len c k (s.extract (i + (⟨#[c]⟩ : ByteArray).size) s.size) (fun t ht => h t (List.mem_cons_of_mem _ ht))
      have hc : (⟨#[c]⟩ : ByteArray).size = 1 := rfl
      rw [hc] at hle ih h ⊢
      simp only [ByteArray.size_extract, List.length_cons] at h1 ih ⊢
      omega
theorem listing_len {s : List UInt8} (h : listingB s = true) : s.length ≤ 224 := by
  unfold listingB at h
  simp only [Bool.and_eq_true, decide_eq_true_eq] at h
  obtain ⟨⟨⟨h1, h2⟩, h3⟩, h4⟩ := h
  have hm := (nameB_len h2).2
  unfold Lib.cut at h1 hm
  by_cases hi : 0 ≤ Lib.index s [59]
  · rw [if_pos hi] at hm
    change (s.take _).length ≤ 24 at hm
    have hlen : s.length ≤ (s.take (Lib.index s [59]).toNat).length + 1 + (restL s).length := by
      unfold restL Lib.cut
      rw [if_pos hi]; simp; omega
    have hr : (restL s).length ≤ 199 := by
      unfold tagsL at h3 h4
      by_cases he : (restL s).isEmpty
      · rw [List.isEmpty_iff.1 he]; simp
      · rw [if_neg he] at h3 h4
        have key := splitB_len 44 (Lib.countB ⟨(restL s).toArray⟩ ⟨#[44]⟩) ⟨(restL s).toArray⟩ (fun t ht => by
          obtain ⟨k, hk, e⟩ := List.getElem_of_mem ht
          unfold tagsB at h4
          rw [List.all_eq_true] at h4
          have := h4 k (by simpa using hk)
          unfold tagB at this
          have h5 : nameB ((List.map (fun b : ByteArray => b.data.toList) (Lib.splitB ⟨#[44]⟩ 0 (Lib.countB ⟨(restL s).toArray⟩ ⟨#[44]⟩) ⟨(restL s).toArray⟩)).getD k []) = true := by
            simp only [Bool.and_eq_true] at this; exact this.1
          have h6 := (nameB_len h5).2
          simp only [List.getD, List.getElem?_map, List.getElem?_eq_getElem hk, Option.map_some, Option.getD_some, e] at h6
          show t.data.size ≤ 24
          rw [← Array.length_toList]; exact h6)
        have hs : (⟨(restL s).toArray⟩ : ByteArray).size = (restL s).length := by simp [ByteArray.size]
        rw [hs] at key
        simp only [List.length_map] at h3
        omega
    omega
  · rw [if_neg hi] at h1; simp at h1
structure Ev.Fit (e : Ev) : Prop where
  src : e.src.length ≤ 24
  per : e.per.length ≤ 24
  item : e.item.length ≤ 24
  text : e.text.length ≤ 224
  num0 : 1 ≤ e.num
  num1 : e.num ≤ 1099511627776
  at0 : 0 ≤ e.at_
  at1 : e.at_ ≤ 1099511627776
  val0 : 0 ≤ e.val
  val1 : e.val ≤ 1048576
  kind0 : 0 ≤ e.kind
  kind1 : e.kind ≤ 14
theorem empty_len {l : List UInt8} (h : l.isEmpty = true) : l.length = 0 := by rw [List.isEmpty_iff.1 h]; rfl
theorem mayB_fit {e : Ev} (h : mayB e = true) : e.Fit := by
  unfold mayB at h
  rw [Bool.and_eq_true] at h
  obtain ⟨hh, ht⟩ := h
  unfold headB at hh
  simp only [Bool.and_eq_true, decide_eq_true_eq] at hh
  obtain ⟨⟨⟨⟨a1, a2⟩, a3⟩, a4⟩, a5⟩ := hh
  have hs := (nameB_len a1).2
  have key : e.per.length ≤ 24 ∧ e.item.length ≤ 24 ∧ e.text.length ≤ 224 ∧ 0 ≤ e.val ∧ e.val ≤ 1048576 ∧ 0 ≤ e.kind ∧ e.kind ≤ 14 := by
    unfold tailB at ht
    have hk : e.kind = 0 ∨ e.kind = 1 ∨ e.kind = 2 ∨ e.kind = 3 ∨ e.kind = 4 ∨ e.kind = 5 ∨ e.kind = 6 ∨ e.kind = 7 ∨ e.kind = 8 ∨ e.kind = 9 ∨ e.kind = 10 ∨ e.kind = 11 ∨ e.kind = 12 ∨ e.kind = 13 ∨ e.kind = 14 ∨ ¬ (0 ≤ e.kind ∧ e.kind ≤ 14) := by omega
    have n1 := fun h : nameB e.per = true => (nameB_len h).2
    have n2 := fun h : nameB e.item = true => (nameB_len h).2
    have n3 := fun h : nameB e.text = true => (nameB_len h).2
    have n4 := fun h : listingB e.text = true => listing_len h
    rcases hk with k | k | k | k | k | k | k | k | k | k | k | k | k | k | k | k
    case inr.inr.inr.inr.inr.inr.inr.inr.inr.inr.inr.inr.inr.inr.inr =>
      rw [if_neg (by omega), if_neg (by omega), if_neg (by omega), if_neg (by omega), if_neg (by omega), if_neg (by omega), if_neg (by omega), if_neg (by omega), if_neg (by omega), if_neg (by omega), if_neg (by omega), if_neg (by omega), if_neg (by omega), if_neg (by omega), if_neg (by omega)] at ht
      cases ht
    all_goals (
      simp [k] at ht
      simp only [ht, forall_const, List.length_nil] at n1 n2 n3 n4
      simp only [ht, k, List.length_nil]
      first | omega | (simp; omega) | (simp_all; omega))
  exact ⟨hs, key.1, key.2.1, key.2.2.1, a2, a3, a4, a5, key.2.2.2.1, key.2.2.2.2.1, key.2.2.2.2.2.1, key.2.2.2.2.2.2⟩
theorem Ev.Fit.small {e : Ev} (h : e.Fit) : e.small := ⟨by have := h.src; omega, by have := h.per; omega, by have := h.item; omega, by have := h.text; omega⟩
theorem Ev.Fit.len {e : Ev} (h : e.Fit) : (encE e).length ≤ 1229 := encE_len (by have := h.src; omega) (by have := h.per; omega) (by have := h.item; omega) (by have := h.text; omega) h.num1 h.at1 (by have := h.val1; omega)
end Go.Proofs.YtgbagjpokpchpaaGreatDoor
