/-
  Layer 6: name.
-/
import Derived.Test.YtoljbbmjbgepiaaGreatDoorClkTick
import Derived.Laws.RangeAny
import Derived.Shelf.GgClosure.StringsIndexFuncTop
namespace Go.Proofs.YtoljbbmjbgepiaaGreatDoor
open Go.RowKit Go.Maps Go.Sort

/-- a rune that no name has -/
def oddR (r : Nat) : Bool := !((decide (97 ≤ r) && decide (r ≤ 122)) || (decide (48 ≤ r) && decide (r ≤ 57)) || decide (r = 45))

theorem name1_any (w : World) (r : Nat) : Calls Tryz.prog 125 #[.int .i32 r] w fun e w' => e = .returned (.bool (oddR r)) ∧ ∃ q, w' = w.drewN q := by
  have key : ∀ a b : Bool, oddR r = a → Calls Tryz.prog 125 #[.int .i32 r] w (fun e w' => e = .returned (.bool a) ∧ w = w') → Calls Tryz.prog 125 #[.int .i32 r] w fun e w' => e = .returned (.bool (oddR r)) ∧ ∃ q, w' = w.drewN q := fun a _ h hc => by
    rw [h]; exact hc.mono fun _ _ h => ⟨h.1, 0, h.2.symm⟩
  by_cases h1 : 97 ≤ r
  · have d1 : decide (97 ≤ (r : Int)) = true := decide_eq_true (by omega)
    by_cases h2 : r ≤ 122
    · have d2 : decide ((r : Int) ≤ 122) = true := decide_eq_true (by omega)
      refine key false false (by unfold oddR; simp [h1, h2]) ?_
      go_enter Tryz.func125, Tryz.ntmps125
      go_wp2
      go_ret
      exact ⟨rfl, rfl⟩
    · have d2 : decide ((r : Int) ≤ 122) = false := decide_eq_false (by omega)
      have d3 : decide (48 ≤ (r : Int)) = true := decide_eq_true (by omega)
      have d4 : decide ((r : Int) ≤ 57) = false := decide_eq_false (by omega)
      have d5 : ((r : Int) == 45) = false := by simp; omega
      refine key true false (by unfold oddR; simp; omega) ?_
      go_enter Tryz.func125, Tryz.ntmps125
      go_wp2
      go_ret
      exact ⟨rfl, rfl⟩
  · have d1 : decide (97 ≤ (r : Int)) = false := decide_eq_false (by omega)
    by_cases h3 : 48 ≤ r
    · have d3 : decide (48 ≤ (r : Int)) = true := decide_eq_true (by omega)
      by_cases h4 : r ≤ 57
      · have d4 : decide ((r : Int) ≤ 57) = true := decide_eq_true (by omega)
        refine key false false (by unfold oddR; simp; omega) ?_
        go_enter Tryz.func125, Tryz.ntmps125
        go_wp2
        go_ret
        exact ⟨rfl, rfl⟩
      · have d4 : decide ((r : Int) ≤ 57) = false := decide_eq_false (by omega)
        have d5 : ((r : Int) == 45) = false := by simp; omega
        refine key true false (by unfold oddR; simp; omega) ?_
        go_enter Tryz.func125, Tryz.ntmps125
        go_wp2
        go_ret
        exact ⟨rfl, rfl⟩
    · have d3 : decide (48 ≤ (r : Int)) = false := decide_eq_false (by omega)
      by_cases h5 : r = 45
      · have d5 : ((r : Int) == 45) = true := by simp; omega
        refine key false false (by unfold oddR; simp; omega) ?_
        clear h5
        go_enter Tryz.func125, Tryz.ntmps125
        go_wp2
        go_ret
        exact ⟨rfl, rfl⟩
      · have d5 : ((r : Int) == 45) = false := by simp; omega
        refine key true false (by unfold oddR; simp; omega) ?_
        go_enter Tryz.func125, Tryz.ntmps125
        go_wp2
        go_ret
        exact ⟨rfl, rfl⟩

theorem idx_name (s : ByteArray) : ∀ (f pos : Nat), s.size ≤ pos + f → (Lib.idxFuncFrom oddR true s f pos = -1 ↔ ∀ j (h : j < s.size), pos ≤ j → nameC s[j] = true)
  | 0, pos, h => by
    simp only [Lib.idxFuncFrom, true_iff]
    intro j hj hp; omega
  | f + 1, pos, h => by
    unfold Lib.idxFuncFrom
    by_cases hlt : pos < s.size
    · rw [if_pos hlt]
      by_cases ha : s[pos].toNat < 128
      · have hd := decode_ascii s pos hlt ha
        rw [hd]
        simp only
        have hodd : oddR s[pos].toNat = !nameC s[pos] := by unfold oddR nameC; rfl
        rw [hodd]
        cases hc : nameC s[pos]
        · simp only [Bool.not_false, if_true]
          constructor
          · intro h'; omega
          · intro h'; have := h' pos hlt (Nat.le_refl _); rw [hc] at this; cases this
        · simp only [Bool.not_true, Bool.false_eq_true, if_false]
          rw [idx_name s f (pos + 1) (by omega)]
          constructor
          · intro h' j hj hp
            by_cases e : j = pos
            · subst e; exact hc
            · exact h' j hj (by omega)
          · intro h' j hj hp; exact h' j hj (by omega)
      · have hd := (decode_high s pos hlt (by omega)).1
        have hodd : oddR (Utf8.decode s pos).1 = true := by unfold oddR; simp; omega
        rw [if_pos hodd]
        constructor
        · intro h'; omega
        · intro h'
          have := h' pos hlt (Nat.le_refl _)
          unfold nameC at this
          simp at this
          omega
    · rw [if_neg hlt]
      simp only [true_iff]
      intro j hj hp; omega
theorem idx_nameB (l : List UInt8) (h1 : 1 ≤ l.length) (h2 : l.length ≤ 24) : decide (Lib.idxFunc oddR true ⟨l.toArray⟩ < 0) = nameB l := by
  have key := idx_name ⟨l.toArray⟩ (ByteArray.size ⟨l.toArray⟩) 0 (by omega)
  have hr := Lib.idxFunc_range oddR true ⟨l.toArray⟩
  have hs : (⟨l.toArray⟩ : ByteArray).size = l.length := by simp [ByteArray.size]
  by_cases hn : nameB l = true
  · rw [hn]
    refine decide_eq_true ?_
    have : Lib.idxFunc oddR true ⟨l.toArray⟩ = -1 := key.2 fun j hj _ => by
      unfold nameB at hn
      simp only [Bool.and_eq_true, List.all_eq_true] at hn
      exact hn.2 l[j] (List.getElem_mem (by omega))
    omega
  · rw [Bool.not_eq_true] at hn
    rw [hn]
    refine decide_eq_false fun hlt => ?_
    have h' : Lib.idxFunc oddR true ⟨l.toArray⟩ = -1 := by omega
    have := key.1 h'
    rw [nameB_good h1 h2 (fun j hj => this j (by omega) (Nat.zero_le _))] at hn
    cases hn

theorem cname_any (w : World) (l : List UInt8) : Calls Tryz.prog 89 #[.string ⟨l.toArray⟩] w (Says (nameB l) w) := by
  by_cases h0 : l.length < 1
  · have HN := Lib.hid (nameB_short (.inl h0))
    go_enter Tryz.func89, Tryz.ntmps89
    go_wp2
    go_ret
    exact ⟨ret_bool HN.out.symm, Below.refl _ _⟩
  by_cases h24 : 24 < l.length
  · have HN := Lib.hid (nameB_short (.inr h24))
    go_enter Tryz.func89, Tryz.ntmps89
    go_wp2
    go_ret
    exact ⟨ret_bool HN.out.symm, Below.refl _ _⟩
  have d0 : decide ((l.length : Int) < 1) = false := decide_eq_false (by omega)
  have d1 : decide (24 < (l.length : Int)) = false := decide_eq_false (by omega)
  have HN := Lib.hid (idx_nameB l (by omega) (by omega))
  have hr := Lib.idxFunc_range oddR true ⟨l.toArray⟩
  go_enter Tryz.func89, Tryz.ntmps89
  go_wp2_with fail
  refine (Tryz.strings_IndexFunc 125 #[] (fun _ _ => by kernel_rfl) oddR ⟨l.toArray⟩ w (fun W x _ => name1_any W x)).mono ?_
  rintro e w1 ⟨rfl, hb⟩
  generalize Lib.idxFunc oddR true ⟨l.toArray⟩ = i at *
  clear hr
  go_wp2
  go_ret
  exact ⟨ret_bool HN.out, hb⟩
end Go.Proofs.YtoljbbmjbgepiaaGreatDoor
