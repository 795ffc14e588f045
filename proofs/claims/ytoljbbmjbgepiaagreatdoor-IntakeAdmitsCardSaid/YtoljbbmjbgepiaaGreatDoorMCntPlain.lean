/-
  Layer 7, plain: how many numbers are had.
-/
import Derived.Test.YtoljbbmjbgepiaaGreatDoorMUniPlain
import Derived.Test.YtoljbbmjbgepiaaGreatDoorMRowK
namespace Go.Proofs.YtoljbbmjbgepiaaGreatDoor
open Go.RowKit Go.Maps Go.Sort

def cntR (rs : Rg) : Int := (rs.map fun r => r.2 - r.1).sum
theorem cntR_append (a b : Rg) : cntR (a ++ b) = cntR a + cntR b := by unfold cntR; rw [List.map_append, List.sum_append]
theorem cntR_cons (r : Int × Int) (b : Rg) : cntR (r :: b) = (r.2 - r.1) + cntR b := by unfold cntR; rw [List.map_cons, List.sum_cons]
theorem cntR_put {rs : Rg} (h : RgOk rs) {n : Int} (hn : hasR rs n = false) : cntR (putR rs n) = cntR rs + 1 := by
  obtain ⟨A, B, a, b, _, hc, _⟩ := putR_parts h hn
  rcases hc with ⟨h1, h2⟩ | ⟨h1, h2⟩ | ⟨h1, h2⟩ | ⟨h1, h2⟩
  all_goals
    rw [h2]
    conv => rhs; rw [h1]
    simp only [cntR_append, cntR_cons]
    omega
theorem cntR_nonneg {rs : Rg} (h : ∀ r ∈ rs, r.1 < r.2) : 0 ≤ cntR rs := by
  induction rs with
  | nil => exact Int.le_refl _
  | cons r rs ih =>
    rw [cntR_cons]
    have := h r (by simp)
    have := ih (fun q hq => h q (by simp [hq]))
    omega
def cntH (m : Had) : Int := (m.map fun p => cntR p.2).sum
/-- of the rows that were gone through -/
def cntT (todo : List UInt8 → Bool) (m : Had) : Int := (m.map fun p => if todo p.1 then 0 else cntR p.2).sum
def cntK (k : List UInt8) (m : Had) : Int := (m.map fun p => if p.1 == k then cntR p.2 else 0).sum
theorem cntK_none {k : List UInt8} {m : Had} (h : ∀ p ∈ m, p.1 ≠ k) : cntK k m = 0 := by
  unfold cntK
  induction m with
  | nil => rfl
  | cons p m ih =>
    rw [List.map_cons, List.sum_cons, ih (fun q hq => h q (by simp [hq]))]
    have := h p (by simp)
    simp [this]
theorem cntK_row {k : List UInt8} : ∀ {m : Had}, RowUp m → cntK k m = cntR (hadRow m k)
  | [], _ => rfl
  | p :: m, h => by
    have hp := List.pairwise_cons.1 h
    have e : cntK k (p :: m) = (if p.1 == k then cntR p.2 else 0) + cntK k m := by unfold cntK; rw [List.map_cons, List.sum_cons]
    rw [e]
    by_cases hk : p.1 = k
    · have h0 : cntK k m = 0 := cntK_none fun q hq e' => by
        have h1 := hp.1 q hq
        rw [e', ← hk] at h1
        rw [bb_irrefl] at h1
        exact absurd h1 (by simp)
      have h1 : hadRow (p :: m) k = p.2 := by unfold hadRow getB; simp [hk]
      rw [h0, h1, if_pos (by simpa using hk)]; omega
    · have h1 : hadRow (p :: m) k = hadRow m k := by
        unfold hadRow getB
        rw [List.find?_cons_of_neg (by simpa using hk)]
      rw [h1, if_neg (by simpa using hk), cntK_row hp.2]; omega
theorem cntT_step {todo : List UInt8 → Bool} {k : List UInt8} {m : Had} (h : RowUp m) (ht : todo k = true) : cntT (fun x => todo x && !(x == k)) m = cntT todo m + cntR (hadRow m k) := by
  rw [← cntK_row h]
  unfold cntT cntK
  clear h
  induction m with
  | nil => rfl
  | cons p m ih =>
    simp only [List.map_cons, List.sum_cons, ih]
    by_cases hk : p.1 = k
    · subst hk; simp [ht]; omega
    · have h1 : (p.1 == k) = false := by simpa using hk
      simp only [h1, Bool.not_false, Bool.and_true]
      split <;> simp <;> omega
theorem cntT_start (m : Had) : cntT (fun k => (getB m k).isSome) m = 0 := by
  unfold cntT
  have key : ∀ l : Had, (∀ p ∈ l, p ∈ m) → (l.map fun p => if (getB m p.1).isSome then 0 else cntR p.2).sum = 0 := fun l => by
    induction l with
    | nil => exact fun _ => rfl
    | cons p l ih =>
      intro h
      rw [List.map_cons, List.sum_cons, ih (fun q hq => h q (by simp [hq]))]
      have h1 : (getB m p.1).isSome = true := by
        unfold getB
        rw [Option.isSome_map, List.find?_isSome]
        exact ⟨p, h p (by simp), by simp⟩
      rw [if_pos h1]; rfl
  exact key m fun _ h => h
theorem cntT_end {todo : List UInt8 → Bool} (m : Had) (h : ∀ k, todo k = false) : cntT todo m = cntH m := by
  unfold cntT cntH
  congr 1
  exact List.map_congr_left fun p _ => by rw [h]; rfl
theorem cntT_le {todo : List UInt8 → Bool} {m : Had} (h : HadOk m) : cntT todo m ≤ cntH m ∧ 0 ≤ cntT todo m := by
  have h' : ∀ p ∈ m, 0 ≤ cntR p.2 := fun p hp => cntR_nonneg fun r hr => ((h.each p hp).2.1.each r hr).2.1
  clear h
  unfold cntT cntH
  induction m with
  | nil => exact ⟨Int.le_refl _, Int.le_refl _⟩
  | cons p m ih =>
    obtain ⟨h1, h2⟩ := ih fun q hq => h' q (by simp [hq])
    have := h' p (by simp)
    simp only [List.map_cons, List.sum_cons]
    split <;> omega
theorem cntH_ins (x : List UInt8 × Rg) : ∀ m : Had, cntH (insB x m) = cntR x.2 + cntH m
  | [] => by unfold cntH insB; simp
  | z :: r => by
    unfold insB
    split
    · unfold cntH; simp
    · have := cntH_ins x r
      unfold cntH at *
      rw [List.map_cons, List.sum_cons, this, List.map_cons, List.sum_cons]; omega
theorem cntH_filter (k : List UInt8) (m : Had) : cntH (m.filter fun p => !(p.1 == k)) + cntK k m = cntH m := by
  unfold cntH cntK
  induction m with
  | nil => rfl
  | cons p m ih =>
    by_cases hk : p.1 = k
    · rw [List.filter_cons_of_neg (by simp [hk])]
      simp only [List.map_cons, List.sum_cons, if_pos (show (p.1 == k) = true by simpa using hk)]
      omega
    · rw [List.filter_cons_of_pos (by simpa using hk)]
      simp only [List.map_cons, List.sum_cons, if_neg (show ¬ (p.1 == k) = true by simpa using hk)]
      omega
theorem cntH_put {m : Had} (h : HadOk m) {s : List UInt8} {n : Int} (hp : putsB m s n = true) : cntH (putH m s n) = cntH m + 1 := by
  have hn : hasR (hadRow m s) n = false := by
    unfold putsB hadB at hp
    simp only [Bool.and_eq_true, Bool.not_eq_true'] at hp
    exact hp.2
  unfold putH putB
  rw [cntH_ins]
  have h1 := cntH_filter s m
  rw [cntK_row h.up] at h1
  have h2 := cntR_put (h.row s) hn
  simp only
  omega
end Go.Proofs.YtoljbbmjbgepiaaGreatDoor
