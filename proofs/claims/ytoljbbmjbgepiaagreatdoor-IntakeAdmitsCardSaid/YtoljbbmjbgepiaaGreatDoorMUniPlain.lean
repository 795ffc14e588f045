/-
  Layer 7, plain: ranges of numbers.
  Layer 7, the document's, plain: the numbers of ranges.
  Layer 7, plain: the ranges of two rows; a set is told by what it has.
  Layer 7, plain: the bytes of a set.
-/
import Derived.Test.YtoljbbmjbgepiaaGreatDoorMRowK
import Derived.Test.YtoljbbmjbgepiaaGreatDoorMClkPlain
namespace Go.Proofs.YtoljbbmjbgepiaaGreatDoor
open Go.RowKit Go.Maps Go.Sort

abbrev Rg := List (Int × Int)
structure RgOk (rs : Rg) : Prop where
  up : rs.Pairwise fun r s => r.2 < s.1
  each : ∀ r ∈ rs, 1 ≤ r.1 ∧ r.1 < r.2 ∧ r.2 ≤ 1099511627777
/-- how many ranges end at n, or ahead of it -/
def plc (rs : Rg) (n : Int) : Nat := (rs.takeWhile fun r => decide (r.2 ≤ n)).length
def hasR (rs : Rg) (n : Int) : Bool := rs.any fun r => decide (r.1 ≤ n) && decide (n < r.2)
def lefB (rs : Rg) (n : Int) : Bool := decide (0 < plc rs n) && ((rs.getD (plc rs n - 1) (0, 0)).2 == n)
def rigB (rs : Rg) (n : Int) : Bool := decide (plc rs n < rs.length) && ((rs.getD (plc rs n) (0, 0)).1 == n + 1)
def putR (rs : Rg) (n : Int) : Rg :=
  if lefB rs n then
    if rigB rs n then
      (rs.set (plc rs n - 1) ((rs.getD (plc rs n - 1) (0, 0)).1, (rs.getD (plc rs n) (0, 0)).2)).take (plc rs n) ++ (rs.set (plc rs n - 1) ((rs.getD (plc rs n - 1) (0, 0)).1, (rs.getD (plc rs n) (0, 0)).2)).drop (plc rs n + 1)
    else rs.set (plc rs n - 1) ((rs.getD (plc rs n - 1) (0, 0)).1, n + 1)
  else if rigB rs n then rs.set (plc rs n) (n, (rs.getD (plc rs n) (0, 0)).2)
  else rs.take (plc rs n) ++ [(n, n + 1)] ++ rs.drop (plc rs n)

theorem plc_le (rs : Rg) (n : Int) : plc rs n ≤ rs.length := by
  unfold plc; exact (List.takeWhile_prefix _).length_le
/-- the row parts at the place -/
theorem rg_parts {rs : Rg} (h : RgOk rs) (n : Int) : ∃ A B, rs = A ++ B ∧ plc rs n = A.length ∧ (∀ r ∈ A, r.2 ≤ n) ∧ ∀ r ∈ B, n < r.2 := by
  refine ⟨rs.takeWhile fun r => decide (r.2 ≤ n), rs.dropWhile fun r => decide (r.2 ≤ n), List.takeWhile_append_dropWhile.symm, rfl, fun r hr => by simpa using List.all_eq_true.1 List.all_takeWhile r hr, ?_⟩
  have key : ∀ l : Rg, l.Pairwise (fun r s => r.2 < s.1) → (∀ r ∈ l, r.1 < r.2) → ∀ r ∈ l.dropWhile (fun r => decide (r.2 ≤ n)), n < r.2 := by
    intro l
    induction l with
    | nil => intro _ _ r hr; simp at hr
    | cons a t ih =>
      intro hp he r hr
      obtain ⟨h1, h2⟩ := List.pairwise_cons.1 hp
      by_cases ha : a.2 ≤ n
      · rw [List.dropWhile_cons_of_pos (by simpa using ha)] at hr
        exact ih h2 (fun r hr => he r (by simp [hr])) r hr
      · rw [List.dropWhile_cons_of_neg (by simpa using ha)] at hr
        rcases List.mem_cons.1 hr with rfl | hr
        · omega
        · have := h1 r hr; have := he r (by simp [hr]); omega
  exact key rs h.up (fun r hr => (h.each r hr).2.1)
theorem plc_of {rs : Rg} {n : Int} {A B : Rg} (h : rs = A ++ B) (hA : ∀ r ∈ A, r.2 ≤ n) (hB : ∀ r ∈ B, n < r.2) : plc rs n = A.length := by
  subst h
  unfold plc
  rw [List.takeWhile_append_of_pos (fun r hr => by simpa using hA r hr)]
  cases B with
  | nil => simp
  | cons b t => rw [List.takeWhile_cons_of_neg (by have := hB b (by simp); simp; omega)]; simp
theorem plc_search {rs : Rg} {n : Int} (k : Nat) (hk : k ≤ rs.length) (h1 : ∀ i (h : i < rs.length), i < k → rs[i].2 ≤ n) (h2 : ∀ i (h : i < rs.length), k ≤ i → n < rs[i].2) : k = plc rs n := by
  have := plc_of (rs := rs) (n := n) (A := rs.take k) (B := rs.drop k) (List.take_append_drop k rs).symm (fun r hr => by
    obtain ⟨i, hi, rfl⟩ := List.getElem_of_mem hr
    rw [List.length_take] at hi
    rw [List.getElem_take]
    exact h1 i (by omega) (by omega)) (fun r hr => by
    obtain ⟨i, hi, rfl⟩ := List.getElem_of_mem hr
    rw [List.length_drop] at hi
    rw [List.getElem_drop]
    exact h2 (k + i) (by omega) (by omega))
  rw [this, List.length_take]; omega
theorem rg_mono {rs : Rg} (h : RgOk rs) (i j : Nat) (hij : i ≤ j) (hj : j < rs.length) : rs[i].2 ≤ rs[j].2 := by
  rcases Nat.lt_or_ge i j with hlt | hge
  · have h1 := List.pairwise_iff_getElem.1 h.up i j (by omega) hj hlt
    have h2 := (h.each rs[j] (List.getElem_mem hj)).2.1
    omega
  · have : i = j := by omega
    subst this; exact Int.le_refl _
theorem hasR_eq {rs : Rg} (h : RgOk rs) (n : Int) : hasR rs n = (decide (plc rs n < rs.length) && decide ((rs.getD (plc rs n) (0, 0)).1 ≤ n)) := by
  obtain ⟨A, B, e, hp, hA, hB⟩ := rg_parts h n
  rw [hp]
  subst e
  unfold hasR
  rw [List.any_append]
  have h0 : (A.any fun r => decide (r.1 ≤ n) && decide (n < r.2)) = false := by
    rw [List.any_eq_false]; intro r hr; have := hA r hr; simp; omega
  rw [h0, Bool.false_or]
  cases B with
  | nil => simp
  | cons b t =>
    have hb := hB b (by simp)
    have hup := (List.pairwise_append.1 h.up).2.1
    obtain ⟨h1, h2⟩ := List.pairwise_cons.1 hup
    have h3 : (t.any fun r => decide (r.1 ≤ n) && decide (n < r.2)) = false := by
      rw [List.any_eq_false]; intro r hr; have := h1 r hr; simp; omega
    rw [List.any_cons, h3, Bool.or_false]
    simp [hb]

/-- what a put leaves, as parts -/
theorem putR_parts {rs : Rg} (h : RgOk rs) {n : Int} (hn : hasR rs n = false) :
    ∃ A B a b, (rs = A ++ B ∨ rs = A ++ (a, n) :: B ∨ rs = A ++ (n + 1, b) :: B ∨ rs = A ++ (a, n) :: (n + 1, b) :: B) ∧
      ((rs = A ++ B ∧ putR rs n = A ++ (n, n + 1) :: B) ∨ (rs = A ++ (a, n) :: B ∧ putR rs n = A ++ (a, n + 1) :: B) ∨ (rs = A ++ (n + 1, b) :: B ∧ putR rs n = A ++ (n, b) :: B) ∨ (rs = A ++ (a, n) :: (n + 1, b) :: B ∧ putR rs n = A ++ (a, b) :: B)) ∧
      (∀ r ∈ A, r.2 < n) ∧ (∀ r ∈ B, n + 1 < r.1) := by
  have hh := hasR_eq h n
  rw [hn] at hh
  obtain ⟨A, B, e, hp, hA, hB⟩ := rg_parts h n
  have hB1 : ∀ r ∈ B, n < r.1 := by
    cases B with
    | nil => intro r hr; simp at hr
    | cons b t =>
      have h0 : n < b.1 := by
        rw [hp] at hh; subst e
        simp at hh; exact hh
      intro r hr
      rcases List.mem_cons.1 hr with rfl | hr
      · exact h0
      · subst e
        have hup := (List.pairwise_append.1 h.up).2.1
        have h1 := (List.pairwise_cons.1 hup).1 r hr
        have h2 := h.each b (by simp)
        omega
  have hupA := (List.pairwise_append.1 (e ▸ h.up)).1
  have hupB := (List.pairwise_append.1 (e ▸ h.up)).2.1
  -- the left side
  have left : (lefB rs n = false ∧ ∀ r ∈ A, r.2 < n) ∨ (lefB rs n = true ∧ ∃ A' a, A = A' ++ [(a, n)] ∧ ∀ r ∈ A', r.2 < n) := by
    unfold lefB
    rw [hp]
    rcases List.eq_nil_or_concat A with rfl | ⟨A', x, rfl⟩
    · left; exact ⟨by simp, by simp⟩
    · have hx : rs.getD ((A' ++ [x]).length - 1) (0, 0) = x := by subst e; simp
      rw [List.concat_eq_append] at *
      rw [hx]
      have hA2 : ∀ r ∈ A', r.2 < n := fun r hr => by
        have h1 := (List.pairwise_append.1 hupA).2.2 r hr x (by simp)
        have h2 := hA x (by simp)
        have h3 := h.each x (by subst e; simp)
        omega
      by_cases hxn : x.2 = n
      · right; exact ⟨by simp [hxn], A', x.1, by rw [← hxn], hA2⟩
      · left
        refine ⟨by simp [hxn], fun r hr => ?_⟩
        rcases List.mem_append.1 hr with hr | hr
        · exact hA2 r hr
        · have := hA x (by simp); simp at hr; subst hr; omega
  have right : (rigB rs n = false ∧ ∀ r ∈ B, n + 1 < r.1) ∨ (rigB rs n = true ∧ ∃ b B', B = (n + 1, b) :: B' ∧ ∀ r ∈ B', n + 1 < r.1) := by
    unfold rigB
    rw [hp]
    cases B with
    | nil => left; exact ⟨by subst e; simp, by simp⟩
    | cons x t =>
      have hx : rs.getD A.length (0, 0) = x := by subst e; simp
      have hl : A.length < rs.length := by subst e; simp
      rw [hx]
      have hB2 : ∀ r ∈ t, n + 1 < r.1 := fun r hr => by
        have h1 := (List.pairwise_cons.1 hupB).1 r hr
        have h2 := hB1 x (by simp)
        have h3 := h.each x (by subst e; simp)
        omega
      by_cases hxn : x.1 = n + 1
      · right; exact ⟨by simp [hxn, hl], x.2, t, by rw [← hxn], hB2⟩
      · left
        refine ⟨by simp [hxn], fun r hr => ?_⟩
        rcases List.mem_cons.1 hr with rfl | hr
        · have := hB1 r (by simp); omega
        · exact hB2 r hr
  rcases left with ⟨hl, hl2⟩ | ⟨hl, A', a, rfl, hl2⟩ <;> rcases right with ⟨hr, hr2⟩ | ⟨hr, b, B', rfl, hr2⟩
  · refine ⟨A, B, 0, 0, .inl e, .inl ⟨e, ?_⟩, hl2, hr2⟩
    unfold putR
    rw [hl, hr, hp]
    subst e
    simp
  · refine ⟨A, B', 0, b, .inr (.inr (.inl e)), .inr (.inr (.inl ⟨e, ?_⟩)), hl2, hr2⟩
    unfold putR
    rw [hl, hr, hp]
    subst e
    simp
  · refine ⟨A', B, a, 0, .inr (.inl (by rw [e]; simp)), .inr (.inl ⟨by rw [e]; simp, ?_⟩), hl2, hr2⟩
    unfold putR
    rw [hl, hr, hp]
    subst e
    simp
  · refine ⟨A', B', a, b, .inr (.inr (.inr (by rw [e]; simp))), .inr (.inr (.inr ⟨by rw [e]; simp, ?_⟩)), hl2, hr2⟩
    unfold putR
    rw [hl, hr, hp]
    subst e
    simp only [List.length_append, List.length_cons, List.length_nil, Nat.zero_add, Nat.add_sub_cancel]
    have e1 : (A' ++ [(a, n)] ++ (n + 1, b) :: B').set A'.length (((A' ++ [(a, n)] ++ (n + 1, b) :: B').getD A'.length (0, 0)).1, ((A' ++ [(a, n)] ++ (n + 1, b) :: B').getD (A'.length + 1) (0, 0)).2) = (A' ++ [(a, b)]) ++ ([(n + 1, b)] ++ B') := by simp
    rw [e1, List.take_left' (by simp), ← List.append_assoc, List.drop_left' (by simp)]
    simp

theorem putR_has {rs : Rg} (h : RgOk rs) {n : Int} (hn : hasR rs n = false) (m : Int) : hasR (putR rs n) m = (hasR rs m || (m == n)) := by
  have hord := h.up
  have hea := h.each
  obtain ⟨A, B, a, b, _, hc, hA, hB⟩ := putR_parts h hn
  rcases hc with ⟨e, hp⟩ | ⟨e, hp⟩ | ⟨e, hp⟩ | ⟨e, hp⟩ <;> rw [hp, e] <;> unfold hasR <;> simp only [List.any_append, List.any_cons] <;> generalize (A.any fun r => decide (r.1 ≤ m) && decide (m < r.2)) = x <;> generalize (B.any fun r => decide (r.1 ≤ m) && decide (m < r.2)) = y
  · cases x <;> cases y <;> first | (simp; done) | (rw [Bool.eq_iff_iff]; simp; omega)
  · have := hea (a, n) (by rw [e]; simp)
    cases x <;> cases y <;> first | (simp; done) | (rw [Bool.eq_iff_iff]; simp; omega)
  · have := hea (n + 1, b) (by rw [e]; simp)
    cases x <;> cases y <;> first | (simp; done) | (rw [Bool.eq_iff_iff]; simp; omega)
  · have := hea (a, n) (by rw [e]; simp)
    have := hea (n + 1, b) (by rw [e]; simp)
    cases x <;> cases y <;> first | (simp; done) | (rw [Bool.eq_iff_iff]; simp; omega)
theorem putR_ok {rs : Rg} (h : RgOk rs) {n : Int} (hn : hasR rs n = false) (h1 : 1 ≤ n) (h2 : n ≤ 1099511627776) : RgOk (putR rs n) := by
  have hord := h.up
  have hea := h.each
  obtain ⟨A, B, a, b, _, hc, hA, hB⟩ := putR_parts h hn
  rcases hc with ⟨e, hp⟩ | ⟨e, hp⟩ | ⟨e, hp⟩ | ⟨e, hp⟩ <;> rw [hp] <;> rw [e] at hord hea
  · obtain ⟨u1, u2, u3⟩ := List.pairwise_append.1 hord
    refine ⟨List.pairwise_append.2 ⟨u1, List.pairwise_cons.2 ⟨fun r hr => hB r hr, u2⟩, fun r hr s hs => ?_⟩, fun r hr => ?_⟩
    · rcases List.mem_cons.1 hs with rfl | hs
      · exact hA r hr
      · exact u3 r hr s hs
    · rcases List.mem_append.1 hr with hr | hr
      · exact hea r (by simp [hr])
      · rcases List.mem_cons.1 hr with rfl | hr
        · exact ⟨h1, by simp only; omega, by simp only; omega⟩
        · exact hea r (by simp [hr])
  · obtain ⟨u1, u2, u3⟩ := List.pairwise_append.1 hord
    obtain ⟨u4, u5⟩ := List.pairwise_cons.1 u2
    have ha := hea (a, n) (by simp)
    refine ⟨List.pairwise_append.2 ⟨u1, List.pairwise_cons.2 ⟨fun r hr => hB r hr, u5⟩, fun r hr s hs => ?_⟩, fun r hr => ?_⟩
    · rcases List.mem_cons.1 hs with rfl | hs
      · exact u3 r hr (a, n) (by simp)
      · exact u3 r hr s (by simp [hs])
    · rcases List.mem_append.1 hr with hr | hr
      · exact hea r (by simp [hr])
      · rcases List.mem_cons.1 hr with rfl | hr
        · simp only at *; omega
        · exact hea r (by simp [hr])
  · obtain ⟨u1, u2, u3⟩ := List.pairwise_append.1 hord
    obtain ⟨u4, u5⟩ := List.pairwise_cons.1 u2
    have ha := hea (n + 1, b) (by simp)
    refine ⟨List.pairwise_append.2 ⟨u1, List.pairwise_cons.2 ⟨fun r hr => u4 r hr, u5⟩, fun r hr s hs => ?_⟩, fun r hr => ?_⟩
    · rcases List.mem_cons.1 hs with rfl | hs
      · exact hA r hr
      · exact u3 r hr s (by simp [hs])
    · rcases List.mem_append.1 hr with hr | hr
      · exact hea r (by simp [hr])
      · rcases List.mem_cons.1 hr with rfl | hr
        · simp only at *; omega
        · exact hea r (by simp [hr])
  · obtain ⟨u1, u2, u3⟩ := List.pairwise_append.1 hord
    obtain ⟨u4, u5⟩ := List.pairwise_cons.1 u2
    obtain ⟨u6, u7⟩ := List.pairwise_cons.1 u5
    have ha := hea (a, n) (by simp)
    have hb := hea (n + 1, b) (by simp)
    refine ⟨List.pairwise_append.2 ⟨u1, List.pairwise_cons.2 ⟨fun r hr => u6 r hr, u7⟩, fun r hr s hs => ?_⟩, fun r hr => ?_⟩
    · rcases List.mem_cons.1 hs with rfl | hs
      · exact u3 r hr (a, n) (by simp)
      · exact u3 r hr s (by simp [hs])
    · rcases List.mem_append.1 hr with hr | hr
      · exact hea r (by simp [hr])
      · rcases List.mem_cons.1 hr with rfl | hr
        · simp only at *; omega
        · exact hea r (by simp [hr])
theorem putR_ne (rs : Rg) {n : Int} (h : RgOk rs) (hn : hasR rs n = false) : putR rs n ≠ [] := by
  obtain ⟨A, B, a, b, _, hc, hA, hB⟩ := putR_parts h hn
  rcases hc with ⟨e, hp⟩ | ⟨e, hp⟩ | ⟨e, hp⟩ | ⟨e, hp⟩ <;> rw [hp] <;> simp
theorem putR_len (rs : Rg) {n : Int} (h : RgOk rs) (hn : hasR rs n = false) : (putR rs n).length ≤ rs.length + 1 := by
  obtain ⟨A, B, a, b, _, hc, hA, hB⟩ := putR_parts h hn
  rcases hc with ⟨e, hp⟩ | ⟨e, hp⟩ | ⟨e, hp⟩ | ⟨e, hp⟩ <;> rw [hp, e] <;> simp <;> omega

/-! ### all sources -/
abbrev Had := Row Rg
structure HadOk (m : Had) : Prop where
  up : RowUp m
  each : ∀ p ∈ m, nameB p.1 = true ∧ RgOk p.2 ∧ p.2 ≠ []
def hadRow (m : Had) (s : List UInt8) : Rg := (getB m s).getD []
def hadB (m : Had) (s : List UInt8) (n : Int) : Bool := hasR (hadRow m s) n
def putsB (m : Had) (s : List UInt8) (n : Int) : Bool := nameB s && decide (1 ≤ n) && decide (n ≤ 1099511627776) && !hadB m s n
def putH (m : Had) (s : List UInt8) (n : Int) : Had := putB s (putR (hadRow m s) n) m
theorem RgOk.nil : RgOk [] := ⟨List.Pairwise.nil, fun r hr => by simp at hr⟩
theorem HadOk.row {m : Had} (h : HadOk m) (s : List UInt8) : RgOk (hadRow m s) := by
  unfold hadRow
  cases hg : getB m s with
  | none => exact RgOk.nil
  | some rs => exact (h.each _ (getB_mem hg)).2.1
theorem HadOk.put {m : Had} (h : HadOk m) {s : List UInt8} {n : Int} (hp : putsB m s n = true) : HadOk (putH m s n) := by
  unfold putsB at hp
  simp only [Bool.and_eq_true, decide_eq_true_eq, Bool.not_eq_true'] at hp
  obtain ⟨⟨⟨h1, h2⟩, h3⟩, h4⟩ := hp
  refine ⟨putB_rising h.up _ _, fun p hp => ?_⟩
  rcases putB_mem.1 hp with rfl | ⟨hp, _⟩
  · exact ⟨h1, putR_ok (h.row s) h4 h2 h3, putR_ne _ (h.row s) h4⟩
  · exact h.each p hp
theorem HadOk.nil : HadOk [] := ⟨List.Pairwise.nil, fun r hr => by simp at hr⟩
theorem hadRow_put_same (m : Had) (s : List UInt8) (rs : Rg) : hadRow (putB s rs m) s = rs := by unfold hadRow; rw [getB_put_same]; rfl
theorem hadRow_put_other (m : Had) {s s' : List UInt8} (rs : Rg) (h : s' ≠ s) : hadRow (putB s rs m) s' = hadRow m s' := by unfold hadRow; rw [getB_put_other _ _ h]
theorem putH_had {m : Had} (h : HadOk m) {s : List UInt8} {n : Int} (hp : putsB m s n = true) (s' : List UInt8) (n' : Int) : hadB (putH m s n) s' n' = (hadB m s' n' || (s' == s && n' == n)) := by
  unfold putsB at hp
  simp only [Bool.and_eq_true, decide_eq_true_eq, Bool.not_eq_true'] at hp
  unfold hadB putH
  by_cases e : s' = s
  · subst e
    rw [hadRow_put_same, putR_has (h.row s') hp.2]; simp
  · rw [hadRow_put_other _ _ e]; simp [e]
end Go.Proofs.YtoljbbmjbgepiaaGreatDoor
namespace Go.Proofs.YtoljbbmjbgepiaaGreatDoor
open Go.RowKit Go.Maps Go.Sort

/-- the numbers from one up to another one -/
def upto (a : Int) (k : Nat) : List Int := (List.range k).map fun (i : Nat) => a + i
def nums (rs : Rg) : List Int := rs.flatMap fun r => upto r.1 (r.2 - r.1).toNat
theorem upto_mem {a : Int} {k : Nat} {n : Int} : n ∈ upto a k ↔ a ≤ n ∧ n < a + k := by
  unfold upto
  rw [List.mem_map]
  constructor
  · rintro ⟨i, hi, rfl⟩; have := List.mem_range.1 hi; omega
  · rintro ⟨h1, h2⟩; exact ⟨(n - a).toNat, List.mem_range.2 (by omega), by omega⟩
theorem upto_up (a : Int) (k : Nat) : (upto a k).Pairwise (· < ·) := by
  unfold upto
  rw [List.pairwise_map]
  exact List.pairwise_lt_range.imp fun h => by omega
theorem nums_mem {rs : Rg} (h : RgOk rs) (n : Int) : n ∈ nums rs ↔ hasR rs n = true := by
  unfold nums hasR
  rw [List.mem_flatMap, List.any_eq_true]
  constructor
  · rintro ⟨r, hr, hn⟩
    have := upto_mem.1 hn
    have := h.each r hr
    exact ⟨r, hr, by simp; omega⟩
  · rintro ⟨r, hr, hn⟩
    simp only [Bool.and_eq_true, decide_eq_true_eq] at hn
    have := h.each r hr
    exact ⟨r, hr, upto_mem.2 (by omega)⟩
theorem nums_up {rs : Rg} (h : RgOk rs) : (nums rs).Pairwise (· < ·) := by
  obtain ⟨hu, he⟩ := h
  unfold nums
  induction rs with
  | nil => exact List.Pairwise.nil
  | cons r rs ih =>
    obtain ⟨h1, h2⟩ := List.pairwise_cons.1 hu
    rw [List.flatMap_cons]
    refine List.pairwise_append.2 ⟨upto_up _ _, ih h2 (fun q hq => he q (by simp [hq])), fun a ha b hb => ?_⟩
    obtain ⟨q, hq, hb⟩ := List.mem_flatMap.1 hb
    have := upto_mem.1 ha; have := upto_mem.1 hb; have := h1 q hq; have := he r (by simp)
    omega
theorem up_unique {l l' : List Int} (h : l.Pairwise (· < ·)) (h' : l'.Pairwise (· < ·)) (hm : ∀ n, n ∈ l ↔ n ∈ l') : l = l' := by
  have n1 : l.Nodup := h.imp fun h => by omega
  have n2 : l'.Nodup := h'.imp fun h => by omega
  exact List.Perm.eq_of_pairwise (fun a b _ _ h1 h2 => by omega) h h' ((List.perm_ext_iff_of_nodup n1 n2).2 hm)
/-- a number more in a rising row -/
def insN (n : Int) : List Int → List Int
  | [] => [n]
  | x :: r => if n < x then n :: x :: r else x :: insN n r
theorem insN_mem {n m : Int} : ∀ {l : List Int}, m ∈ insN n l ↔ m = n ∨ m ∈ l
  | [] => by simp [insN]
  | x :: r => by
    unfold insN
    split
    · simp
    · simp only [List.mem_cons, insN_mem (l := r)]
      constructor
      · rintro (h | h | h) <;> simp [h]
      · rintro (h | h | h) <;> simp [h]
theorem insN_up {n : Int} : ∀ {l : List Int}, l.Pairwise (· < ·) → n ∉ l → (insN n l).Pairwise (· < ·)
  | [], _, _ => by simp [insN]
  | x :: r, h, hn => by
    obtain ⟨h1, h2⟩ := List.pairwise_cons.1 h
    simp only [List.mem_cons, not_or] at hn
    unfold insN
    split
    · rename_i hlt
      exact List.pairwise_cons.2 ⟨fun a ha => by rcases List.mem_cons.1 ha with rfl | ha; exact hlt; have := h1 a ha; omega, h⟩
    · rename_i hge
      refine List.pairwise_cons.2 ⟨fun a ha => ?_, insN_up h2 hn.2⟩
      rcases insN_mem.1 ha with rfl | ha
      · omega
      · exact h1 a ha
theorem insN_length (n : Int) : ∀ l : List Int, (insN n l).length = l.length + 1
  | [] => rfl
  | x :: r => by unfold insN; split <;> simp [insN_length n r]
theorem nums_put {rs : Rg} (h : RgOk rs) {n : Int} (hn : hasR rs n = false) (h1 : 1 ≤ n) (h2 : n ≤ 1099511627776) : nums (putR rs n) = insN n (nums rs) := by
  have hnm : n ∉ nums rs := fun hm => by rw [nums_mem h, hn] at hm; cases hm
  refine up_unique (nums_up (putR_ok h hn h1 h2)) (insN_up (nums_up h) hnm) fun m => ?_
  rw [nums_mem (putR_ok h hn h1 h2), putR_has h hn, insN_mem, nums_mem h]
  simp only [Bool.or_eq_true, beq_iff_eq]
  exact Or.comm
theorem nums_nil : nums [] = [] := rfl
theorem nums_one (n : Int) : nums [(n, n + 1)] = [n] := by
  unfold nums upto
  simp only [List.flatMap_cons, List.flatMap_nil, List.append_nil]
  rw [show (n + 1 - n).toNat = 1 by omega]
  simp
/-- the ranges of rising numbers -/
def joinN (out : Rg) (n : Int) : Rg := match out.getLast? with | some r => if r.2 = n then out.dropLast ++ [(r.1, n + 1)] else out ++ [(n, n + 1)] | none => [(n, n + 1)]
def rgs (l : List Int) : Rg := l.foldl joinN []
theorem rgs_upto (out : Rg) (a : Int) (k : Nat) : (upto a (k + 1)).foldl joinN out = (match out.getLast? with | some r => if r.2 = a then out.dropLast ++ [(r.1, a + k + 1)] else out ++ [(a, a + k + 1)] | none => [(a, a + k + 1)]) := by
  induction k with
  | zero => unfold upto joinN; simp
  | succ k ih =>
    have e : upto a (k + 1 + 1) = upto a (k + 1) ++ [a + (k + 1 : Nat)] := by unfold upto; rw [List.range_succ, List.map_append]; rfl
    rw [e, List.foldl_append, ih]
    simp only [List.foldl_cons, List.foldl_nil]
    cases hl : out.getLast? with
    | none => simp only [joinN]; simp; omega
    | some r =>
      simp only
      split <;> (simp only [joinN]; simp; omega)
theorem rgs_nums : ∀ (rs out : Rg), RgOk (out ++ rs) → (nums rs).foldl joinN out = out ++ rs
  | [], out, _ => by simp [nums]
  | r :: rs, out, h => by
    have hr := h.each r (by simp)
    obtain ⟨k, hk⟩ : ∃ k : Nat, (r.2 - r.1).toNat = k + 1 := ⟨(r.2 - r.1).toNat - 1, by omega⟩
    have e : nums (r :: rs) = upto r.1 (k + 1) ++ nums rs := by unfold nums; rw [List.flatMap_cons, hk]
    rw [e, List.foldl_append, rgs_upto]
    have e2 : (match out.getLast? with | some q => if q.2 = r.1 then out.dropLast ++ [(q.1, r.1 + k + 1)] else out ++ [(r.1, r.1 + k + 1)] | none => [(r.1, r.1 + k + 1)]) = out ++ [r] := by
      have hr2 : (r.1, r.1 + (k : Int) + 1) = r := by
        apply Prod.ext
        · rfl
        · show r.1 + (k : Int) + 1 = r.2; omega
      cases hl : out.getLast? with
      | none =>
        have : out = [] := List.getLast?_eq_none_iff.1 hl
        subst this; simp only [List.nil_append]; rw [hr2]
      | some q =>
        have hq : q ∈ out := List.mem_of_getLast? hl
        have := (List.pairwise_append.1 h.up).2.2 q hq r (by simp)
        simp only
        rw [if_neg (by omega), hr2]
    rw [e2]
    have h' : RgOk (out ++ [r] ++ rs) := by simpa using h
    rw [rgs_nums rs (out ++ [r]) h']
    simp
theorem rgs_eq {rs : Rg} (h : RgOk rs) : rgs (nums rs) = rs := rgs_nums rs [] h
end Go.Proofs.YtoljbbmjbgepiaaGreatDoor
namespace Go.Proofs.YtoljbbmjbgepiaaGreatDoor
open Go.RowKit Go.Maps Go.Sort

def joinU (out : Rg) (r : Int × Int) : Rg := match out.getLast? with | some l => if r.1 ≤ l.2 then out.dropLast ++ [(l.1, max l.2 r.2)] else out ++ [r] | none => [r]
def RgEach (l : Rg) : Prop := ∀ r ∈ l, 1 ≤ r.1 ∧ r.1 < r.2 ∧ r.2 ≤ 1099511627777
theorem hasR_append (a b : Rg) (n : Int) : hasR (a ++ b) n = (hasR a n || hasR b n) := by unfold hasR; rw [List.any_append]
theorem hasR_one (r : Int × Int) (n : Int) : hasR [r] n = (decide (r.1 ≤ n) && decide (n < r.2)) := by simp [hasR]
theorem joinU_nil (r : Int × Int) : joinU [] r = [r] := rfl
theorem joinU_snoc (i : Rg) (l r : Int × Int) : joinU (i ++ [l]) r = if r.1 ≤ l.2 then i ++ [(l.1, max l.2 r.2)] else i ++ [l] ++ [r] := by
  unfold joinU
  rw [List.getLast?_append, List.getLast?_singleton, Option.some_or]
  simp
theorem joinU_ok {out : Rg} {r : Int × Int} (h : RgOk out) (hr : 1 ≤ r.1 ∧ r.1 < r.2 ∧ r.2 ≤ 1099511627777) (hl : ∀ l, out.getLast? = some l → l.1 ≤ r.1) :
    RgOk (joinU out r) ∧ (∀ n, hasR (joinU out r) n = (hasR out n || hasR [r] n)) ∧ ∀ l, (joinU out r).getLast? = some l → l.1 ≤ r.1 := by
  rcases List.eq_nil_or_concat out with rfl | ⟨i, l, rfl⟩
  · rw [joinU_nil]
    refine ⟨⟨by simp, fun q hq => by rw [List.mem_singleton] at hq; rw [hq]; exact hr⟩, fun n => by simp [hasR], fun l hl => ?_⟩
    simp at hl; rw [← hl]; omega
  · rw [List.concat_eq_append] at *
    have h1 := hl l (by simp)
    obtain ⟨u1, u2, u3⟩ := List.pairwise_append.1 h.up
    have hle := h.each l (by simp)
    rw [joinU_snoc]
    by_cases hc : r.1 ≤ l.2
    · rw [if_pos hc]
      refine ⟨⟨List.pairwise_append.2 ⟨u1, by simp, fun a ha b hb => ?_⟩, fun q hq => ?_⟩, fun n => ?_, fun q hq => ?_⟩
      · rw [List.mem_singleton] at hb; rw [hb]; exact u3 a ha l (by simp)
      · rcases List.mem_append.1 hq with hq | hq
        · exact h.each q (by simp [hq])
        · rw [List.mem_singleton] at hq; rw [hq]; simp only; omega
      · rw [hasR_append, hasR_append, hasR_one, hasR_one, hasR_one, Bool.or_assoc]
        congr 1
        rw [Bool.eq_iff_iff]
        simp only [Bool.and_eq_true, Bool.or_eq_true, decide_eq_true_eq]
        omega
      · simp at hq; rw [← hq]; exact h1
    · rw [if_neg hc]
      refine ⟨⟨List.pairwise_append.2 ⟨h.up, by simp, fun a ha b hb => ?_⟩, fun q hq => ?_⟩, fun n => hasR_append _ _ _, fun q hq => ?_⟩
      · rw [List.mem_singleton] at hb; rw [hb]
        rcases List.mem_append.1 ha with ha | ha
        · have := u3 a ha l (by simp); omega
        · rw [List.mem_singleton] at ha; rw [ha]; omega
      · rcases List.mem_append.1 hq with hq | hq
        · exact h.each q hq
        · rw [List.mem_singleton] at hq; rw [hq]; exact hr
      · simp at hq; rw [← hq]; omega
theorem joinL_ok : ∀ (l : Rg), l.Pairwise (fun a b => a.1 ≤ b.1) → RgEach l → ∀ out, RgOk out → (∀ q, out.getLast? = some q → ∀ r ∈ l, q.1 ≤ r.1) →
    RgOk (l.foldl joinU out) ∧ ∀ n, hasR (l.foldl joinU out) n = (hasR out n || hasR l n)
  | [], _, _, out, ho, _ => ⟨ho, fun n => by simp [hasR]⟩
  | r :: l, hp, he, out, ho, hq => by
    obtain ⟨p1, p2⟩ := List.pairwise_cons.1 hp
    obtain ⟨h1, h2, h3⟩ := joinU_ok ho (he r (by simp)) (fun q hq' => hq q hq' r (by simp))
    obtain ⟨k1, k2⟩ := joinL_ok l p2 (fun q hq' => he q (by simp [hq'])) (joinU out r) h1 (fun q hq' a ha => by have := h3 q hq'; have := p1 a ha; omega)
    refine ⟨k1, fun n => ?_⟩
    rw [List.foldl_cons, k2, h2, show r :: l = [r] ++ l from rfl, hasR_append, Bool.or_assoc]
theorem joinU_len (out : Rg) (r : Int × Int) : (joinU out r).length ≤ out.length + 1 := by
  rcases List.eq_nil_or_concat out with rfl | ⟨i, l, rfl⟩
  · simp [joinU_nil]
  · rw [List.concat_eq_append, joinU_snoc]; split <;> simp
theorem joinL_len (l : Rg) : ∀ out : Rg, (l.foldl joinU out).length ≤ out.length + l.length := by
  induction l with
  | nil => intro out; simp
  | cons r l ih => intro out; have := ih (joinU out r); have := joinU_len out r; simp only [List.foldl_cons, List.length_cons]; omega
theorem joinL_snoc (l : Rg) (r : Int × Int) : (l ++ [r]).foldl joinU [] = joinU (l.foldl joinU []) r := by rw [List.foldl_append]; rfl
theorem hasR_unique {a b : Rg} (ha : RgOk a) (hb : RgOk b) (h : ∀ n, hasR a n = hasR b n) : a = b := by
  have : nums a = nums b := up_unique (nums_up ha) (nums_up hb) (fun n => by rw [nums_mem ha, nums_mem hb, h])
  rw [← rgs_eq ha, ← rgs_eq hb, this]
theorem rowUp_ext {α : Type} {a b : Row α} (ha : RowUp a) (hb : RowUp b) (h : ∀ p, p ∈ a ↔ p ∈ b) : a = b := by
  have key : ∀ m : Row α, RowUp m → m.Nodup := fun m hm => hm.imp fun {x y} hxy e => by rw [e, bb_irrefl] at hxy; cases hxy
  refine List.Perm.eq_of_pairwise (le := fun (x y : List UInt8 × α) => bytesBefore x.1 y.1 = true) (fun x y _ _ h1 h2 => ?_) ha hb ((List.perm_ext_iff_of_nodup (key a ha) (key b hb)).2 h)
  have := bb_trans h1 h2
  rw [bb_irrefl] at this; cases this
theorem rg_some {rs : Rg} (h : RgOk rs) (hne : rs ≠ []) : ∃ n, hasR rs n = true := by
  cases rs with
  | nil => exact absurd rfl hne
  | cons r rs => have := h.each r (by simp); exact ⟨r.1, by unfold hasR; simp; left; omega⟩
theorem had_unique {a b : Had} (ha : HadOk a) (hb : HadOk b) (h : ∀ s n, hadB a s n = hadB b s n) : a = b := by
  have half : ∀ {a b : Had}, HadOk a → HadOk b → (∀ s n, hadB a s n = hadB b s n) → ∀ p ∈ a, p ∈ b := fun {a b} ha hb h p hp => by
    have hr : hadRow a p.1 = p.2 := by unfold hadRow; rw [getB_of_mem ha.up (v := p.2) hp]; rfl
    have hE : hadRow a p.1 = hadRow b p.1 := hasR_unique (ha.row _) (hb.row _) (fun n => h p.1 n)
    have hne := (ha.each p hp).2.2
    rw [hr] at hE
    unfold hadRow at hE
    cases hg : getB b p.1 with
    | none => rw [hg] at hE; exact absurd hE hne
    | some rs => rw [hg] at hE; have := getB_mem hg; rw [show p = (p.1, rs) by rw [← show p.2 = rs from hE]]; exact this
  exact rowUp_ext ha.up hb.up fun p => ⟨half ha hb h p, half hb ha (fun s n => (h s n).symm) p⟩
end Go.Proofs.YtoljbbmjbgepiaaGreatDoor
namespace Go.Proofs.YtoljbbmjbgepiaaGreatDoor
open Go.RowKit Go.Maps Go.Sort

/-- groups of seven bits -/
def numB (n : Nat) : List UInt8 := if n < 128 then [UInt8.ofNat n] else UInt8.ofNat (n % 128 + 128) :: numB (n / 128)
termination_by n
decreasing_by omega
theorem numB_lo {n : Nat} (h : n < 128) : numB n = [UInt8.ofNat n] := by rw [numB, if_pos h]
theorem numB_hi {n : Nat} (h : ¬ n < 128) : numB n = UInt8.ofNat (n % 128 + 128) :: numB (n / 128) := by rw [numB, if_neg h]
theorem numB_len (n : Nat) : (numB n).length ≤ n + 1 := by
  induction n using Nat.strongRecOn with
  | _ n ih =>
    by_cases h : n < 128
    · rw [numB_lo h]; simp
    · rw [numB_hi h]; have := ih (n / 128) (by omega); simp; omega
theorem numB_short {n : Nat} (h : n < 72057594037927936) : (numB n).length ≤ 8 := by
  have key : ∀ k n, n < 128 ^ (k + 1) → (numB n).length ≤ k + 1 := fun k => by
    induction k with
    | zero => intro n h; rw [numB_lo (by simpa using h)]; simp
    | succ k ih =>
      intro n h
      by_cases h1 : n < 128
      · rw [numB_lo h1]; simp
      · rw [numB_hi h1]
        have := ih (n / 128) (by rw [Nat.div_lt_iff_lt_mul (by omega)]; rw [Nat.pow_succ] at h; exact h)
        simp; omega
  exact key 7 n (by simpa using h)
/-- ranges, told from an end on -/
def encR : Int → Rg → List UInt8
  | _, [] => []
  | e, r :: rs => numB (r.1 - e).toNat ++ numB (r.2 - r.1).toNat ++ encR r.2 rs
def endR : Int → Rg → Int
  | e, [] => e
  | _, r :: rs => endR r.2 rs
theorem encR_snoc (r : Int × Int) : ∀ (e : Int) (rs : Rg), encR e (rs ++ [r]) = encR e rs ++ (numB (r.1 - endR e rs).toNat ++ numB (r.2 - r.1).toNat)
  | e, [] => by simp [encR, endR]
  | e, q :: rs => by simp only [List.cons_append, encR, endR, encR_snoc r q.2 rs, List.append_assoc]
theorem endR_snoc (r : Int × Int) : ∀ (e : Int) (rs : Rg), endR e (rs ++ [r]) = r.2
  | e, [] => rfl
  | e, q :: rs => by simp only [List.cons_append, endR]; exact endR_snoc r q.2 rs
/-- a source -/
def encS (p : List UInt8 × Rg) : List UInt8 := UInt8.ofNat p.1.length :: (p.1 ++ numB p.2.length ++ encR 1 p.2)
def encH (m : Had) : List UInt8 := numB m.length ++ m.flatMap encS
theorem encR_len (rs : Rg) (h : ∀ r ∈ rs, 1 ≤ r.1 ∧ r.1 < r.2 ∧ r.2 ≤ 1099511627777) : ∀ e : Int, 1 ≤ e → (encR e rs).length ≤ 16 * rs.length := by
  induction rs with
  | nil => intro e _; simp [encR]
  | cons r rs ih =>
    intro e he
    have hr := h r (by simp)
    have := ih (fun q hq => h q (by simp [hq])) r.2 (by omega)
    have h1 := numB_short (n := (r.1 - e).toNat) (by omega)
    have h2 := numB_short (n := (r.2 - r.1).toNat) (by omega)
    simp only [encR, List.length_append, List.length_cons]
    omega
end Go.Proofs.YtoljbbmjbgepiaaGreatDoor
