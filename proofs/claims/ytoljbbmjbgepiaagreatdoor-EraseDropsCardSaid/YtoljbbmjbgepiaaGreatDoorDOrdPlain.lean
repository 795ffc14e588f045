/-
  Layer 8, plain: what isn't refused.
  Layer 8, plain: what an intake has of events, whatever their order.
-/
import Derived.Test.YtoljbbmjbgepiaaGreatDoorDItkPlain
namespace Go.Proofs.YtoljbbmjbgepiaaGreatDoor
open Go.RowKit Go.Maps Go.Sort

theorem not_refused {x : Itk} {e : Ev} (h : x.refuses e = false) : mayB e = true ∧ (e.per ∈ x.gone → e.kind = 14) ∧ hadB x.had e.src e.num = false := by
  unfold Itk.refuses Itk.wrong at h
  simp only [Bool.or_eq_false_iff, Bool.not_eq_false', Bool.and_eq_false_iff, decide_eq_false_iff_not] at h
  refine ⟨h.1.1.1, fun hg => ?_, h.2⟩
  rcases h.1.1.2 with h' | h'
  · exact absurd hg h'
  · simpa using h'
end Go.Proofs.YtoljbbmjbgepiaaGreatDoor
namespace Go.Proofs.YtoljbbmjbgepiaaGreatDoor
open Go.RowKit Go.Maps Go.Sort

/-- two of one identity are one event -/
def AlikeP (l : List Ev) : Prop := ∀ a ∈ l, ∀ b ∈ l, a.src = b.src → a.num = b.num → a = b
/-- somebody is forgotten by one of the events -/
def GoneBy (l : List Ev) (q : List UInt8) : Prop := ∃ f ∈ l, mayB f = true ∧ f.kind = 14 ∧ f.per = q
/-- what an intake has behind events, none of which was late -/
structure OrdInv (p : List Ev) (x : Itk) : Prop where
  ok : HadOk x.had
  len : x.taken.length ≤ p.length
  gone : ∀ q, q ∈ x.gone ↔ GoneBy p q
  taken : ∀ e, e ∈ x.taken ↔ e ∈ p ∧ mayB e = true ∧ (e.kind = 14 ∨ e.per ∉ x.gone)
  had : ∀ s n, hadB x.had s n = true → ∃ e ∈ p, mayB e = true ∧ e.src = s ∧ e.num = n
  kept : ∀ e ∈ x.taken, hadB x.had e.src e.num = true
  sorted : SortedE x.taken
  ids : (x.taken.map idOf).Nodup
theorem OrdInv.new (slack idle : Int) : OrdInv [] (Itk.new slack idle) :=
  ⟨HadOk.nil, Nat.le_refl _, fun q => by simp [Itk.new, GoneBy], fun e => by simp [Itk.new], fun s n h => by simp [Itk.new, hadB, hadRow, getB, hasR] at h, fun e he => by simp [Itk.new] at he, List.Pairwise.nil, by simp [Itk.new]⟩
theorem OrdInv.clk {p : List Ev} {x : Itk} (h : OrdInv p x) (c : Clk) : OrdInv p { x with clk := c } := ⟨h.ok, h.len, h.gone, h.taken, h.had, h.kept, h.sorted, h.ids⟩
theorem OrdInv.late {p : List Ev} {x : Itk} (h : OrdInv p x) (l : List Ev) : OrdInv p { x with late := l } := ⟨h.ok, h.len, h.gone, h.taken, h.had, h.kept, h.sorted, h.ids⟩
theorem insE_perm (e : Ev) (l : List Ev) : (insE e l).Perm (e :: l) := by
  have h : l.takeWhile (fun a => !decide (LtE e a)) ++ l.dropWhile (fun a => !decide (LtE e a)) = l := List.takeWhile_append_dropWhile
  unfold insE
  conv => rhs; rw [← h]
  exact List.perm_middle
/-- refused: nothing new -/
theorem OrdInv.refuse {p : List Ev} {x : Itk} {e : Ev} (h : OrdInv p x) (hp : p.length ≤ 1000) (ha : AlikeP (p ++ [e])) (hr : x.refuses e = true) : OrdInv (p ++ [e]) x := by
  have key : (∀ a, a ∈ p ++ [e] ∧ mayB a = true ∧ (a.kind = 14 ∨ a.per ∉ x.gone) ↔ a ∈ p ∧ mayB a = true ∧ (a.kind = 14 ∨ a.per ∉ x.gone)) ∧ (mayB e = true → e.kind = 14 → e ∈ p) := by
    unfold Itk.refuses Itk.wrong at hr
    simp only [Bool.or_eq_true, Bool.not_eq_true', Bool.and_eq_true, decide_eq_true_eq, bne_iff_ne] at hr
    rcases hr with ((hr | ⟨hr, hk⟩) | hr) | hr
    · refine ⟨fun a => ?_, fun h' => by rw [hr] at h'; cases h'⟩
      rw [List.mem_append, List.mem_singleton]
      constructor
      · rintro ⟨h1 | rfl, h2⟩
        · exact ⟨h1, h2⟩
        · rw [hr] at h2; exact absurd h2.1 (by simp)
      · rintro ⟨h1, h2⟩; exact ⟨.inl h1, h2⟩
    · refine ⟨fun a => ?_, fun _ h' => absurd h' hk⟩
      rw [List.mem_append, List.mem_singleton]
      constructor
      · rintro ⟨h1 | rfl, h2⟩
        · exact ⟨h1, h2⟩
        · rcases h2.2 with h3 | h3
          · exact absurd h3 hk
          · exact absurd hr h3
      · rintro ⟨h1, h2⟩; exact ⟨.inl h1, h2⟩
    · have := h.len; omega
    · obtain ⟨e', he', _, h1, h2⟩ := h.had _ _ hr
      have : e' = e := ha e' (by simp [he']) e (by simp) h1 h2
      subst this
      refine ⟨fun a => ?_, fun _ _ => he'⟩
      rw [List.mem_append, List.mem_singleton]
      constructor
      · rintro ⟨k1 | k1, k2⟩
        · exact ⟨k1, k2⟩
        · exact ⟨k1 ▸ he', k2⟩
      · rintro ⟨k1, k2⟩; exact ⟨.inl k1, k2⟩
  refine ⟨h.ok, by have := h.len; simp; omega, fun q => ?_, fun a => ?_, fun s n hs => ?_, h.kept, h.sorted, h.ids⟩
  · rw [h.gone]
    constructor
    · rintro ⟨f, hf, h1⟩; exact ⟨f, by simp [hf], h1⟩
    · rintro ⟨f, hf, h1, h2, h3⟩
      rcases List.mem_append.1 hf with hf | hf
      · exact ⟨f, hf, h1, h2, h3⟩
      · rw [List.mem_singleton] at hf; subst hf; exact ⟨f, key.2 h1 h2, h1, h2, h3⟩
  · rw [h.taken, key.1]
  · obtain ⟨e', he', h1⟩ := h.had s n hs
    exact ⟨e', by simp [he'], h1⟩
/-- taken: it is there, and who is forgotten by it is gone -/
theorem OrdInv.took {p : List Ev} {x : Itk} {e : Ev} (h : OrdInv p x) (hr : x.refuses e = false) : OrdInv (p ++ [e]) (x.took e) := by
  obtain ⟨hm, hg, hh⟩ := not_refused hr
  have hput := may_put hm hh
  have hids : ((insE e x.taken).map idOf).Nodup := by
    rw [((insE_perm e x.taken).map idOf).nodup_iff, List.map_cons, List.nodup_cons]
    refine ⟨fun hc => ?_, h.ids⟩
    obtain ⟨a, ha, hai⟩ := List.mem_map.1 hc
    have := h.kept a ha
    unfold idOf at hai
    injection hai with h1 h2
    rw [h1, h2, hh] at this
    cases this
  have hhad : ∀ s n, hadB (putH x.had e.src e.num) s n = true → ∃ e' ∈ p ++ [e], mayB e' = true ∧ e'.src = s ∧ e'.num = n := fun s n hs => by
    rw [putH_had h.ok hput] at hs
    simp only [Bool.or_eq_true, Bool.and_eq_true, beq_iff_eq] at hs
    rcases hs with hs | ⟨rfl, rfl⟩
    · obtain ⟨e', he', h1⟩ := h.had s n hs
      exact ⟨e', by simp [he'], h1⟩
    · exact ⟨e, by simp, hm, rfl, rfl⟩
  have hkept : ∀ a ∈ insE e x.taken, hadB (putH x.had e.src e.num) a.src a.num = true := fun a ha => by
    rw [putH_had h.ok hput]
    rcases insE_mem.1 ha with rfl | ha
    · simp
    · simp [h.kept a ha]
  unfold Itk.took
  split
  · rename_i hk
    have hgn : ∀ q, q ∈ e.per :: x.gone ↔ GoneBy (p ++ [e]) q := fun q => by
      rw [List.mem_cons, h.gone]
      constructor
      · rintro (rfl | ⟨f, hf, h1⟩)
        · exact ⟨e, by simp, hm, hk, rfl⟩
        · exact ⟨f, by simp [hf], h1⟩
      · rintro ⟨f, hf, h1, h2, h3⟩
        rcases List.mem_append.1 hf with hf | hf
        · exact .inr ⟨f, hf, h1, h2, h3⟩
        · rw [List.mem_singleton] at hf; subst hf; exact .inl h3.symm
    refine ⟨h.ok.put hput, ?_, hgn, fun a => ?_, hhad, fun a ha => hkept a (List.mem_filter.1 ha).1, (insE_sorted h.sorted).filter _, (List.filter_sublist.map idOf).nodup hids⟩
    · show ((insE e x.taken).filter _).length ≤ _
      have := List.length_filter_le (keepB e.per) (insE e x.taken)
      rw [insE_length] at this
      have := h.len; simp; omega
    · show a ∈ (insE e x.taken).filter _ ↔ a ∈ p ++ [e] ∧ mayB a = true ∧ (a.kind = 14 ∨ a.per ∉ e.per :: x.gone)
      rw [List.mem_filter, insE_mem, h.taken, List.mem_append, List.mem_singleton]
      unfold keepB
      simp only [Bool.or_eq_true, bne_iff_ne, beq_iff_eq, List.mem_cons, not_or]
      constructor
      · rintro ⟨rfl | ⟨h1, h2, h3⟩, h4⟩
        · exact ⟨.inr rfl, hm, .inl hk⟩
        · refine ⟨.inl h1, h2, ?_⟩
          rcases h4 with h4 | h4
          · exact h3.imp id fun h3 => ⟨h4, h3⟩
          · exact .inl h4
      · rintro ⟨h1 | rfl, h2, h3⟩
        · exact ⟨.inr ⟨h1, h2, h3.imp id (·.2)⟩, h3.elim .inr fun h3 => .inl h3.1⟩
        · exact ⟨.inl rfl, .inr hk⟩
  · rename_i hk
    refine ⟨h.ok.put hput, ?_, fun q => ?_, fun a => ?_, hhad, hkept, insE_sorted h.sorted, hids⟩
    · show (insE e x.taken).length ≤ _
      rw [insE_length]
      have := h.len; simp; omega
    · show q ∈ x.gone ↔ _
      rw [h.gone]
      constructor
      · rintro ⟨f, hf, h1⟩; exact ⟨f, by simp [hf], h1⟩
      · rintro ⟨f, hf, h1, h2, h3⟩
        rcases List.mem_append.1 hf with hf | hf
        · exact ⟨f, hf, h1, h2, h3⟩
        · rw [List.mem_singleton] at hf; subst hf; exact absurd h2 hk
    · show a ∈ insE e x.taken ↔ a ∈ p ++ [e] ∧ mayB a = true ∧ (a.kind = 14 ∨ a.per ∉ x.gone)
      rw [insE_mem, h.taken, List.mem_append, List.mem_singleton]
      constructor
      · rintro (rfl | ⟨h1, h2⟩)
        · exact ⟨.inr rfl, hm, .inr fun h' => hk (hg h')⟩
        · exact ⟨.inl h1, h2⟩
      · rintro ⟨h1 | rfl, h2⟩
        · exact .inr ⟨h1, h2⟩
        · exact .inl rfl
theorem OrdInv.offer {p : List Ev} {x : Itk} {e : Ev} (h : OrdInv p x) (hp : p.length ≤ 1000) (ha : AlikeP (p ++ [e])) (now : Int) (hl : x.offered e now ≠ 2) : OrdInv (p ++ [e]) (x.offer e now) := by
  unfold Itk.offered at hl
  unfold Itk.offer
  have ht : OrdInv p (x.tick now) := h.clk _
  split
  · rename_i hr; exact ht.refuse hp ha hr
  · rename_i hr
    rw [if_neg hr] at hl
    split
    · exact (ht.clk _).took (show (x.tick now).refuses e = false by simpa using hr)
    · rename_i hh; rw [if_neg hh] at hl; exact absurd rfl hl
theorem OrdInv.admits {p : List Ev} {x : Itk} {e : Ev} (h : OrdInv p x) (hp : p.length ≤ 1000) (ha : AlikeP (p ++ [e])) : OrdInv (p ++ [e]) (x.admits e) := by
  unfold Itk.admits
  split
  · rename_i hr; exact h.refuse hp ha hr
  · rename_i hr
    exact (h.clk _).took (show x.refuses e = false by simpa using hr)
theorem ids_inj {l : List Ev} (h : (l.map idOf).Nodup) {a b : Ev} (ha : a ∈ l) (hb : b ∈ l) (he : idOf a = idOf b) : a = b := by
  induction l with
  | nil => simp at ha
  | cons c l ih =>
    rw [List.map_cons, List.nodup_cons] at h
    rcases List.mem_cons.1 ha with h1 | h1 <;> rcases List.mem_cons.1 hb with h2 | h2
    · rw [h1, h2]
    · exact absurd (List.mem_map.2 ⟨b, h2, he.symm.trans (by rw [h1])⟩) h.1
    · exact absurd (List.mem_map.2 ⟨a, h1, he.trans (by rw [h2])⟩) h.1
    · exact ih h.2 h1 h2
theorem leE_anti {l : List Ev} (h : (l.map idOf).Nodup) {a b : Ev} (ha : a ∈ l) (hb : b ∈ l) (h1 : LeE a b) (h2 : LeE b a) : a = b := by
  rcases LtE.total h2 with h3 | ⟨_, h3, h4⟩
  · exact absurd h3 h1
  · exact ids_inj h ha hb (by unfold idOf; rw [h3, h4])
/-- a sorted list is told by what is in it -/
theorem sorted_unique {l l' : List Ev} (h : SortedE l) (h' : SortedE l') (hi : (l.map idOf).Nodup) (hi' : (l'.map idOf).Nodup) (hm : ∀ e, e ∈ l ↔ e ∈ l') : l = l' := by
  have key : ∀ l : List Ev, (l.map idOf).Nodup → l.Nodup := fun l h => (List.pairwise_map.1 h).imp fun {a b} hne e => hne (congrArg idOf e)
  have n1 := key l hi
  have n2 := key l' hi'
  exact List.Perm.eq_of_pairwise (fun a b ha hb h1 h2 => leE_anti hi ha ((hm b).2 hb) h1 h2) h h' ((List.perm_ext_iff_of_nodup n1 n2).2 hm)
theorem OrdInv.same {p q : List Ev} {x y : Itk} (h : OrdInv p x) (h' : OrdInv q y) (hm : ∀ e, e ∈ p ↔ e ∈ q) : x.taken = y.taken ∧ ∀ r, r ∈ x.gone ↔ r ∈ y.gone := by
  have hg : ∀ r, r ∈ x.gone ↔ r ∈ y.gone := fun r => by
    rw [h.gone, h'.gone]
    unfold GoneBy
    constructor
    · rintro ⟨f, hf, h1⟩; exact ⟨f, (hm f).1 hf, h1⟩
    · rintro ⟨f, hf, h1⟩; exact ⟨f, (hm f).2 hf, h1⟩
  exact ⟨sorted_unique h.sorted h'.sorted h.ids h'.ids fun e => by rw [h.taken, h'.taken, hm, hg], hg⟩
end Go.Proofs.YtoljbbmjbgepiaaGreatDoor
