/-
  Layer 8, plain: what isn't refused.
  Layer 8, plain: nobody who is gone has an event but Forgotten ones.
  Layer 8, plain: what an intake has of events, whatever their order.
  Layer 8, plain: what stands behind any deeds.
-/
import Derived.Test.YtgbagjpokpchpaaGreatDoorFItkPlain
import Derived.Test.YtgbagjpokpchpaaGreatDoorFPplB
import Derived.Test.YtgbagjpokpchpaaGreatDoorFItkSet
namespace Go.Proofs.YtgbagjpokpchpaaGreatDoor
open Go.RowKit Go.Maps Go.Sort

theorem not_refused {x : Itk} {e : Ev} (h : x.refuses e = false) : mayB e = true ∧ (e.per ∈ x.gone → e.kind = 14) ∧ hadB x.had e.src e.num = false := by
  unfold Itk.refuses Itk.wrong at h
  simp only [Bool.or_eq_false_iff, Bool.not_eq_false', Bool.and_eq_false_iff, decide_eq_false_iff_not] at h
  refine ⟨h.1.1.1, fun hg => ?_, h.2⟩
  rcases h.1.1.2 with h' | h'
  · exact absurd hg h'
  · simpa using h'
end Go.Proofs.YtgbagjpokpchpaaGreatDoor
namespace Go.Proofs.YtgbagjpokpchpaaGreatDoor
open Go.RowKit Go.Maps Go.Sort

structure ItkInv (P : Ev → Prop) (x : Itk) : Prop where
  taken : ∀ e ∈ x.taken, P e
  late : ∀ e ∈ x.late, P e
  gone : ∀ p ∈ x.gone, ∃ e, P e ∧ e.per = p
  stay : ∀ e, e ∈ x.taken ∨ e ∈ x.late → e.per ∈ x.gone → e.kind = 14
  forg : ∀ e ∈ x.taken, e.kind = 14 → e.per ∈ x.gone
theorem ItkInv.new (P : Ev → Prop) (slack idle : Int) : ItkInv P (Itk.new slack idle) :=
  ⟨fun e he => by simp [Itk.new] at he, fun e he => by simp [Itk.new] at he, fun e he => by simp [Itk.new] at he, fun e he => by simp [Itk.new] at he, fun e he => by simp [Itk.new] at he⟩
theorem ItkInv.tick {P : Ev → Prop} {x : Itk} (h : ItkInv P x) (now : Int) : ItkInv P (x.tick now) := ⟨h.taken, h.late, h.gone, h.stay, h.forg⟩
theorem ItkInv.hear {P : Ev → Prop} {x : Itk} (h : ItkInv P x) (e : Ev) (now : Int) : ItkInv P (x.hear e now) := ⟨h.taken, h.late, h.gone, h.stay, h.forg⟩
theorem ItkInv.drop {P : Ev → Prop} {x : Itk} (h : ItkInv P x) (p : Ev → Bool) : ItkInv P (x.drop p) :=
  ⟨fun e he => h.taken e (List.mem_filter.1 he).1, fun e he => h.late e (List.mem_filter.1 he).1, h.gone, fun e he => h.stay e (he.imp (fun h => (List.mem_filter.1 h).1) (fun h => (List.mem_filter.1 h).1)), fun e he => h.forg e (List.mem_filter.1 he).1⟩
theorem ItkInv.took {P : Ev → Prop} {x : Itk} (h : ItkInv P x) {e : Ev} (he : P e) (hw : e.per ∈ x.gone → e.kind = 14) : ItkInv P (x.took e) := by
  unfold Itk.took
  split
  · rename_i hk
    refine ⟨fun a ha => ?_, fun a ha => ?_, fun p hp => ?_, fun a ha hg => ?_, fun a ha _ => ?_⟩
    · rcases insE_mem.1 (List.mem_filter.1 ha).1 with rfl | ha
      · exact he
      · exact h.taken a ha
    · exact h.late a (List.mem_filter.1 ha).1
    · have hp' : p ∈ e.per :: x.gone := hp
      rcases List.mem_cons.1 hp' with rfl | hp'
      · exact ⟨e, he, rfl⟩
      · exact h.gone p hp'
    · have hg' : a.per ∈ e.per :: x.gone := hg
      have hkeep : keepB e.per a = true := by rcases ha with ha | ha <;> exact (List.mem_filter.1 ha).2
      by_cases hp : a.per = e.per
      · unfold keepB at hkeep; simpa [hp] using hkeep
      · have hg2 : a.per ∈ x.gone := by rcases List.mem_cons.1 hg' with h' | h'; exact absurd h' hp; exact h'
        rcases ha with ha | ha
        · rcases insE_mem.1 (List.mem_filter.1 ha).1 with rfl | ha
          · exact hk
          · exact h.stay a (.inl ha) hg2
        · exact h.stay a (.inr (List.mem_filter.1 ha).1) hg2
    · show a.per ∈ e.per :: x.gone
      rcases insE_mem.1 (List.mem_filter.1 ha).1 with rfl | ha'
      · simp
      · exact List.mem_cons_of_mem _ (h.forg a ha' (by assumption))
  · rename_i hk
    refine ⟨fun a ha => ?_, h.late, h.gone, fun a ha hg => ?_, fun a ha hk' => ?_⟩
    · rcases insE_mem.1 ha with rfl | ha
      · exact he
      · exact h.taken a ha
    · rcases ha with ha | ha
      · rcases insE_mem.1 ha with rfl | ha
        · exact hw hg
        · exact h.stay a (.inl ha) hg
      · exact h.stay a (.inr ha) hg
    · rcases insE_mem.1 ha with rfl | ha
      · exact absurd hk' hk
      · exact h.forg a ha hk'
theorem ItkInv.lates {P : Ev → Prop} {x : Itk} (h : ItkInv P x) {e : Ev} (he : P e) (hw : e.per ∈ x.gone → e.kind = 14) : ItkInv P (x.lates e) := by
  unfold Itk.lates
  split
  · exact h
  · refine ⟨h.taken, fun a ha => ?_, h.gone, fun a ha hg => ?_, h.forg⟩
    · rcases List.mem_append.1 ha with ha | ha
      · exact h.late a ha
      · simp at ha; subst ha; exact he
    · rcases ha with ha | ha
      · exact h.stay a (.inl ha) hg
      · rcases List.mem_append.1 ha with ha | ha
        · exact h.stay a (.inr ha) hg
        · simp at ha; subst ha; exact hw hg
theorem ItkInv.offer {P : Ev → Prop} {x : Itk} (h : ItkInv P x) {e : Ev} (he : P e) (now : Int) : ItkInv P (x.offer e now) := by
  unfold Itk.offer
  split
  · exact h.tick now
  · rename_i hr
    have hn := not_refused (by simpa using hr)
    split
    · exact ((h.tick now).hear e now).took he hn.2.1
    · exact ((h.tick now).hear e now).lates he hn.2.1
theorem ItkInv.admits {P : Ev → Prop} {x : Itk} (h : ItkInv P x) {e : Ev} (he : P e) : ItkInv P (x.admits e) := by
  unfold Itk.admits
  split
  · exact h
  · rename_i hr
    have hn := not_refused (by simpa using hr)
    exact (h.hear e _).took he hn.2.1
/-- nothing of the gone is left -/
theorem ItkInv.out {P : Ev → Prop} {x : Itk} (h : ItkInv P x) {e : Ev} (he : e ∈ x.taken ∨ e ∈ x.late) : outB x.gone e = true := by
  unfold outB ownB
  by_cases hg : e.per ∈ x.gone
  · have := h.stay e he hg
    simp [this]
  · simp [hg]
theorem ItkInv.none {P : Ev → Prop} {x : Itk} (h : ItkInv P x) {p : List UInt8} (hp : p ∈ x.gone) {e : Ev} (he : e ∈ x.taken ∨ e ∈ x.late) : ownB p e = false := by
  unfold ownB
  by_cases hg : e.per = p
  · have := h.stay e he (hg ▸ hp)
    simp [this]
  · simp [hg]
theorem ItkInv.clean {P : Ev → Prop} {x : Itk} (h : ItkInv P x) : x.taken.filter (outB (goneL x.taken)) = x.taken := by
  rw [List.filter_eq_self]
  intro e he
  unfold outB
  by_cases hg : e.per ∈ goneL x.taken
  · have hg' : e.per ∈ x.gone := by
      unfold goneL at hg
      obtain ⟨f, hf, hfp⟩ := List.mem_map.1 hg
      obtain ⟨hf1, hf2⟩ := List.mem_filter.1 hf
      unfold forgetB at hf2
      simp only [Bool.and_eq_true, beq_iff_eq] at hf2
      rw [← hfp]; exact h.forg f hf1 hf2.1.1.1.1.1
    have := h.stay e (.inl he) hg'
    unfold ownB; simp [this]
  · simp [hg]
theorem ItkInv.drops {P : Ev → Prop} {x : Itk} (h : ItkInv P x) : x.drop (outB x.gone) = x := by
  unfold Itk.drop
  rw [List.filter_eq_self.2 (fun e he => h.out (.inl he)), List.filter_eq_self.2 (fun e he => h.out (.inr he))]
end Go.Proofs.YtgbagjpokpchpaaGreatDoor
namespace Go.Proofs.YtgbagjpokpchpaaGreatDoor
open Go.RowKit Go.Maps Go.Sort

/-- two of one identity are one event -/
def AlikeP (l : List Ev) : Prop := ∀ a ∈ l, ∀ b ∈ l, a.src = b.src → a.num = b.num → a = b
/-- somebody is forgotten by one of the events -/
def GoneBy (l : List Ev) (q : List UInt8) : Prop := ∃ f ∈ l, mayB f = true ∧ f.kind = 14 ∧ f.per = q
/-- what an intake has behind events, none of which was late -/
structure OrdInv (p : List Ev) (x : Itk) : Prop where
  ok : HadOk x.had
  len : x.taken.length ≤ p.length
  gone : ∀ q, q ∈ x.gone ↔ GoneBy p q
  taken : ∀ e, e ∈ x.taken ↔ e ∈ p ∧ mayB e = true ∧ (e.kind = 14 ∨ e.per ∉ x.gone)
  had : ∀ s n, hadB x.had s n = true → ∃ e ∈ p, mayB e = true ∧ e.src = s ∧ e.num = n
  kept : ∀ e ∈ x.taken, hadB x.had e.src e.num = true
  sorted : SortedE x.taken
  ids : (x.taken.map idOf).Nodup
theorem OrdInv.new (slack idle : Int) : OrdInv [] (Itk.new slack idle) :=
  ⟨HadOk.nil, Nat.le_refl _, fun q => by simp [Itk.new, GoneBy], fun e => by simp [Itk.new], fun s n h => by simp [Itk.new, hadB, hadRow, getB, hasR] at h, fun e he => by simp [Itk.new] at he, List.Pairwise.nil, by simp [Itk.new]⟩
theorem OrdInv.clk {p : List Ev} {x : Itk} (h : OrdInv p x) (c : Clk) : OrdInv p { x with clk := c } := ⟨h.ok, h.len, h.gone, h.taken, h.had, h.kept, h.sorted, h.ids⟩
theorem OrdInv.late {p : List Ev} {x : Itk} (h : OrdInv p x) (l : List Ev) : OrdInv p { x with late := l } := ⟨h.ok, h.len, h.gone, h.taken, h.had, h.kept, h.sorted, h.ids⟩
theorem insE_perm (e : Ev) (l : List Ev) : (insE e l).Perm (e :: l) := by
  have h : l.takeWhile (fun a => !decide (LtE e a)) ++ l.dropWhile (fun a => !decide (LtE e a)) = l := List.takeWhile_append_dropWhile
  unfold insE
  conv => rhs; rw [← h]
  exact List.perm_middle
/-- refused: nothing new -/
theorem OrdInv.refuse {p : List Ev} {x : Itk} {e : Ev} (h : OrdInv p x) (hp : p.length ≤ 1000) (ha : AlikeP (p ++ [e])) (hr : x.refuses e = true) : OrdInv (p ++ [e]) x := by
  have key : (∀ a, a ∈ p ++ [e] ∧ mayB a = true ∧ (a.kind = 14 ∨ a.per ∉ x.gone) ↔ a ∈ p ∧ mayB a = true ∧ (a.kind = 14 ∨ a.per ∉ x.gone)) ∧ (mayB e = true → e.kind = 14 → e ∈ p) := by
    unfold Itk.refuses Itk.wrong at hr
    simp only [Bool.or_eq_true, Bool.not_eq_true', Bool.and_eq_true, decide_eq_true_eq, bne_iff_ne] at hr
    rcases hr with ((hr | ⟨hr, hk⟩) | hr) | hr
    · refine ⟨fun a => ?_, fun h' => by rw [hr] at h'; cases h'⟩
      rw [List.mem_append, List.mem_singleton]
      constructor
      · rintro ⟨h1 | rfl, h2⟩
        · exact ⟨h1, h2⟩
        · rw [hr] at h2; exact absurd h2.1 (by simp)
      · rintro ⟨h1, h2⟩; exact ⟨.inl h1, h2⟩
    · refine ⟨fun a => ?_, fun _ h' => absurd h' hk⟩
      rw [List.mem_append, List.mem_singleton]
      constructor
      · rintro ⟨h1 | rfl, h2⟩
        · exact ⟨h1, h2⟩
        · rcases h2.2 with h3 | h3
          · exact absurd h3 hk
          · exact absurd hr h3
      · rintro ⟨h1, h2⟩; exact ⟨.inl h1, h2⟩
    · have := h.len; omega
    · obtain ⟨e', he', _, h1, h2⟩ := h.had _ _ hr
      have : e' = e := ha e' (by simp [he']) e (by simp) h1 h2
      subst this
      refine ⟨fun a => ?_, fun _ _ => he'⟩
      rw [List.mem_append, List.mem_singleton]
      constructor
      · rintro ⟨k1 | k1, k2⟩
        · exact ⟨k1, k2⟩
        · exact ⟨k1 ▸ he', k2⟩
      · rintro ⟨k1, k2⟩; exact ⟨.inl k1, k2⟩
  refine ⟨h.ok, by have := h.len; simp; omega, fun q => ?_, fun a => ?_, fun s n hs => ?_, h.kept, h.sorted, h.ids⟩
  · rw [h.gone]
    constructor
    · rintro ⟨f, hf, h1⟩; exact ⟨f, by simp [hf], h1⟩
    · rintro ⟨f, hf, h1, h2, h3⟩
      rcases List.mem_append.1 hf with hf | hf
      · exact ⟨f, hf, h1, h2, h3⟩
      · rw [List.mem_singleton] at hf; subst hf; exact ⟨f, key.2 h1 h2, h1, h2, h3⟩
  · rw [h.taken, key.1]
  · obtain ⟨e', he', h1⟩ := h.had s n hs
    exact ⟨e', by simp [he'], h1⟩
/-- taken: it is there, and who is forgotten by it is gone -/
theorem OrdInv.took {p : List Ev} {x : Itk} {e : Ev} (h : OrdInv p x) (hr : x.refuses e = false) : OrdInv (p ++ [e]) (x.took e) := by
  obtain ⟨hm, hg, hh⟩ := not_refused hr
  have hput := may_put hm hh
  have hids : ((insE e x.taken).map idOf).Nodup := by
    rw [((insE_perm e x.taken).map idOf).nodup_iff, List.map_cons, List.nodup_cons]
    refine ⟨fun hc => ?_, h.ids⟩
    obtain ⟨a, ha, hai⟩ := List.mem_map.1 hc
    have := h.kept a ha
    unfold idOf at hai
    injection hai with h1 h2
    rw [h1, h2, hh] at this
    cases this
  have hhad : ∀ s n, hadB (putH x.had e.src e.num) s n = true → ∃ e' ∈ p ++ [e], mayB e' = true ∧ e'.src = s ∧ e'.num = n := fun s n hs => by
    rw [putH_had h.ok hput] at hs
    simp only [Bool.or_eq_true, Bool.and_eq_true, beq_iff_eq] at hs
    rcases hs with hs | ⟨rfl, rfl⟩
    · obtain ⟨e', he', h1⟩ := h.had s n hs
      exact ⟨e', by simp [he'], h1⟩
    · exact ⟨e, by simp, hm, rfl, rfl⟩
  have hkept : ∀ a ∈ insE e x.taken, hadB (putH x.had e.src e.num) a.src a.num = true := fun a ha => by
    rw [putH_had h.ok hput]
    rcases insE_mem.1 ha with rfl | ha
    · simp
    · simp [h.kept a ha]
  unfold Itk.took
  split
  · rename_i hk
    have hgn : ∀ q, q ∈ e.per :: x.gone ↔ GoneBy (p ++ [e]) q := fun q => by
      rw [List.mem_cons, h.gone]
      constructor
      · rintro (rfl | ⟨f, hf, h1⟩)
        · exact ⟨e, by simp, hm, hk, rfl⟩
        · exact ⟨f, by simp [hf], h1⟩
      · rintro ⟨f, hf, h1, h2, h3⟩
        rcases List.mem_append.1 hf with hf | hf
        · exact .inr ⟨f, hf, h1, h2, h3⟩
        · rw [List.mem_singleton] at hf; subst hf; exact .inl h3.symm
    refine ⟨h.ok.put hput, ?_, hgn, fun a => ?_, hhad, fun a ha => hkept a (List.mem_filter.1 ha).1, (insE_sorted h.sorted).filter _, (List.filter_sublist.map idOf).nodup hids⟩
    · show ((insE e x.taken).filter _).length ≤ _
      have := List.length_filter_le (keepB e.per) (insE e x.taken)
      rw [insE_length] at this
      have := h.len; simp; omega
    · show a ∈ (insE e x.taken).filter _ ↔ a ∈ p ++ [e] ∧ mayB a = true ∧ (a.kind = 14 ∨ a.per ∉ e.per :: x.gone)
      rw [List.mem_filter, insE_mem, h.taken, List.mem_append, List.mem_singleton]
      unfold keepB
      simp only [Bool.or_eq_true, bne_iff_ne, beq_iff_eq, List.mem_cons, not_or]
      constructor
      · rintro ⟨rfl | ⟨h1, h2, h3⟩, h4⟩
        · exact ⟨.inr rfl, hm, .inl hk⟩
        · refine ⟨.inl h1, h2, ?_⟩
          rcases h4 with h4 | h4
          · exact h3.imp id fun h3 => ⟨h4, h3⟩
          · exact .inl h4
      · rintro ⟨h1 | rfl, h2, h3⟩
        · exact ⟨.inr ⟨h1, h2, h3.imp id (·.2)⟩, h3.elim .inr fun h3 => .inl h3.1⟩
        · exact ⟨.inl rfl, .inr hk⟩
  · rename_i hk
    refine ⟨h.ok.put hput, ?_, fun q => ?_, fun a => ?_, hhad, hkept, insE_sorted h.sorted, hids⟩
    · show (insE e x.taken).length ≤ _
      rw [insE_length]
      have := h.len; simp; omega
    · show q ∈ x.gone ↔ _
      rw [h.gone]
      constructor
      · rintro ⟨f, hf, h1⟩; exact ⟨f, by simp [hf], h1⟩
      · rintro ⟨f, hf, h1, h2, h3⟩
        rcases List.mem_append.1 hf with hf | hf
        · exact ⟨f, hf, h1, h2, h3⟩
        · rw [List.mem_singleton] at hf; subst hf; exact absurd h2 hk
    · show a ∈ insE e x.taken ↔ a ∈ p ++ [e] ∧ mayB a = true ∧ (a.kind = 14 ∨ a.per ∉ x.gone)
      rw [insE_mem, h.taken, List.mem_append, List.mem_singleton]
      constructor
      · rintro (rfl | ⟨h1, h2⟩)
        · exact ⟨.inr rfl, hm, .inr fun h' => hk (hg h')⟩
        · exact ⟨.inl h1, h2⟩
      · rintro ⟨h1 | rfl, h2⟩
        · exact .inr ⟨h1, h2⟩
        · exact .inl rfl
theorem OrdInv.offer {p : List Ev} {x : Itk} {e : Ev} (h : OrdInv p x) (hp : p.length ≤ 1000) (ha : AlikeP (p ++ [e])) (now : Int) (hl : x.offered e now ≠ 2) : OrdInv (p ++ [e]) (x.offer e now) := by
  unfold Itk.offered at hl
  unfold Itk.offer
  have ht : OrdInv p (x.tick now) := h.clk _
  split
  · rename_i hr; exact ht.refuse hp ha hr
  · rename_i hr
    rw [if_neg hr] at hl
    split
    · exact (ht.clk _).took (show (x.tick now).refuses e = false by simpa using hr)
    · rename_i hh; rw [if_neg hh] at hl; exact absurd rfl hl
theorem OrdInv.admits {p : List Ev} {x : Itk} {e : Ev} (h : OrdInv p x) (hp : p.length ≤ 1000) (ha : AlikeP (p ++ [e])) : OrdInv (p ++ [e]) (x.admits e) := by
  unfold Itk.admits
  split
  · rename_i hr; exact h.refuse hp ha hr
  · rename_i hr
    exact (h.clk _).took (show x.refuses e = false by simpa using hr)
theorem ids_inj {l : List Ev} (h : (l.map idOf).Nodup) {a b : Ev} (ha : a ∈ l) (hb : b ∈ l) (he : idOf a = idOf b) : a = b := by
  induction l with
  | nil => simp at ha
  | cons c l ih =>
    rw [List.map_cons, List.nodup_cons] at h
    rcases List.mem_cons.1 ha with h1 | h1 <;> rcases List.mem_cons.1 hb with h2 | h2
    · rw [h1, h2]
    · exact absurd (List.mem_map.2 ⟨b, h2, he.symm.trans (by rw [h1])⟩) h.1
    · exact absurd (List.mem_map.2 ⟨a, h1, he.trans (by rw [h2])⟩) h.1
    · exact ih h.2 h1 h2
theorem leE_anti {l : List Ev} (h : (l.map idOf).Nodup) {a b : Ev} (ha : a ∈ l) (hb : b ∈ l) (h1 : LeE a b) (h2 : LeE b a) : a = b := by
  rcases LtE.total h2 with h3 | ⟨_, h3, h4⟩
  · exact absurd h3 h1
  · exact ids_inj h ha hb (by unfold idOf; rw [h3, h4])
/-- a sorted list is told by what is in it -/
theorem sorted_unique {l l' : List Ev} (h : SortedE l) (h' : SortedE l') (hi : (l.map idOf).Nodup) (hi' : (l'.map idOf).Nodup) (hm : ∀ e, e ∈ l ↔ e ∈ l') : l = l' := by
  have key : ∀ l : List Ev, (l.map idOf).Nodup → l.Nodup := fun l h => (List.pairwise_map.1 h).imp fun {a b} hne e => hne (congrArg idOf e)
  have n1 := key l hi
  have n2 := key l' hi'
  exact List.Perm.eq_of_pairwise (fun a b ha hb h1 h2 => leE_anti hi ha ((hm b).2 hb) h1 h2) h h' ((List.perm_ext_iff_of_nodup n1 n2).2 hm)
theorem OrdInv.same {p q : List Ev} {x y : Itk} (h : OrdInv p x) (h' : OrdInv q y) (hm : ∀ e, e ∈ p ↔ e ∈ q) : x.taken = y.taken ∧ ∀ r, r ∈ x.gone ↔ r ∈ y.gone := by
  have hg : ∀ r, r ∈ x.gone ↔ r ∈ y.gone := fun r => by
    rw [h.gone, h'.gone]
    unfold GoneBy
    constructor
    · rintro ⟨f, hf, h1⟩; exact ⟨f, (hm f).1 hf, h1⟩
    · rintro ⟨f, hf, h1⟩; exact ⟨f, (hm f).2 hf, h1⟩
  exact ⟨sorted_unique h.sorted h'.sorted h.ids h'.ids fun e => by rw [h.taken, h'.taken, hm, hg], hg⟩
end Go.Proofs.YtgbagjpokpchpaaGreatDoor
namespace Go.Proofs.YtgbagjpokpchpaaGreatDoor
open Go.RowKit Go.Maps Go.Sort

def Itk.deed (x : Itk) (d : Dd) : Itk :=
  if d.kind < 4 then x.offer d.e d.now else if d.kind = 4 then x.admits d.e else if d.kind = 5 then x.tick d.now else if d.kind = 6 then x.drop (fun e => e.per != d.per) else x
def Itk.grown (slack idle : Int) (ds : List Dd) : Itk := ds.foldl Itk.deed (Itk.new slack idle)
theorem grown_snoc (slack idle : Int) (ds : List Dd) (d : Dd) : Itk.grown slack idle (ds ++ [d]) = (Itk.grown slack idle ds).deed d := by unfold Itk.grown; rw [List.foldl_append]; rfl
theorem grown_take (slack idle : Int) (ds : List Dd) (k : Nat) (hk : k < ds.length) : Itk.grown slack idle (ds.take (k + 1)) = (Itk.grown slack idle (ds.take k)).deed ds[k] := by
  rw [List.take_add_one, List.getElem?_eq_getElem hk, Option.toList_some, grown_snoc]

theorem tick_now (c : Clk) (now : Int) : (c.tick now).now = max c.now (boundI now) := by unfold Clk.tick; rw [rise_now]
theorem tick_risen (c : Clk) (now : Int) : (c.tick now).rise = c.tick now := rise_rise _
theorem hear_risen (c : Clk) (s : List UInt8) (at_ now : Int) : (c.hear s at_ now).rise = c.hear s at_ now := by
  unfold Clk.hear
  split
  · exact rise_rise _
  · exact tick_risen c now
theorem hear_now (c : Clk) (s : List UInt8) (at_ now : Int) : (c.hear s at_ now).now = max c.now (boundI now) := by
  unfold Clk.hear
  split
  · unfold Clk.heard; rw [rise_now]; exact tick_now c now
  · exact tick_now c now
theorem tick_same {c : Clk} (h : c.rise = c) {now : Int} (hn : boundI now ≤ c.now) : c.tick now = c := by
  unfold Clk.tick
  have : max c.now (boundI now) = c.now := by omega
  rw [this]
  exact h
/-- what holds behind whatever deeds -/
structure PlayInv (x : Itk) : Prop where
  inv : ItkInv (fun _ => True) x
  ok : HadOk x.had
  sorted : SortedE x.taken
  ids : (x.taken.map idOf).Nodup
  kept : ∀ e ∈ x.taken, hadB x.had e.src e.num = true
  may : ∀ e, e ∈ x.taken ∨ e ∈ x.late → mayB e = true
  risen : x.clk.rise = x.clk
  now : 0 ≤ x.clk.now
theorem PlayInv.new (slack idle : Int) : PlayInv (Itk.new slack idle) :=
  ⟨ItkInv.new _ _ _, HadOk.nil, List.Pairwise.nil, by simp [Itk.new], fun e he => by simp [Itk.new] at he, fun e he => by simp [Itk.new] at he, by rfl, by simp [Itk.new, Clk.new]⟩
theorem PlayInv.clk {x : Itk} (h : PlayInv x) {c : Clk} (h1 : c.rise = c) (h2 : 0 ≤ c.now) : PlayInv { x with clk := c } := ⟨⟨h.inv.taken, h.inv.late, h.inv.gone, h.inv.stay, h.inv.forg⟩, h.ok, h.sorted, h.ids, h.kept, h.may, h1, h2⟩
theorem PlayInv.tick {x : Itk} (h : PlayInv x) (now : Int) : PlayInv (x.tick now) := h.clk (tick_risen _ _) (by rw [tick_now]; have := h.now; omega)
theorem PlayInv.hear {x : Itk} (h : PlayInv x) (e : Ev) (now : Int) : PlayInv (x.hear e now) := h.clk (hear_risen _ _ _ _) (by rw [hear_now]; have := h.now; omega)
theorem PlayInv.drop {x : Itk} (h : PlayInv x) (p : Ev → Bool) : PlayInv (x.drop p) :=
  ⟨h.inv.drop p, h.ok, h.sorted.filter p, (List.filter_sublist.map idOf).nodup h.ids, fun e he => h.kept e (List.mem_filter.1 he).1, fun e he => h.may e (he.imp (fun h => (List.mem_filter.1 h).1) (fun h => (List.mem_filter.1 h).1)), h.risen, h.now⟩
theorem PlayInv.took {x : Itk} {e : Ev} (h : PlayInv x) (hr : x.refuses e = false) : PlayInv (x.took e) := by
  obtain ⟨hm, hg, hh⟩ := not_refused hr
  have hput := may_put hm hh
  have hids : ((insE e x.taken).map idOf).Nodup := by
    rw [((insE_perm e x.taken).map idOf).nodup_iff, List.map_cons, List.nodup_cons]
    refine ⟨fun hc => ?_, h.ids⟩
    obtain ⟨a, ha, hai⟩ := List.mem_map.1 hc
    have := h.kept a ha
    unfold idOf at hai
    injection hai with h1 h2
    rw [h1, h2, hh] at this
    cases this
  have hkept : ∀ a ∈ insE e x.taken, hadB (putH x.had e.src e.num) a.src a.num = true := fun a ha => by
    rw [putH_had h.ok hput]
    rcases insE_mem.1 ha with rfl | ha
    · simp
    · simp [h.kept a ha]
  have hmay : ∀ a ∈ insE e x.taken, mayB a = true := fun a ha => by
    rcases insE_mem.1 ha with rfl | ha
    · exact hm
    · exact h.may a (.inl ha)
  have hinv := h.inv.took (e := e) trivial hg
  unfold Itk.took at hinv ⊢
  split
  · rename_i hk
    rw [if_pos hk] at hinv
    exact ⟨hinv, h.ok.put hput, (insE_sorted h.sorted).filter _, (List.filter_sublist.map idOf).nodup hids, fun a ha => hkept a (List.mem_filter.1 ha).1, fun a ha => by
      rcases ha with ha | ha
      · exact hmay a (List.mem_filter.1 ha).1
      · exact h.may a (.inr (List.mem_filter.1 ha).1), h.risen, h.now⟩
  · rename_i hk
    rw [if_neg hk] at hinv
    exact ⟨hinv, h.ok.put hput, insE_sorted h.sorted, hids, hkept, fun a ha => ha.elim (hmay a) (fun h' => h.may a (.inr h')), h.risen, h.now⟩
theorem PlayInv.lates {x : Itk} {e : Ev} (h : PlayInv x) (hr : x.refuses e = false) : PlayInv (x.lates e) := by
  obtain ⟨hm, hg, hh⟩ := not_refused hr
  have hinv := h.inv.lates (e := e) trivial hg
  unfold Itk.lates at hinv ⊢
  split
  · exact h
  · rename_i hk
    rw [if_neg hk] at hinv
    exact ⟨hinv, h.ok, h.sorted, h.ids, h.kept, fun a ha => by
      rcases ha with ha | ha
      · exact h.may a (.inl ha)
      · rcases List.mem_append.1 ha with ha | ha
        · exact h.may a (.inr ha)
        · rw [List.mem_singleton] at ha; rw [ha]; exact hm, h.risen, h.now⟩
theorem PlayInv.offer {x : Itk} (h : PlayInv x) (e : Ev) (now : Int) : PlayInv (x.offer e now) := by
  unfold Itk.offer
  split
  · exact h.tick now
  · rename_i hr
    split
    · exact ((h.tick now).hear e now).took (show (x.tick now).refuses e = false by simpa using hr)
    · exact ((h.tick now).hear e now).lates (show (x.tick now).refuses e = false by simpa using hr)
theorem PlayInv.admits {x : Itk} (h : PlayInv x) (e : Ev) : PlayInv (x.admits e) := by
  unfold Itk.admits
  split
  · exact h
  · rename_i hr
    exact (h.hear e _).took (show x.refuses e = false by simpa using hr)
theorem PlayInv.deed {x : Itk} (h : PlayInv x) (d : Dd) : PlayInv (x.deed d) := by
  unfold Itk.deed
  split
  · exact h.offer _ _
  split
  · exact h.admits _
  split
  · exact h.tick _
  split
  · exact h.drop _
  · exact h
theorem PlayInv.grown (slack idle : Int) (ds : List Dd) : PlayInv (Itk.grown slack idle ds) := by
  unfold Itk.grown
  have key : ∀ (ds : List Dd) (x : Itk), PlayInv x → PlayInv (ds.foldl Itk.deed x) := fun ds => by
    induction ds with
    | nil => exact fun x h => h
    | cons d ds ih => exact fun x h => ih _ (h.deed d)
  exact key ds _ (PlayInv.new slack idle)
/-- the clock behind an offer at a now stands there -/
theorem offer_now (x : Itk) (e : Ev) (now : Int) : (x.offer e now).clk.now = max x.clk.now (boundI now) := by
  unfold Itk.offer
  split
  · exact tick_now _ _
  · split
    · have : ∀ z : Itk, (z.took e).clk = z.clk := fun z => by unfold Itk.took; split <;> rfl
      rw [this]
      show ((x.clk.tick now).hear e.src e.at_ now).now = _
      rw [hear_now, tick_now]; omega
    · have : ∀ z : Itk, (z.lates e).clk = z.clk := fun z => by unfold Itk.lates; split <;> rfl
      rw [this]
      show ((x.clk.tick now).hear e.src e.at_ now).now = _
      rw [hear_now, tick_now]; omega
theorem PlayInv.tick_same {x : Itk} (h : PlayInv x) {now : Int} (hn : boundI now ≤ x.clk.now) : x.tick now = x := by
  unfold Itk.tick
  rw [Go.Proofs.YtgbagjpokpchpaaGreatDoor.tick_same h.risen hn]
theorem bound0 : boundI 0 = 0 := by unfold boundI; omega
/-- what an intake has taken is a double -/
theorem PlayInv.double {x : Itk} (h : PlayInv x) (hl : x.taken.length < 1048576) {e e' : Ev} (he : e ∈ x.taken) (hm : mayB e' = true) (h1 : e'.src = e.src) (h2 : e'.num = e.num) (h3 : e'.per = e.per) (h4 : e'.kind = e.kind) : x.verdict e' = 1 ∧ x.refuses e' = true := by
  have hw : x.wrong e' = false := by
    unfold Itk.wrong
    rw [hm, h3, h4]
    have : (decide (e.per ∈ x.gone) && (e.kind != 14)) = false := by
      by_cases hg : e.per ∈ x.gone
      · have := h.inv.stay e (.inl he) hg; simp [this]
      · simp [hg]
    rw [this, decide_eq_false (show ¬ 1048576 ≤ x.taken.length by omega)]; rfl
  have hh : hadB x.had e'.src e'.num = true := by rw [h1, h2]; exact h.kept e he
  unfold Itk.verdict Itk.refuses
  rw [hw, hh]
  exact ⟨rfl, rfl⟩
end Go.Proofs.YtgbagjpokpchpaaGreatDoor
