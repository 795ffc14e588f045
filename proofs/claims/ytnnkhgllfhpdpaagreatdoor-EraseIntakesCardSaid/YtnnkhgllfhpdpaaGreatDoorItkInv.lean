/-
  Layer 8, plain: nobody who is gone has an event but Forgotten ones.
-/
import Derived.Test.YtnnkhgllfhpdpaaGreatDoorItkPlain
import Derived.Test.YtnnkhgllfhpdpaaGreatDoorErClean
namespace Go.Proofs.YtnnkhgllfhpdpaaGreatDoor
open Go.RowKit Go.Maps Go.Sort

structure ItkInv (P : Ev → Prop) (x : Itk) : Prop where
  taken : ∀ e ∈ x.taken, P e
  late : ∀ e ∈ x.late, P e
  gone : ∀ p ∈ x.gone, ∃ e, P e ∧ e.per = p
  stay : ∀ e, e ∈ x.taken ∨ e ∈ x.late → e.per ∈ x.gone → e.kind = 14
  forg : ∀ e ∈ x.taken, e.kind = 14 → e.per ∈ x.gone
theorem ItkInv.new (P : Ev → Prop) (slack idle : Int) : ItkInv P (Itk.new slack idle) :=
  ⟨fun e he => by simp [Itk.new] at he, fun e he => by simp [Itk.new] at he, fun e he => by simp [Itk.new] at he, fun e he => by simp [Itk.new] at he, fun e he => by simp [Itk.new] at he⟩
theorem ItkInv.tick {P : Ev → Prop} {x : Itk} (h : ItkInv P x) (now : Int) : ItkInv P (x.tick now) := ⟨h.taken, h.late, h.gone, h.stay, h.forg⟩
theorem ItkInv.hear {P : Ev → Prop} {x : Itk} (h : ItkInv P x) (e : Ev) (now : Int) : ItkInv P (x.hear e now) := ⟨h.taken, h.late, h.gone, h.stay, h.forg⟩
theorem ItkInv.drop {P : Ev → Prop} {x : Itk} (h : ItkInv P x) (p : Ev → Bool) : ItkInv P (x.drop p) :=
  ⟨fun e he => h.taken e (List.mem_filter.1 he).1, fun e he => h.late e (List.mem_filter.1 he).1, h.gone, fun e he => h.stay e (he.imp (fun h => (List.mem_filter.1 h).1) (fun h => (List.mem_filter.1 h).1)), fun e he => h.forg e (List.mem_filter.1 he).1⟩
theorem ItkInv.took {P : Ev → Prop} {x : Itk} (h : ItkInv P x) {e : Ev} (he : P e) (hw : e.per ∈ x.gone → e.kind = 14) : ItkInv P (x.took e) := by
  unfold Itk.took
  split
  · rename_i hk
    refine ⟨fun a ha => ?_, fun a ha => ?_, fun p hp => ?_, fun a ha hg => ?_, fun a ha _ => ?_⟩
    · rcases insE_mem.1 (List.mem_filter.1 ha).1 with rfl | ha
      · exact he
      · exact h.taken a ha
    · exact h.late a (List.mem_filter.1 ha).1
    · have hp' : p ∈ e.per :: x.gone := hp
      rcases List.mem_cons.1 hp' with rfl | hp'
      · exact ⟨e, he, rfl⟩
      · exact h.gone p hp'
    · have hg' : a.per ∈ e.per :: x.gone := hg
      have hkeep : keepB e.per a = true := by rcases ha with ha | ha <;> exact (List.mem_filter.1 ha).2
      by_cases hp : a.per = e.per
      · unfold keepB at hkeep; simpa [hp] using hkeep
      · have hg2 : a.per ∈ x.gone := by rcases List.mem_cons.1 hg' with h' | h'; exact absurd h' hp; exact h'
        rcases ha with ha | ha
        · rcases insE_mem.1 (List.mem_filter.1 ha).1 with rfl | ha
          · exact hk
          · exact h.stay a (.inl ha) hg2
        · exact h.stay a (.inr (List.mem_filter.1 ha).1) hg2
    · show a.per ∈ e.per :: x.gone
      rcases insE_mem.1 (List.mem_filter.1 ha).1 with rfl | ha'
      · simp
      · exact List.mem_cons_of_mem _ (h.forg a ha' (by assumption))
  · rename_i hk
    refine ⟨fun a ha => ?_, h.late, h.gone, fun a ha hg => ?_, fun a ha hk' => ?_⟩
    · rcases insE_mem.1 ha with rfl | ha
      · exact he
      · exact h.taken a ha
    · rcases ha with ha | ha
      · rcases insE_mem.1 ha with rfl | ha
        · exact hw hg
        · exact h.stay a (.inl ha) hg
      · exact h.stay a (.inr ha) hg
    · rcases insE_mem.1 ha with rfl | ha
      · exact absurd hk' hk
      · exact h.forg a ha hk'
theorem ItkInv.lates {P : Ev → Prop} {x : Itk} (h : ItkInv P x) {e : Ev} (he : P e) (hw : e.per ∈ x.gone → e.kind = 14) : ItkInv P (x.lates e) := by
  unfold Itk.lates
  split
  · exact h
  · refine ⟨h.taken, fun a ha => ?_, h.gone, fun a ha hg => ?_, h.forg⟩
    · rcases List.mem_append.1 ha with ha | ha
      · exact h.late a ha
      · simp at ha; subst ha; exact he
    · rcases ha with ha | ha
      · exact h.stay a (.inl ha) hg
      · rcases List.mem_append.1 ha with ha | ha
        · exact h.stay a (.inr ha) hg
        · simp at ha; subst ha; exact hw hg
theorem not_refused {x : Itk} {e : Ev} (h : x.refuses e = false) : mayB e = true ∧ (e.per ∈ x.gone → e.kind = 14) ∧ hadB x.had e.src e.num = false := by
  unfold Itk.refuses Itk.wrong at h
  simp only [Bool.or_eq_false_iff, Bool.not_eq_false', Bool.and_eq_false_iff, decide_eq_false_iff_not] at h
  refine ⟨h.1.1.1, fun hg => ?_, h.2⟩
  rcases h.1.1.2 with h' | h'
  · exact absurd hg h'
  · simpa using h'
theorem ItkInv.offer {P : Ev → Prop} {x : Itk} (h : ItkInv P x) {e : Ev} (he : P e) (now : Int) : ItkInv P (x.offer e now) := by
  unfold Itk.offer
  split
  · exact h.tick now
  · rename_i hr
    have hn := not_refused (by simpa using hr)
    split
    · exact ((h.tick now).hear e now).took he hn.2.1
    · exact ((h.tick now).hear e now).lates he hn.2.1
theorem ItkInv.admits {P : Ev → Prop} {x : Itk} (h : ItkInv P x) {e : Ev} (he : P e) : ItkInv P (x.admits e) := by
  unfold Itk.admits
  split
  · exact h
  · rename_i hr
    have hn := not_refused (by simpa using hr)
    exact (h.hear e _).took he hn.2.1
/-- nothing of the gone is left -/
theorem ItkInv.out {P : Ev → Prop} {x : Itk} (h : ItkInv P x) {e : Ev} (he : e ∈ x.taken ∨ e ∈ x.late) : outB x.gone e = true := by
  unfold outB ownB
  by_cases hg : e.per ∈ x.gone
  · have := h.stay e he hg
    simp [this]
  · simp [hg]
theorem ItkInv.none {P : Ev → Prop} {x : Itk} (h : ItkInv P x) {p : List UInt8} (hp : p ∈ x.gone) {e : Ev} (he : e ∈ x.taken ∨ e ∈ x.late) : ownB p e = false := by
  unfold ownB
  by_cases hg : e.per = p
  · have := h.stay e he (hg ▸ hp)
    simp [this]
  · simp [hg]
theorem ItkInv.clean {P : Ev → Prop} {x : Itk} (h : ItkInv P x) : x.taken.filter (outB (goneL x.taken)) = x.taken := by
  rw [List.filter_eq_self]
  intro e he
  unfold outB
  by_cases hg : e.per ∈ goneL x.taken
  · have hg' : e.per ∈ x.gone := by
      unfold goneL at hg
      obtain ⟨f, hf, hfp⟩ := List.mem_map.1 hg
      obtain ⟨hf1, hf2⟩ := List.mem_filter.1 hf
      unfold forgetB at hf2
      simp only [Bool.and_eq_true, beq_iff_eq] at hf2
      rw [← hfp]; exact h.forg f hf1 hf2.1.1.1.1.1
    have := h.stay e (.inl he) hg'
    unfold ownB; simp [this]
  · simp [hg]
theorem ItkInv.drops {P : Ev → Prop} {x : Itk} (h : ItkInv P x) : x.drop (outB x.gone) = x := by
  unfold Itk.drop
  rw [List.filter_eq_self.2 (fun e he => h.out (.inl he)), List.filter_eq_self.2 (fun e he => h.out (.inr he))]
end Go.Proofs.YtnnkhgllfhpdpaaGreatDoor
