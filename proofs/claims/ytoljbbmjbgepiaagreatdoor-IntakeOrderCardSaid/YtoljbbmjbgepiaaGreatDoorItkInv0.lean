/-
  Layer 8, plain: what isn't refused.
-/
import Derived.Test.YtoljbbmjbgepiaaGreatDoorItkPlain
namespace Go.Proofs.YtoljbbmjbgepiaaGreatDoor
open Go.RowKit Go.Maps Go.Sort

theorem not_refused {x : Itk} {e : Ev} (h : x.refuses e = false) : mayB e = true ∧ (e.per ∈ x.gone → e.kind = 14) ∧ hadB x.had e.src e.num = false := by
  unfold Itk.refuses Itk.wrong at h
  simp only [Bool.or_eq_false_iff, Bool.not_eq_false', Bool.and_eq_false_iff, decide_eq_false_iff_not] at h
  refine ⟨h.1.1.1, fun hg => ?_, h.2⟩
  rcases h.1.1.2 with h' | h'
  · exact absurd hg h'
  · simpa using h'
end Go.Proofs.YtoljbbmjbgepiaaGreatDoor
