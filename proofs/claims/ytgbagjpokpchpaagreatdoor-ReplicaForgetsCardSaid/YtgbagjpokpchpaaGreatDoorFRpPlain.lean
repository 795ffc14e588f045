/-
  Layer 33, plain: of whoever is forgotten nothing counts, wherever it stood.
-/
import Derived.Test.YtgbagjpokpchpaaGreatDoorFAdmAll
namespace Go.Proofs.YtgbagjpokpchpaaGreatDoor
open Go.RowKit Go.Maps Go.Sort

/-- those of events that a person's forgetting leaves -/
def leftB (p : List UInt8) (e : Ev) : Bool := (e.per != p) || (e.kind == 14)
theorem left_gone {l : List Ev} (p q : List UInt8) : GoneBy (l.filter (leftB p)) q ↔ GoneBy l q := by
  constructor
  · rintro ⟨f, h1, h2⟩; exact ⟨f, (List.mem_filter.1 h1).1, h2⟩
  · rintro ⟨f, h1, h2, h3, h4⟩; exact ⟨f, List.mem_filter.2 ⟨h1, by unfold leftB; simp [h3]⟩, h2, h3, h4⟩
theorem alike_of_ids {l : List Ev} (h : (l.map idOf).Nodup) : AlikeP l := fun a ha b hb h1 h2 => ids_inj h ha hb (by unfold idOf; rw [h1, h2])
theorem adm_all {l : List Ev} (hi : (l.map idOf).Nodup) (hl : l.length ≤ 1000) : OrdInv l (admAll (Itk.new 0 0) l) := by
  have := adm_inv (alike_of_ids hi) hl l.length (Nat.le_refl _)
  rw [List.take_length] at this
  exact this
theorem forgets_same {l : List Ev} {p : List UInt8} (hi : (l.map idOf).Nodup) (hl : l.length ≤ 1000) (hg : GoneBy l p) :
    (admAll (Itk.new 0 0) l).taken = (admAll (Itk.new 0 0) (l.filter (leftB p))).taken ∧ ∀ q, q ∈ (admAll (Itk.new 0 0) l).gone ↔ q ∈ (admAll (Itk.new 0 0) (l.filter (leftB p))).gone := by
  have hi2 : ((l.filter (leftB p)).map idOf).Nodup := (List.filter_sublist.map idOf).nodup hi
  have h1 := adm_all hi hl
  have h2 := adm_all hi2 (Nat.le_trans (List.length_filter_le _ _) hl)
  have hgo : ∀ q, q ∈ (admAll (Itk.new 0 0) l).gone ↔ q ∈ (admAll (Itk.new 0 0) (l.filter (leftB p))).gone := fun q => by
    rw [h1.gone, h2.gone, left_gone]
  refine ⟨sorted_unique h1.sorted h2.sorted h1.ids h2.ids fun e => ?_, hgo⟩
  rw [h1.taken, h2.taken, List.mem_filter]
  constructor
  · rintro ⟨a, b, c⟩
    refine ⟨⟨a, ?_⟩, b, c.imp id fun hc hq => hc ((hgo _).2 hq)⟩
    unfold leftB
    rcases c with c | c
    · simp [c]
    · have : e.per ≠ p := fun hp => c (by rw [hp]; exact (h1.gone p).2 hg)
      simp [this]
  · rintro ⟨⟨a, _⟩, b, c⟩
    exact ⟨a, b, c.imp id fun hc hq => hc ((hgo _).1 hq)⟩
end Go.Proofs.YtgbagjpokpchpaaGreatDoor
