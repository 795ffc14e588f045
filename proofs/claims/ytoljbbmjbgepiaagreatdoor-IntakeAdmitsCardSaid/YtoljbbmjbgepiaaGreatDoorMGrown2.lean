/-
  Both intakes: a deed at the program's alone that changes nothing; a store beside both.
-/
import Derived.Test.YtoljbbmjbgepiaaGreatDoorMGrown
import Derived.Test.YtoljbbmjbgepiaaGreatDoorMItkSet
import Derived.Test.YtoljbbmjbgepiaaGreatDoorMGrLaws
import Derived.Test.YtoljbbmjbgepiaaGreatDoorMEvBox
namespace Go.Proofs.YtoljbbmjbgepiaaGreatDoor
open Go.RowKit Go.Maps Go.Sort Go.Shelf

/-- a deed at the program's intake alone that changes nothing -/
theorem BothN.own2 {w wr w2 : World} {F S : Nat → Prop} {q bi bm bc N M : Nat} {x : Itk} (h : BothN w q F bi bm bc S N x wr) (hM : N ≤ M) (hd : Deeds wr F bi M x w2) : ∃ F', BothN w q F' bi bm bc S M x w2 ∧ Keep F wr w2 ∧ ∀ b, F' b → F b ∨ wr.heap.size ≤ b := by
  have hr := h.both.ref1 hd
  obtain ⟨F', hi, hk, hF⟩ := hd
  have hs := h.bel.size
  have hbm := h.both.ref.lt; have hbc := h.both.ref.clk.lt
  have h3 := h.lo; have h4 := h.hi; have h5 := hk.size
  refine ⟨F', ⟨⟨hi, hr.more hM, fun b hb' => ?_⟩, h.bel.trans (hk.below hs (fun b hb' hf => by have := h.newF b hf; omega)), fun b hb' => ?_, h.newS, h.bm0, h.bc0, h3, by omega⟩, hk, hF⟩
  · rcases hF b hb' with h' | h'
    · exact h.both.ap b h'
    · exact ⟨fun hs' => by have := h.both.ref.clk.low b hs'; omega, by omega, by omega⟩
  · rcases hF b hb' with h' | h'
    · exact h.newF b h'
    · omega
/-- beside both -/
def Off (F S : Nat → Prop) (bm bc g : Nat) : Prop := ¬ F g ∧ ¬ S g ∧ g ≠ bm ∧ g ≠ bc
theorem BothN.set {w wr : World} {F S : Nat → Prop} {q bi bm bc N g : Nat} {x : Itk} (h : BothN w q F bi bm bc S N x wr) (o : Nat) (v : Value) (hg : Off F S bm bc g) (h3 : w.heap.size ≤ g) : BothN w q F bi bm bc S N x (wr.setCell ⟨g, o, none⟩ v) :=
  h.aside (keepCell wr g o v) hg.1 hg.2.1 hg.2.2.1 hg.2.2.2 h3
theorem BothN.besides {w wr w2 : World} {F S K : Nat → Prop} {q bi bm bc N : Nat} {x : Itk} (h : BothN w q F bi bm bc S N x wr) (hk : Keep K wr w2) (hK : ∀ b, K b → Off F S bm bc b ∧ w.heap.size ≤ b) : BothN w q F bi bm bc S N x w2 :=
  ⟨⟨h.both.itk.keep hk.size (fun b hb => hk.block b (h.both.itk.low hb) (fun e => (hK b e).1.1 hb)), h.both.ref.stay hk (fun b e => (hK b e).1.2), h.both.ap⟩, h.bel.trans (hk.below h.bel.size (fun b hb e => by have := (hK b e).2; omega)), h.newF, h.newS, h.bm0, h.bc0, h.lo, Nat.le_trans h.hi hk.size⟩
theorem Off.next {F F' S : Nat → Prop} {bm bc g n : Nat} (h : Off F S bm bc g) (hF : ∀ b, F' b → F b ∨ n ≤ b) (hg : g < n) : Off F' S bm bc g :=
  ⟨fun hf => (hF g hf).elim h.1 (fun h => by omega), h.2⟩
theorem BothN.off {w wr : World} {F S : Nat → Prop} {q bi bm bc N g : Nat} {x : Itk} (h : BothN w q F bi bm bc S N x wr) (hg : g < q) : Off F S bm bc g :=
  ⟨fun hf => by have := h.newF g hf; omega, fun hf => by have := h.newS g hf; omega, by have := h.bm0; omega, by have := h.bc0; omega⟩
theorem BothN.offNew {w wr : World} {F S : Nat → Prop} {q bi bm bc N g : Nat} {x : Itk} (h : BothN w q F bi bm bc S N x wr) (hg : wr.heap.size ≤ g) : Off F S bm bc g :=
  ⟨fun hf => by have := h.both.itk.low hf; omega, fun hf => by have := h.both.ref.clk.low g hf; omega, by have := h.both.ref.lt; omega, by have := h.both.ref.clk.lt; omega⟩
end Go.Proofs.YtoljbbmjbgepiaaGreatDoor
