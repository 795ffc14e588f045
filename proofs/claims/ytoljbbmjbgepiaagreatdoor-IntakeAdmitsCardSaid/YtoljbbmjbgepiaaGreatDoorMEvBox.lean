/-
  A variable that holds an event.
-/
import Derived.Test.YtoljbbmjbgepiaaGreatDoorMEven
namespace Go.Proofs.YtoljbbmjbgepiaaGreatDoor
open Go.RowKit Go.Maps Go.Sort

/-- a block that is an event -/
def EvB (w : World) (g : Nat) (e : Ev) : Prop := w.heap[g]? = some (evObj e)
theorem EvB.new (w : World) (e : Ev) : EvB (w.alloc (evObj e)) w.heap.size e := heap_alloc_new w (evObj e)
theorem EvB.in_ {w : World} {g : Nat} {e : Ev} (h : EvB w g e) : EvIn w g e := by
  have key : ∀ o, w.cell? ⟨g, o, none⟩ = _ := fun o => cell_of_row w g o _ _ (0, 0) h
  exact ⟨(key 0).trans rfl, (key 1).trans rfl, (key 2).trans rfl, (key 3).trans rfl, (key 4).trans rfl, (key 5).trans rfl, (key 6).trans rfl, (key 7).trans rfl⟩
theorem EvB.frozen {w : World} {g : Nat} {e : Ev} (h : EvB w g e) (o : Nat) : w.frozen? ⟨g, o, none⟩ = false := frozen_of_row w g o _ _ h
theorem EvB.lt {w : World} {g : Nat} {e : Ev} (h : EvB w g e) : g < w.heap.size := heap_lt h
theorem EvB.below {w w' : World} {g B : Nat} {e : Ev} (h : EvB w g e) (hb : Below B w w') (hB : g < B) : EvB w' g e := (hb.block g hB).trans h
theorem EvB.up {w w' : World} {g : Nat} {e : Ev} (h : EvB w g e) (hb : Below w.heap.size w w') : EvB w' g e := h.below hb h.lt
theorem EvB.keep {w w' : World} {F : Nat → Prop} {g : Nat} {e : Ev} (h : EvB w g e) (hk : Keep F w w') (hF : ¬ F g) : EvB w' g e := (hk.block g h.lt hF).trans h
theorem EvB.setAt {w : World} {g : Nat} {e : Ev} (h : EvB w g e) (o : Int) : EvB (w.setCell ⟨g, 2, none⟩ (.int .i64 o)) g { e with at_ := o } := heap_set_row h
theorem EvB.setKind {w : World} {g : Nat} {e : Ev} (h : EvB w g e) (o : Int) : EvB (w.setCell ⟨g, 3, none⟩ (.int .i64 o)) g { e with kind := o } := heap_set_row h
theorem EvB.setPer {w : World} {g : Nat} {e : Ev} (h : EvB w g e) (p : List UInt8) : EvB (w.setCell ⟨g, 4, none⟩ (.string ⟨p.toArray⟩)) g { e with per := p } := heap_set_row h
theorem keepCell (w : World) (g o : Nat) (v : Value) : Keep (fun b => b = g) w (w.setCell ⟨g, o, none⟩ v) := keepSet w g o v
theorem rin_same (w : World) (B : Nat) (A : Option Addr) (n c : Nat) (ss : List (List UInt8)) (h : Strs w B A n c ss) (hn : n ≤ 100000) (s : List UInt8) {b : Bool} (hb : decide (s ∈ ss) = b) :
    Calls Tryz.prog 29 #[.slice A n c, .string ⟨s.toArray⟩] w fun e w' => e = .returned (.bool b) ∧ w' = w := (rin08_any w B A n c ss h hn s).mono fun _ _ h => ⟨by rw [← hb]; exact h.1, h.2.symm⟩
theorem MaxAt.keep {w w' : World} {F : Nat → Prop} (h : MaxAt w) (hk : Keep F w w') (hF : ¬ F 0) : MaxAt w' := h.out hk hF
end Go.Proofs.YtoljbbmjbgepiaaGreatDoor
