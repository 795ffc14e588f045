/-
  What the law SnapshotForgets wants besides: a variable that holds an event; who is forgotten.
-/
import Derived.Test.YtbejfgmdkmddnaaGreatDoorSSnHelp
import Derived.Test.YtbejfgmdkmddnaaGreatDoorSItkAdmit
import Derived.Test.YtbejfgmdkmddnaaGreatDoorSOpenEvs
import Derived.Test.YtbejfgmdkmddnaaGreatDoorSItkInv
import Derived.Test.YtbejfgmdkmddnaaGreatDoorSParts
namespace Go.Proofs.YtbejfgmdkmddnaaGreatDoor
open Go.RowKit Go.Maps Go.Sort

/-- a block that is an event -/
def EvB (w : World) (g : Nat) (e : Ev) : Prop := w.heap[g]? = some (evObj e)
theorem EvB.new (w : World) (e : Ev) : EvB (w.alloc (evObj e)) w.heap.size e := heap_alloc_new w (evObj e)
theorem EvB.in_ {w : World} {g : Nat} {e : Ev} (h : EvB w g e) : EvIn w g e := by
  have key : ∀ o, w.cell? ⟨g, o, none⟩ = _ := fun o => cell_of_row w g o _ _ (0, 0) h
  exact ⟨(key 0).trans rfl, (key 1).trans rfl, (key 2).trans rfl, (key 3).trans rfl, (key 4).trans rfl, (key 5).trans rfl, (key 6).trans rfl, (key 7).trans rfl⟩
theorem EvB.frozen {w : World} {g : Nat} {e : Ev} (h : EvB w g e) (o : Nat) : w.frozen? ⟨g, o, none⟩ = false := frozen_of_row w g o _ _ h
theorem EvB.lt {w : World} {g : Nat} {e : Ev} (h : EvB w g e) : g < w.heap.size := heap_lt h
theorem EvB.below {w w' : World} {g B : Nat} {e : Ev} (h : EvB w g e) (hb : Below B w w') (hB : g < B) : EvB w' g e := (hb.block g hB).trans h
theorem EvB.up {w w' : World} {g : Nat} {e : Ev} (h : EvB w g e) (hb : Below w.heap.size w w') : EvB w' g e := h.below hb h.lt
theorem EvB.keep {w w' : World} {F : Nat → Prop} {g : Nat} {e : Ev} (h : EvB w g e) (hk : Keep F w w') (hF : ¬ F g) : EvB w' g e := (hk.block g h.lt hF).trans h
theorem EvB.setKind {w : World} {g : Nat} {e : Ev} (h : EvB w g e) (o : Int) : EvB (w.setCell ⟨g, 3, none⟩ (.int .i64 o)) g { e with kind := o } := heap_set_row h
theorem EvB.setPer {w : World} {g : Nat} {e : Ev} (h : EvB w g e) (p : List UInt8) : EvB (w.setCell ⟨g, 4, none⟩ (.string ⟨p.toArray⟩)) g { e with per := p } := heap_set_row h
theorem keepCell (w : World) (g o : Nat) (v : Value) : Keep (fun b => b = g) w (w.setCell ⟨g, o, none⟩ v) := (Keep.refl (fun b => b = g) w).setCell (p := ⟨g, o, none⟩) (fun _ => rfl) v
theorem tick_same {c : Clk} (h : c.rise = c) {now : Int} (hn : boundI now ≤ c.now) : c.tick now = c := by
  unfold Clk.tick
  have : max c.now (boundI now) = c.now := by omega
  rw [this]
  exact h
theorem PlayInv.tick_same {x : Itk} (h : PlayInv x) {now : Int} (hn : boundI now ≤ x.clk.now) : x.tick now = x := by
  unfold Itk.tick
  rw [Go.Proofs.YtbejfgmdkmddnaaGreatDoor.tick_same h.risen hn]
theorem offer_same {x : Itk} {e : Ev} {now : Int} (ht : x.tick now = x) (hr : x.refuses e = true) : x.offer e now = x ∧ x.offered e now = x.verdict e := by
  unfold Itk.offer Itk.offered
  rw [ht, if_pos hr, if_pos hr]
  exact ⟨rfl, rfl⟩
theorem admit_same {x : Itk} {e : Ev} (hr : x.refuses e = true) : x.admits e = x ∧ x.admitted e = x.verdict e := by
  unfold Itk.admits Itk.admitted
  rw [if_pos hr, if_pos hr]
  exact ⟨rfl, rfl⟩
theorem wrong_gone {y : Itk} {e : Ev} (hp : e.per ∈ y.gone) (hk : e.kind ≠ 14) : y.wrong e = true := by
  unfold Itk.wrong
  rw [decide_eq_true hp, bne_iff_ne.2 hk]
  simp
theorem PlayInv.forgot {y : Itk} (h : PlayInv y) {now : Int} (hn : boundI now ≤ y.clk.now) {e : Ev} (hp : e.per ∈ y.gone) (hk : e.kind ≠ 14) : (y.offer e now = y ∧ y.offered e now = 3) ∧ (y.admits e = y ∧ y.admitted e = 3) := by
  have hw := wrong_gone hp hk
  have r1 : y.refuses e = true := by unfold Itk.refuses; rw [hw]; rfl
  have v1 : y.verdict e = 3 := by unfold Itk.verdict; rw [hw]; rfl
  have a := offer_same (h.tick_same hn) r1
  have b := admit_same r1
  rw [v1] at a b
  exact ⟨a, b⟩
theorem cells_ones (l : List Ev) : ∀ u ∈ evCells l, u.oneCell' = true := fun u hu => by
  unfold evCells at hu
  obtain ⟨e, _, he⟩ := List.mem_flatMap.1 hu
  exact cells_one e u he
theorem evs_below {w w' : World} {B : Option Addr} {n c : Nat} {es : List Ev} (h : Evs w w.heap.size B n c es) (hb : Below w.heap.size w w') : Evs w' w'.heap.size B n c es := Cel.more (Cel.below h hb) hb.size
end Go.Proofs.YtbejfgmdkmddnaaGreatDoor
