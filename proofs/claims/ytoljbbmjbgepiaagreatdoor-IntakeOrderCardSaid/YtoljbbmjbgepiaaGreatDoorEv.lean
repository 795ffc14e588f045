/-
  Events as plain data, and slices of events in memory.
-/
import Derived.Test.YtoljbbmjbgepiaaGreatDoorCells
namespace Go.Proofs.YtoljbbmjbgepiaaGreatDoor
open Go.RowKit

/-- a text as a value -/
def sv (l : List UInt8) : Value := .string ⟨l.toArray⟩

/-- an event -/
structure Ev where
  src : List UInt8
  num : Int
  at_ : Int
  kind : Int
  per : List UInt8
  item : List UInt8
  val : Int
  text : List UInt8
  deriving DecidableEq

def Ev.cells (e : Ev) : List Value := [.string ⟨e.src.toArray⟩, .int .i64 e.num, .int .i64 e.at_, .int .i64 e.kind, .string ⟨e.per.toArray⟩, .string ⟨e.item.toArray⟩, .int .i64 e.val, .string ⟨e.text.toArray⟩]
def Ev.agg (e : Ev) : Value := .agg #[.string ⟨e.src.toArray⟩, .int .i64 e.num, .int .i64 e.at_, .int .i64 e.kind, .string ⟨e.per.toArray⟩, .string ⟨e.item.toArray⟩, .int .i64 e.val, .string ⟨e.text.toArray⟩]
def evCells (es : List Ev) : List Value := es.flatMap Ev.cells

theorem evCells_length (es : List Ev) : (evCells es).length = es.length * 8 := by
  induction es with
  | nil => rfl
  | cons e es ih => simp only [evCells, List.flatMap_cons, List.length_append, List.length_cons] at *; rw [ih]; simp [Ev.cells]; omega
theorem evCells_append (a b : List Ev) : evCells (a ++ b) = evCells a ++ evCells b := by simp [evCells]
theorem evCells_one (es : List Ev) (e : Ev) : evCells (es ++ [e]) = evCells es ++ e.cells := by simp [evCells]
theorem evCells_get (es : List Ev) (k j : Nat) (hk : k < es.length) (hj : j < 8) : (evCells es)[k * 8 + j]? = es[k].cells[j]? := by
  induction es generalizing k with
  | nil => simp at hk
  | cons e es ih =>
    have hc : e.cells.length = 8 := rfl
    simp only [evCells, List.flatMap_cons]
    cases k with
    | zero => rw [Nat.zero_mul, Nat.zero_add, List.getElem?_append_left (by omega)]; rfl
    | succ k =>
      rw [List.getElem?_append_right (by omega), hc, show (k + 1) * 8 + j - 8 = k * 8 + j by omega]
      exact ih k (by simpa using hk)

/-- the slice value 'A, n, c' reads as these events, in a block below B -/
def Evs (w : World) (B : Nat) (A : Option Addr) (n c : Nat) (es : List Ev) : Prop := Cel w B 8 A n c (evCells es)

theorem Evs.len {w : World} {B n c : Nat} {A : Option Addr} {es : List Ev} (h : Evs w B A n c es) : es.length = n := by
  have := Cel.len h; rw [evCells_length] at this; omega
theorem Evs.at_ {w : World} {B n c : Nat} {A : Option Addr} {es : List Ev} (h : Evs w B A n c es) (k : Nat) (hk : k < es.length) :
    ∃ b off, A = some ⟨b, off, none⟩ ∧ b < B ∧ ∀ j u, es[k].cells[j]? = some u → w.cell? ⟨b, off + (k * 8 + j), none⟩ = some u := by
  have hl := h.len
  obtain ⟨b, off, e, hb, hc⟩ := Cel.cell h (by omega)
  refine ⟨b, off, e, hb, fun j u hj => hc _ u ?_⟩
  have hj8 : j < 8 := by
    rcases Nat.lt_or_ge j 8 with h' | h'
    · exact h'
    · rw [List.getElem?_eq_none (by show 8 ≤ j; exact h')] at hj; cases hj
  rw [evCells_get es k j hk hj8, hj]

/-- an event lies at this place -/
def EvAt (w : World) (b o : Nat) (e : Ev) : Prop :=
  w.cell? ⟨b, o, none⟩ = some (.string ⟨e.src.toArray⟩) ∧ w.cell? ⟨b, o + 1, none⟩ = some (.int .i64 e.num) ∧ w.cell? ⟨b, o + 2, none⟩ = some (.int .i64 e.at_) ∧ w.cell? ⟨b, o + 3, none⟩ = some (.int .i64 e.kind) ∧
  w.cell? ⟨b, o + 4, none⟩ = some (.string ⟨e.per.toArray⟩) ∧ w.cell? ⟨b, o + 5, none⟩ = some (.string ⟨e.item.toArray⟩) ∧ w.cell? ⟨b, o + 6, none⟩ = some (.int .i64 e.val) ∧ w.cell? ⟨b, o + 7, none⟩ = some (.string ⟨e.text.toArray⟩)

theorem Evs.ev {w : World} {B n c : Nat} {A : Option Addr} {es : List Ev} (h : Evs w B A n c es) (k : Nat) (hk : k < es.length) : ∃ b off, A = some ⟨b, off, none⟩ ∧ b < B ∧ EvAt w b (off + k * 8) es[k] := by
  obtain ⟨b, off, e, hb, hc⟩ := h.at_ k hk
  have key : ∀ j u, es[k].cells[j]? = some u → w.cell? ⟨b, off + k * 8 + j, none⟩ = some u := fun j u hj => by
    rw [Nat.add_assoc]; exact hc j u hj
  exact ⟨b, off, e, hb, key 0 _ rfl, key 1 _ rfl, key 2 _ rfl, key 3 _ rfl, key 4 _ rfl, key 5 _ rfl, key 6 _ rfl, key 7 _ rfl⟩
theorem EvAt.below {w w' : World} {b o B : Nat} {e : Ev} (h : EvAt w b o e) (hb : Below B w w') (hB : b < B) : EvAt w' b o e := by
  obtain ⟨h0, h1, h2, h3, h4, h5, h6, h7⟩ := h
  have key : ∀ (o : Nat) u, w.cell? ⟨b, o, none⟩ = some u → w'.cell? ⟨b, o, none⟩ = some u := fun o u hu => (hb.cell (p := ⟨b, o, none⟩) hB).trans hu
  exact ⟨key _ _ h0, key _ _ h1, key _ _ h2, key _ _ h3, key _ _ h4, key _ _ h5, key _ _ h6, key _ _ h7⟩

/-- a new variable that holds an event -/
abbrev evObj (e : Ev) : Obj := .cells #[.string ⟨e.src.toArray⟩, .int .i64 e.num, .int .i64 e.at_, .int .i64 e.kind, .string ⟨e.per.toArray⟩, .string ⟨e.item.toArray⟩, .int .i64 e.val, .string ⟨e.text.toArray⟩] 28
/-- an event lies at a block's head -/
def EvIn (w : World) (b : Nat) (e : Ev) : Prop :=
  w.cell? ⟨b, 0, none⟩ = some (.string ⟨e.src.toArray⟩) ∧ w.cell? ⟨b, 1, none⟩ = some (.int .i64 e.num) ∧ w.cell? ⟨b, 2, none⟩ = some (.int .i64 e.at_) ∧ w.cell? ⟨b, 3, none⟩ = some (.int .i64 e.kind) ∧
  w.cell? ⟨b, 4, none⟩ = some (.string ⟨e.per.toArray⟩) ∧ w.cell? ⟨b, 5, none⟩ = some (.string ⟨e.item.toArray⟩) ∧ w.cell? ⟨b, 6, none⟩ = some (.int .i64 e.val) ∧ w.cell? ⟨b, 7, none⟩ = some (.string ⟨e.text.toArray⟩)
theorem EvIn.new (w : World) (e : Ev) : EvIn (w.alloc (evObj e)) w.heap.size e := by
  have key : ∀ o, (w.alloc (evObj e)).cell? ⟨w.heap.size, o, none⟩ = _ := fun o => cell_of_row _ w.heap.size o _ _ (0, 0) (heap_alloc_new w (evObj e))
  exact ⟨(key 0).trans rfl, (key 1).trans rfl, (key 2).trans rfl, (key 3).trans rfl, (key 4).trans rfl, (key 5).trans rfl, (key 6).trans rfl, (key 7).trans rfl⟩
theorem EvIn.below {w w' : World} {b B : Nat} {e : Ev} (h : EvIn w b e) (hb : Below B w w') (hB : b < B) : EvIn w' b e := by
  obtain ⟨h0, h1, h2, h3, h4, h5, h6, h7⟩ := h
  have key : ∀ (o : Nat) u, w.cell? ⟨b, o, none⟩ = some u → w'.cell? ⟨b, o, none⟩ = some u := fun o u hu => (hb.cell (p := ⟨b, o, none⟩) hB).trans hu
  exact ⟨key _ _ h0, key _ _ h1, key _ _ h2, key _ _ h3, key _ _ h4, key _ _ h5, key _ _ h6, key _ _ h7⟩
theorem cells_one (e : Ev) : ∀ u ∈ e.cells, u.oneCell' = true := by
  intro u hu
  simp only [Ev.cells, List.mem_cons, List.not_mem_nil, or_false] at hu
  rcases hu with rfl | rfl | rfl | rfl | rfl | rfl | rfl | rfl <;> rfl

theorem ev_info : (Tryz.prog.info? 28).map (fun i => (i.zero, i.size, i.bytes)) = some (some (.agg #[.string ByteArray.empty, .int .i64 0, .int .i64 0, .int .i64 0, .string ByteArray.empty, .string ByteArray.empty, .int .i64 0, .string ByteArray.empty]), 8, 96) := by kernel_rfl
end Go.Proofs.YtoljbbmjbgepiaaGreatDoor
