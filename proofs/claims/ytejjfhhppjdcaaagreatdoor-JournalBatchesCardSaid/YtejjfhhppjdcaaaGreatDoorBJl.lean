/-
  Layer 5: a journal in memory; file.
-/
import Derived.Test.YtejjfhhppjdcaaaGreatDoorBJlPlain
import Derived.Test.YtejjfhhppjdcaaaGreatDoorBDk6
import Derived.Test.YtejjfhhppjdcaaaGreatDoorBErWalk
namespace Go.Proofs.YtejjfhhppjdcaaaGreatDoor
open Go.RowKit Go.Maps Go.Sort

def Ev.zero : Ev := ⟨[], 0, 0, 0, [], [], 0, []⟩
/-- an entry's cells: an event, whether it is erased -/
def entC : Option Ev → List Value
  | none => Ev.zero.cells ++ [.bool true]
  | some e => e.cells ++ [.bool false]
def entE (x : Option Ev) : Ev := x.getD Ev.zero
def entCells (es : List (Option Ev)) : List Value := es.flatMap entC
theorem entC_eq (x : Option Ev) : entC x = (entE x).cells ++ [.bool x.isNone] := by cases x <;> rfl
theorem entC_length (x : Option Ev) : (entC x).length = 9 := by cases x <;> rfl
theorem entCells_length (es : List (Option Ev)) : (entCells es).length = es.length * 9 := by
  induction es with
  | nil => rfl
  | cons e es ih => simp only [entCells, List.flatMap_cons, List.length_append, List.length_cons, entC_length] at *; rw [ih]; omega
theorem entCells_append (a b : List (Option Ev)) : entCells (a ++ b) = entCells a ++ entCells b := by simp [entCells]
theorem entCells_one (es : List (Option Ev)) (x : Option Ev) : entCells (es ++ [x]) = entCells es ++ entC x := by simp [entCells]
theorem entCells_get (es : List (Option Ev)) (k j : Nat) (hk : k < es.length) (hj : j < 9) : (entCells es)[k * 9 + j]? = (entC es[k])[j]? := by
  induction es generalizing k with
  | nil => simp at hk
  | cons e es ih =>
    have hc := entC_length e
    simp only [entCells, List.flatMap_cons]
    cases k with
    | zero => rw [Nat.zero_mul, Nat.zero_add, List.getElem?_append_left (by omega)]; rfl
    | succ k =>
      rw [List.getElem?_append_right (by omega), hc, show (k + 1) * 9 + j - 9 = k * 9 + j by omega]
      exact ih k (by simpa using hk)
theorem entC_one (x : Option Ev) : ∀ u ∈ entC x, u.oneCell' = true := by
  intro u hu
  rw [entC_eq] at hu
  rcases List.mem_append.1 hu with h | h
  · exact cells_one _ u h
  · simp at h; subst h; rfl
abbrev entAgg (x : Option Ev) : Value := .agg #[.string ⟨(entE x).src.toArray⟩, .int .i64 (entE x).num, .int .i64 (entE x).at_, .int .i64 (entE x).kind, .string ⟨(entE x).per.toArray⟩, .string ⟨(entE x).item.toArray⟩, .int .i64 (entE x).val, .string ⟨(entE x).text.toArray⟩, .bool x.isNone]
theorem ent_info : (Tryz.prog.info? 109).map (fun i => (i.zero, i.size, i.bytes)) = some (some (.agg #[.string ByteArray.empty, .int .i64 0, .int .i64 0, .int .i64 0, .string ByteArray.empty, .string ByteArray.empty, .int .i64 0, .string ByteArray.empty, .bool false]), 9, 104) := by kernel_rfl
/-- a row of entries -/
def OwnJ (w : World) (base : Nat) (v : Value) (es : List (Option Ev)) : Prop := w.ownsRow base 109 9 v es.length (entCells es)
abbrev jlObj (bd : Nat) (v : Value) (j : Jl) : Obj := .cells #[.pointer (some ⟨bd, 0, none⟩), .string ⟨j.name.toArray⟩, .int .i64 j.per, .int .i64 j.files, v, .int .i64 j.lasts, .int .i64 j.stuck] 103
/-- numbers of a journal that are right -/
structure Jl.Ok (j : Jl) : Prop where
  per1 : 1 ≤ j.per
  per2 : j.per ≤ 4096
  nm : j.name.length ≤ 24
  num : j.es.length ≤ 100000
  fl : j.files ≤ j.es.length + 1
  las : j.lasts ≤ j.es.length
  may : ∀ e, some e ∈ j.es → mayB e = true
/-- block bj is a journal, bd its disk; the disk's blocks are in G, the journal's own ones in F -/
structure JlAt (w : World) (G F : Nat → Prop) (bj bd : Nat) (v : Value) (j : Jl) : Prop where
  dk : DkIn w G bd j.dk
  blk : w.heap[bj]? = some (jlObj bd v j)
  own : OwnJ w 0 v j.es
  fj : F bj
  fv : ∀ b, v.ownBlock = some b → F b ∧ b ≠ bj
  ap : ∀ b, F b → ¬ G b
  lt : ∀ b, F b → b < w.heap.size
def JlIn (w : World) (G F : Nat → Prop) (bj bd : Nat) (j : Jl) : Prop := j.Ok ∧ ∃ v, JlAt w G F bj bd v j
/-- a deed at a journal -/
def JlD (w : World) (G F : Nat → Prop) (bj bd : Nat) (j' : Jl) (w' : World) : Prop := ∃ G' F', JlIn w' G' F' bj bd j' ∧ (∀ b, G' b → G b ∨ w.heap.size ≤ b) ∧ (∀ b, F' b → F b ∨ w.heap.size ≤ b) ∧ Keep (fun b => G b ∨ F b) w w'
section
variable {w w' : World} {G F : Nat → Prop} {bj bd : Nat} {v : Value} {j : Jl}
theorem OwnJ.keepB {w w' : World} {base : Nat} {v : Value} {l : List (Option Ev)} (h : OwnJ w base v l) (hb : ∀ b, v.ownBlock = some b → w'.heap[b]? = w.heap[b]?) : OwnJ w' base v l := by
  refine ⟨h.1, ?_⟩
  rcases h.2 with ⟨e, hl⟩ | ⟨g, cap, cur, e, hb', hg, hr⟩
  · exact .inl ⟨e, hl⟩
  · exact .inr ⟨g, cap, cur, e, hb', (hb g (by rw [e]; rfl)).trans hg, hr⟩
theorem JlAt.keep (h : JlAt w G F bj bd v j) (hsz : w.heap.size ≤ w'.heap.size) (hk : ∀ b, G b ∨ F b → w'.heap[b]? = w.heap[b]?) : JlAt w' G F bj bd v j :=
  ⟨h.dk.keep hsz (fun b hb => hk b (.inl hb)), (hk _ (.inr h.fj)).trans h.blk, h.own.keepB fun b hb => hk b (.inr (h.fv b hb).1), h.fj, h.fv, h.ap, fun b hb => Nat.lt_of_lt_of_le (h.lt b hb) hsz⟩
theorem JlAt.up (h : JlAt w G F bj bd v j) (hb : Below w.heap.size w w') : JlAt w' G F bj bd v j := h.keep hb.size fun b hg => hb.block b (hg.elim (h.dk.lt b) (h.lt b))
theorem JlIn.up (h : JlIn w G F bj bd j) (hb : Below w.heap.size w w') : JlIn w' G F bj bd j := ⟨h.1, h.2.choose, h.2.choose_spec.up hb⟩
theorem JlIn.keep (h : JlIn w G F bj bd j) (hsz : w.heap.size ≤ w'.heap.size) (hk : ∀ b, G b ∨ F b → w'.heap[b]? = w.heap[b]?) : JlIn w' G F bj bd j := ⟨h.1, h.2.choose, h.2.choose_spec.keep hsz hk⟩
theorem JlIn.dk (h : JlIn w G F bj bd j) : DkIn w G bd j.dk := h.2.choose_spec.dk
theorem JlIn.lt (h : JlIn w G F bj bd j) : ∀ b, G b ∨ F b → b < w.heap.size := fun b hb => hb.elim (h.dk.lt b) (h.2.choose_spec.lt b)
theorem JlD.refl (h : JlIn w G F bj bd j) : JlD w G F bj bd j w := ⟨G, F, h, fun _ h => .inl h, fun _ h => .inl h, Keep.refl _ _⟩
theorem JlD.trans {w2 : World} {j2 : Jl} (h : JlD w G F bj bd j w') (h2 : ∀ G' F', JlIn w' G' F' bj bd j → JlD w' G' F' bj bd j2 w2) : JlD w G F bj bd j2 w2 := by
  obtain ⟨G1, F1, hi, hG, hF, hk⟩ := h
  obtain ⟨G2, F2, hi2, hG2, hF2, hk2⟩ := h2 G1 F1 hi
  have hs := hk.size
  refine ⟨G2, F2, hi2, fun b hb => ?_, fun b hb => ?_, hk.trans hk2 (fun b hb hg => ?_)⟩
  · rcases hG2 b hb with h | h
    · exact hG b h
    · right; omega
  · rcases hF2 b hb with h | h
    · exact hF b h
    · right; omega
  · rcases hg with h | h
    · rcases hG b h with h | h
      · exact .inl h
      · omega
    · rcases hF b h with h | h
      · exact .inr h
      · omega
theorem JlAt.cells (h : JlAt w G F bj bd v j) : w.cell? ⟨bj, 0, none⟩ = some (.pointer (some ⟨bd, 0, none⟩)) ∧ w.cell? ⟨bj, 1, none⟩ = some (.string ⟨j.name.toArray⟩) ∧ w.cell? ⟨bj, 2, none⟩ = some (.int .i64 j.per) ∧ w.cell? ⟨bj, 3, none⟩ = some (.int .i64 j.files) ∧ w.cell? ⟨bj, 4, none⟩ = some v ∧ w.cell? ⟨bj, 5, none⟩ = some (.int .i64 j.lasts) ∧ w.cell? ⟨bj, 6, none⟩ = some (.int .i64 j.stuck) := by
  have key : ∀ o, w.cell? ⟨bj, o, none⟩ = _ := fun o => cell_of_row w bj o _ _ (0, 0) h.blk
  exact ⟨(key 0).trans rfl, (key 1).trans rfl, (key 2).trans rfl, (key 3).trans rfl, (key 4).trans rfl, (key 5).trans rfl, (key 6).trans rfl⟩
theorem JlAt.frozen (h : JlAt w G F bj bd v j) (o : Nat) : w.frozen? ⟨bj, o, none⟩ = false := frozen_of_row w bj o _ _ h.blk
/-- the journal's head is written anew, its disk did a deed -/
theorem JlAt.head {G' : Nat → Prop} {j' : Jl} (h : JlAt w G F bj bd v j) (hd : DkIn w' G' bd j'.dk) (hG : ∀ b, G' b → G b ∨ w.heap.size ≤ b) (hb : w'.heap[bj]? = some (jlObj bd v j')) (he : j'.es = j.es)
    (hsz : w.heap.size ≤ w'.heap.size) (hk : ∀ b, F b → b ≠ bj → w'.heap[b]? = w.heap[b]?) : JlAt w' G' F bj bd v j' :=
  ⟨hd, hb, he ▸ h.own.keepB fun b hb => hk b (h.fv b hb).1 (h.fv b hb).2, h.fj, h.fv, fun b hb hg => (hG b hg).elim (h.ap b hb) (fun hs => by have := h.lt b hb; omega), fun b hb => Nat.lt_of_lt_of_le (h.lt b hb) hsz⟩
end
end Go.Proofs.YtejjfhhppjdcaaaGreatDoor
