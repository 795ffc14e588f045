/-
  copy at elements of several cells, into a row that is known whole.
  copy at elements of several cells, into a row that is known whole.
  Rows: what the insertion of an element leaves, plain lists.
-/
import Derived.Test.YtgbagjpokpchpaaGreatDoorFMapS
import Derived.Laws.CopyOwn
import Derived.Laws.NewBlocks
import Derived.Lib.Overlaps
import Derived.Lib.AppendZerosOnto
import Derived.Lib.AppendZeros
import Derived.Deep.DeepAppendWide
namespace Go.Proofs.YtgbagjpokpchpaaGreatDoor
open Go.RowKit

section
variable {P : Program}
theorem run_copy_k (w : World) (dT sT ty elem : TypeId) (size g o dLen dCap : Nat) (a : Addr) (sLen sCap : Nat) (cur : Array Value) (t : TypeId) (cs : List Value) (m : Nat)
    (hu : P.underlying dT = some (.slice elem)) (hs : (P.info? elem).map (·.size) = some size)
    (hg : w.heap[g]? = some (.cells cur t (0, 0))) (hm : m = Nat.min sLen dLen) (hn : cs.length = m * size)
    (hsrc : ∀ j v, cs[j]? = some v → w.cell? (a.add j) = some v) (hfit : o + cs.length ≤ cur.size) (h1 : ∀ v ∈ cs, v.oneCell' = true) :
    (Builtin.copy_ #[dT, sT] ty #[.slice (some ⟨g, o, none⟩) dLen dCap, .slice (some a) sLen sCap]).run P w =
      .ok (goInt m) (w.setRow g (cur.toList.take o ++ cs ++ cur.toList.drop (o + cs.length)).toArray) := by
  have hl := run_loadCells_list (P := P) w a cs hsrc
  have hst := run_storeCells_at P g o t cs 0 cur w hg (by simpa using hfit) h1
  rw [hn] at hl
  cases hq : P.info? elem with
  | none => simp [hq] at hs
  | some i =>
    have hi : i.size = size := by simpa [hq] using hs
    simp [Builtin.copy_, run_underlying hu, Builtin.lenOf, Builtin.firstCells, sizeOf, typeInfo, hq, hi, ← hm, hl, hst]

/-- what a copy leaves -/
structure Spliced (w w' : World) (g o : Nat) (cur : Array Value) (t : TypeId) (cs : List Value) : Prop where
  row : w'.heap[g]? = some (.cells (cur.toList.take o ++ cs ++ cur.toList.drop (o + cs.length)).toArray t (0, 0))
  size : w'.heap.size = w.heap.size
  grown : w.grownBy w' (some g)

theorem spliced_setRow (w : World) (g o : Nat) (cur : Array Value) (t : TypeId) (cs : List Value) (hg : w.heap[g]? = some (.cells cur t (0, 0))) :
    Spliced w (w.setRow g (cur.toList.take o ++ cs ++ cur.toList.drop (o + cs.length)).toArray) g o cur t cs :=
  ⟨setRow_heap w g cur _ t (0, 0) hg, by simp [World.setRow], ⟨rfl, rfl, rfl, by simp [World.setRow], fun k _ hk => setRow_other w g k _ (fun e => hk (by rw [e]))⟩⟩

theorem wpList_copy_k {w : World} {ops : Array Oper} {rest : List Oper} {o : Oper} {a : Act} {Q : Exit → Act → World → Prop} (hgd : o.guard = none) (d s : Operand) (dT sT : TypeId)
    (ho : o.op = .call { callee := .builtin .copy, args := #[d, s], argTypes := #[dT, sT] }) (elem : TypeId) (size : Nat) (hu : P.underlying dT = some (.slice elem)) (hsz : (P.info? elem).map (·.size) = some size)
    (g off dLen dCap : Nat) (ad : Addr) (sLen sCap : Nat) (hd : a.eval d = .slice (some ⟨g, off, none⟩) dLen dCap) (hs : a.eval s = .slice (some ad) sLen sCap)
    (cur : Array Value) (t : TypeId) (hg : w.heap[g]? = some (.cells cur t (0, 0))) (cs : List Value) (m : Nat) (hm : m = Nat.min sLen dLen) (hn : cs.length = m * size)
    (hsrc : ∀ j v, cs[j]? = some v → w.cell? (ad.add j) = some v) (hfit : off + cs.length ≤ cur.size) (h1 : ∀ v ∈ cs, v.oneCell' = true)
    (h : ∀ w', Spliced w w' g off cur t cs → wpList P ops Q rest (a.put o.dst (goInt m)) w') : wpList P ops Q (o :: rest) a w := by
  refine wpList_plain hgd fun K hK => ?_
  have hrun := run_copy_k (P := P) w dT sT o.type elem size g off dLen dCap ad sLen sCap cur t cs m hu hsz hg hm hn hsrc hfit h1
  unfold Oper.wp
  simp [execOp, ho, resolve, invoke, builtin, hd, hs, hrun, Result.andThen]
  have := spliced_setRow w g off cur t cs hg
  refine hK _ _ (h _ ?_)
  simpa using this

theorem step_copy_k {ops : Array Oper} {o : Oper} {a : Act} {w : World} {K : Act → World → Prop} {Q : Exit → Act → World → Prop} {E : Prop} (hgd : o.guard = none) (d s : Operand) (dT sT : TypeId)
    (ho : o.op = .call { callee := .builtin .copy, args := #[d, s], argTypes := #[dT, sT] }) (elem : TypeId) (size : Nat) (hu : P.underlying dT = some (.slice elem)) (hsz : (P.info? elem).map (·.size) = some size)
    (g off dLen dCap : Nat) (ad : Addr) (sLen sCap : Nat) (hd : a.eval d = .slice (some ⟨g, off, none⟩) dLen dCap) (hs : a.eval s = .slice (some ad) sLen sCap)
    (cur : Array Value) (t : TypeId) (hg : w.heap[g]? = some (.cells cur t (0, 0))) (cs : List Value) (m : Nat) (hm : m = Nat.min sLen dLen) (hn : cs.length = m * size)
    (hsrc : ∀ j v, cs[j]? = some v → w.cell? (ad.add j) = some v) (hfit : off + cs.length ≤ cur.size) (h1 : ∀ v ∈ cs, v.oneCell' = true)
    (h : ∀ w', Spliced w w' g off cur t cs → K (a.put o.dst (goInt m)) w') :
    if Region.wanted o (yielded ops a.tmps) = true then Oper.wp P o a w K Q else E := by
  have hw : Region.wanted o (yielded ops a.tmps) = true := by simp [Region.wanted, hgd]
  rw [if_pos hw]
  have hrun := run_copy_k (P := P) w dT sT o.type elem size g off dLen dCap ad sLen sCap cur t cs m hu hsz hg hm hn hsrc hfit h1
  unfold Oper.wp
  simp [execOp, ho, resolve, invoke, builtin, hd, hs, hrun, Result.andThen]
  have := spliced_setRow w g off cur t cs hg
  refine h _ ?_
  simpa using this
end
end Go.Proofs.YtgbagjpokpchpaaGreatDoor
namespace Go.Proofs.YtgbagjpokpchpaaGreatDoor
open Go.RowKit
end Go.Proofs.YtgbagjpokpchpaaGreatDoor
namespace Go.Proofs.YtgbagjpokpchpaaGreatDoor
open Go.RowKit

/-- what an insertion leaves -/
def InsPost (e : TypeId) (size base : Nat) (w : World) (v : Value) (n i : Nat) (xs ys : List Value) (r : Ending) (w' : World) : Prop :=
  ∃ v', r = .returned v' ∧ w'.ownsRow base e size v' (n + 1) (xs.take (i * size) ++ ys ++ xs.drop (i * size)) ∧ w.grownBy w' v.ownBlock ∧ (v'.ownBlock = v.ownBlock ∨ ∃ k, v'.ownBlock = some k ∧ w.heap.size ≤ k)

theorem take_at {α : Type} (l xs : List α) (n m : Nat) (h : l.take n = xs) (hm : m ≤ n) : l.take m = xs.take m := by rw [← h, List.take_take, Nat.min_eq_left hm]

/-- two copies: the tail up, the new one into the gap -/
theorem splice_ins {α : Type} (cur xs ys : List α) (a s n : Nat) (hx : cur.take n = xs) (hxl : xs.length = n) (ha : a ≤ n) (hy : ys.length = s) (hc : n + s ≤ cur.length) :
    ((((cur.take (a + s) ++ xs.drop a ++ cur.drop (a + s + (xs.drop a).length)).take a) ++ ys ++ (cur.take (a + s) ++ xs.drop a ++ cur.drop (a + s + (xs.drop a).length)).drop (a + ys.length)).take (n + s)) = xs.take a ++ ys ++ xs.drop a := by
  have e1 : (cur.take (a + s) ++ xs.drop a ++ cur.drop (a + s + (xs.drop a).length)).take a = xs.take a := by
    rw [List.append_assoc, List.take_append_of_le_length (by simp; omega), List.take_take, Nat.min_eq_left (by omega), take_at cur xs n a hx ha]
  have e2 : (cur.take (a + s) ++ xs.drop a ++ cur.drop (a + s + (xs.drop a).length)).drop (a + ys.length) = xs.drop a ++ cur.drop (a + s + (xs.drop a).length) := by
    rw [hy, List.append_assoc]
    exact List.drop_left' (by simp; omega)
  rw [e1, e2, List.append_assoc, List.append_assoc, ← List.append_assoc, ← List.append_assoc]
  rw [List.take_left' (by simp; omega)]
  simp

/-- the new one first, then the tail behind it -/
theorem splice_grow {α : Type} (row xs ys : List α) (a s n : Nat) (hx : row.take a = xs.take a) (hxl : xs.length = n) (ha : a ≤ n) (hy : ys.length = s) (hc : n + s ≤ row.length) :
    ((((row.take a ++ ys ++ row.drop (a + ys.length)).take (a + s)) ++ xs.drop a ++ (row.take a ++ ys ++ row.drop (a + ys.length)).drop (a + s + (xs.drop a).length)).take (n + s)) = xs.take a ++ ys ++ xs.drop a := by
  have e1 : (row.take a ++ ys ++ row.drop (a + ys.length)).take (a + s) = xs.take a ++ ys := by
    rw [List.take_left' (by simp; omega), hx]
  rw [e1, List.take_left' (by simp; omega)]
theorem rg_info : (Tryz.prog.info? 129).map (fun i => (i.zero, i.size, i.bytes)) = some (some (.agg #[.int .i64 0, .int .i64 0]), 2, 16) := by kernel_rfl
end Go.Proofs.YtgbagjpokpchpaaGreatDoor
