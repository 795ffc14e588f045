/-
  Slices of cells cut; appending to a row of the call's own, at a step of a region that draws its order.
-/
import Derived.Test.YtejjfhhppjdcaaaGreatDoorJEv
namespace Go.Proofs.YtejjfhhppjdcaaaGreatDoor
open Go.RowKit

section
variable {P : Program}
/-- a slice from a place on -/
theorem Cel.from_ {w : World} {B size n c : Nat} {A : Option Addr} {xs : List Value} (h : Cel w B size A n c xs) (m : Nat) (hm : m ≤ n) :
    Cel w B size (if c = m then A else A.map (·.add (m * size))) (n - m) (c - m) (xs.drop (m * size)) := by
  have hl := h.len
  have hcap := h.cap
  have hmax := h.max
  refine ⟨by rw [List.length_drop, hl, Nat.sub_mul], by omega, by omega, fun h0 => ?_⟩
  obtain ⟨b, off, e, hb, hc⟩ := h.cell (by omega)
  refine ⟨b, off + m * size, ?_, hb, fun i u hi => ?_⟩
  · rw [if_neg (by omega), e]
    simp [Addr.add]
  · rw [List.getElem?_drop] at hi
    rw [Nat.add_assoc]
    exact hc _ u hi
/-- a slice up to a place -/
theorem Cel.upto {w : World} {B size n c : Nat} {A : Option Addr} {xs : List Value} (h : Cel w B size A n c xs) (m : Nat) (hm : m ≤ n) : Cel w B size A m c (xs.take (m * size)) := by
  have hl := h.len
  have hcap := h.cap
  have hle : m * size ≤ n * size := Nat.mul_le_mul_right _ hm
  refine ⟨by rw [List.length_take, hl]; omega, by omega, h.max, fun h0 => ?_⟩
  obtain ⟨b, off, e, hb, hc⟩ := h.cell (by omega)
  refine ⟨b, off, e, hb, fun i u hi => ?_⟩
  rw [List.getElem?_take] at hi
  split at hi
  · exact hc _ u hi
  · cases hi
theorem evCells_dropN (l : List Ev) (m : Nat) : (evCells l).drop (m * 8) = evCells (l.drop m) := by
  induction l generalizing m with
  | nil => simp [evCells]
  | cons e l ih =>
    cases m with
    | zero => simp
    | succ m =>
      have h8 : e.cells.length = 8 := rfl
      have e1 : evCells (e :: l) = e.cells ++ evCells l := rfl
      rw [e1, List.drop_succ_cons, ← ih m, show (m + 1) * 8 = e.cells.length + m * 8 by omega, List.drop_append, List.drop_of_length_le (by omega), Nat.add_sub_cancel_left]; rfl
theorem evCells_takeN (l : List Ev) (m : Nat) : (evCells l).take (m * 8) = evCells (l.take m) := by
  induction l generalizing m with
  | nil => simp [evCells]
  | cons e l ih =>
    cases m with
    | zero => simp [evCells]
    | succ m =>
      have h8 : e.cells.length = 8 := rfl
      have e1 : evCells (e :: l) = e.cells ++ evCells l := rfl
      have e2 : evCells ((e :: l).take (m + 1)) = e.cells ++ evCells (l.take m) := rfl
      rw [e1, e2, ← ih m, show (m + 1) * 8 = e.cells.length + m * 8 by omega, List.take_append, List.take_of_length_le (by omega), Nat.add_sub_cancel_left]
theorem cells_ones (l : List Ev) : ∀ u ∈ evCells l, u.oneCell' = true := fun u hu => by
  unfold evCells at hu
  obtain ⟨e, _, he⟩ := List.mem_flatMap.1 hu
  exact cells_one e u he
/-- append to a row of the call's own, at a step of a region that draws its order -/
theorem step_app {ops : Array Oper} {o : Oper} {a : Act} {w : World} {K : Act → World → Prop} {Q : Exit → Act → World → Prop} {E : Prop} (hgd : o.guard = none) (s x : Operand) (t : TypeId)
    (ho : o.op = .call { callee := .builtin .append, args := #[s, x], argTypes := #[t, t] })
    (e : TypeId) (i : TypeInfo) (z : Value) (size bytes : Nat) (ht : P.underlying t = some (.slice e)) (hi : P.info? e = some i) (hz : i.zero = some z)
    (hsize : i.size = size) (hby : i.bytes = bytes) (hzs : z.cells.size = size) (hsz : 0 < size)
    (base : Nat) (v : Value) (n : Nat) (xs : List Value) (hs : a.eval s = v) (hown : w.ownsRow base e size v n xs)
    (B : Nat) (A : Option Addr) (m c : Nat) (ys : List Value) (hx : a.eval x = .slice A m c) (hr : Cel w B size A m c ys) (h1 : ∀ u ∈ ys, u.oneCell' = true)
    (h63 : n + m ≤ maxLen) (hbytes : (n + m) * bytes ≤ 140737488355328) (hbase : base ≤ w.heap.size)
    (h : ∀ v' w', w'.ownsRow base e size v' (n + m) (xs ++ ys) → w.grownBy w' v.ownBlock → (v'.ownBlock = v.ownBlock ∨ v'.ownBlock = some w.heap.size) → K (a.put o.dst v') w') :
    if Region.wanted o (yielded ops a.tmps) = true then Oper.wp P o a w K Q else E := by
  have hw : Region.wanted o (yielded ops a.tmps) = true := by simp [Region.wanted, hgd]
  rw [if_pos hw]
  obtain ⟨v', w', h1, h2, h3, h4⟩ := run_app (P := P) w t o.type e i z size bytes ht hi hz hsize hby hzs hsz base v n xs hown B A m c ys hr h1 h63 hbytes hbase
  unfold Oper.wp execOp
  simp only [ho, resolve, invoke, builtin, Sem.run_bind, Sem.run_pure, Result.andThen_ok, List.map_toArray, List.map_cons, List.map_nil, hs, hx, h1]
  exact h v' w' h2 h3 h4
end
end Go.Proofs.YtejjfhhppjdcaaaGreatDoor
