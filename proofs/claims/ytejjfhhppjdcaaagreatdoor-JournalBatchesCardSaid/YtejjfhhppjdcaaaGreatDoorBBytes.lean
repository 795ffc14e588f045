/-
  Slices of bytes that a call has made itself: appending to them, storing into them, reading them.
-/
import Derived.Test.YtejjfhhppjdcaaaGreatDoorBBase
namespace Go.Proofs.YtejjfhhppjdcaaaGreatDoor
open Go.RowKit

theorem u8_info : (Tryz.prog.info? 5).map (fun i => (i.zero, i.size, i.bytes)) = some (some (.int .u8 0), 1, 1) := by kernel_rfl

def bvs (l : List UInt8) : List Value := l.map fun x => Value.int .u8 x.toNat
theorem bvs_length (l : List UInt8) : (bvs l).length = l.length := by simp [bvs]
theorem bvs_get (l : List UInt8) (i : Nat) (h : i < l.length) : (bvs l)[i]? = some (.int .u8 l[i].toNat) := by simp [bvs, h]
theorem bvs_append (l l' : List UInt8) : bvs (l ++ l') = bvs l ++ bvs l' := by simp [bvs]

/-- v is a slice of the call's own (its block is base or later) that holds just the bytes l -/
def OwnB (w : World) (base : Nat) (v : Value) (l : List UInt8) : Prop := w.ownsRow base 5 1 v l.length (bvs l)

theorem OwnB.nil (w : World) (base : Nat) : OwnB w base (.slice none 0 0) [] := World.ownsRow_nil _ _ _ _
theorem OwnB.byt {w : World} {base : Nat} {A : Option Addr} {n c : Nat} {l : List UInt8} (h : OwnB w base (.slice A n c) l) : Byt w w.heap.size A n c l := by
  rcases h.2 with ⟨e, hl⟩ | ⟨g, cap, cur, e, hb, hg, hnc, hm, hs, ht⟩
  · have hl' : l = [] := List.eq_nil_of_length_eq_zero hl
    subst hl'
    injection e with e1 e2 e3
    subst e1 e2 e3
    exact Byt.nil _ _ _ _ (by unfold maxLen; omega)
  · injection e with e1 e2 e3
    subst e1 e2 e3
    refine ⟨rfl, hnc, hm, fun _ => ⟨g, 0, rfl, (Array.getElem?_eq_some_iff.1 hg).1, fun i hi => ?_⟩⟩
    rw [Nat.zero_add, World.ownsRow.cellAt h i (by omega), bvs_get l i hi]
theorem OwnB.form {w : World} {base : Nat} {v : Value} {l : List UInt8} (h : OwnB w base v l) : ∃ A c, v = .slice A l.length c := by
  rcases h.2 with ⟨e, hl⟩ | ⟨g, cap, cur, e, _⟩
  · exact ⟨none, 0, by rw [e, hl]⟩
  · exact ⟨_, _, e⟩
theorem OwnB.kept {w w' : World} {base : Nat} {v : Value} {l : List UInt8} (h : OwnB w base v l) {row : Option Nat} (hg : w.grownBy w' row) (hne : v.ownBlock = none ∨ v.ownBlock ≠ row) : OwnB w' base v l :=
  World.ownsRow.kept h hg hne
theorem OwnB.below {w w' : World} {base B : Nat} {v : Value} {l : List UInt8} (h : OwnB w base v l) (hb : Below B w w') (hB : w.heap.size ≤ B) : OwnB w' base v l := by
  refine ⟨h.1, ?_⟩
  rcases h.2 with ⟨e, hl⟩ | ⟨g, cap, cur, e, hb', hg, hr⟩
  · exact .inl ⟨e, hl⟩
  · exact .inr ⟨g, cap, cur, e, hb', (hb.block g (by have := (Array.getElem?_eq_some_iff.1 hg).1; omega)).trans hg, hr⟩
theorem OwnB.base_le {w : World} {base base' : Nat} {v : Value} {l : List UInt8} (h : OwnB w base v l) (hb : base' ≤ base) : OwnB w base' v l := by
  refine ⟨h.1, ?_⟩
  rcases h.2 with ⟨e, hl⟩ | ⟨g, cap, cur, e, hb', hg, hr⟩
  · exact .inl ⟨e, hl⟩
  · exact .inr ⟨g, cap, cur, e, by omega, hg, hr⟩

theorem OwnB.alloc {w : World} {base : Nat} {v : Value} {l : List UInt8} (h : OwnB w base v l) (o : Obj) : OwnB (w.alloc o) base v l := World.ownsRow.alloc h o
theorem OwnB.lt {w : World} {base : Nat} {v : Value} {l : List UInt8} (h : OwnB w base v l) : ∀ k, v.ownBlock = some k → base ≤ k := fun k hk => (World.ownsRow.lt h k hk).1

set_option maxRecDepth 100000 in
theorem run_app8 (w : World) (ty : TypeId) (base : Nat) (v : Value) (l : List UInt8) (hown : OwnB w base v l) (B : Nat) (A : Option Addr) (m c : Nat) (l' : List UInt8) (hr : Byt w B A m c l')
    (hlen : l.length + m ≤ 1099511627776) (hbase : base ≤ w.heap.size) :
    ∃ v' w', (Builtin.append_ #[41, 41] ty #[v, .slice A m c]).run Tryz.prog w = .ok v' w' ∧ OwnB w' base v' (l ++ l') ∧ w.grownBy w' v.ownBlock ∧
      (v'.ownBlock = v.ownBlock ∨ v'.ownBlock = some w.heap.size) := by
  obtain ⟨i0, hi, hz0, hz1, hz2⟩ := info_parts u8_info
  rcases Nat.eq_zero_or_pos m with h0 | h0
  · subst h0
    have hl' : l' = [] := List.eq_nil_of_length_eq_zero hr.len
    subst hl'
    refine ⟨v, w, ?_, by simpa using hown, World.grownBy.refl w _, .inl rfl⟩
    rcases hown.2 with ⟨rfl, hn⟩ | ⟨g, cap, cur, rfl, _, _, hnc, _⟩
    · cases A <;> simp [Builtin.append_, run_underlying Tryz.underlying41, sizeOf, typeInfo, hi, Builtin.lenOf, Builtin.firstCells, loadCells, loadCellsFrom]
    · cases A <;> simp [Builtin.append_, run_underlying Tryz.underlying41, sizeOf, typeInfo, hi, Builtin.lenOf, Builtin.firstCells, hnc, loadCells, loadCellsFrom, storeCells]
  · obtain ⟨b, off, rfl, _, hc⟩ := hr.cell h0
    obtain ⟨v', w', h1, h2, h3, _, h5⟩ := run_append_own_at (P := Tryz.prog) w base 41 ty 5 i0 (.int .u8 0) 1 1 Tryz.underlying41 hi hz0 hz1 hz2 rfl (by decide) v l.length (bvs l) hown ⟨b, off, none⟩ m c (bvs l')
      (by rw [bvs_length, hr.len]; omega)
      (fun j u hj => by
        have hjl : j < l'.length := by
          rcases Nat.lt_or_ge j l'.length with h | h
          · exact h
          · rw [List.getElem?_eq_none (by rw [bvs_length]; exact h)] at hj; cases hj
        rw [bvs_get l' j hjl] at hj
        injection hj with hj
        subst hj
        have : (⟨b, off, none⟩ : Addr).add j = ⟨b, off + j, none⟩ := by unfold Addr.add; split <;> simp_all
        rw [this]
        exact hc j hjl)
      (fun u hu => by
        obtain ⟨x, _, rfl⟩ := List.mem_map.1 hu
        rfl)
      (by unfold maxLen; omega) (by omega) hbase
    refine ⟨v', w', h1, ?_, h3, h5⟩
    unfold OwnB
    rw [List.length_append, bvs_append, hr.len]
    exact h2

theorem wpList_app8 {ops : Array Oper} {rest : List Oper} {o : Oper} {a : Act} {Q : Exit → Act → World → Prop} {w : World} (hgd : o.guard = none) (s x : Operand)
    (ho : o.op = .call { callee := .builtin .append, args := #[s, x], argTypes := #[41, 41] })
    (base : Nat) (v : Value) (l : List UInt8) (hs : a.eval s = v) (hown : OwnB w base v l)
    (B : Nat) (A : Option Addr) (m c : Nat) (l' : List UInt8) (hx : a.eval x = .slice A m c) (hr : Byt w B A m c l')
    (hlen : l.length + m ≤ 1099511627776) (hbase : base ≤ w.heap.size)
    (h : ∀ v' w', OwnB w' base v' (l ++ l') → w.grownBy w' v.ownBlock → (v'.ownBlock = v.ownBlock ∨ v'.ownBlock = some w.heap.size) → wpList Tryz.prog ops Q rest (a.put o.dst v') w') :
    wpList Tryz.prog ops Q (o :: rest) a w :=
  wpList_plain hgd fun K hK => by
    obtain ⟨v', w', h1, h2, h3, h4⟩ := run_app8 w o.type base v l hown B A m c l' hr hlen hbase
    unfold Oper.wp execOp
    simp only [ho, resolve, invoke, builtin, Sem.run_bind, Sem.run_pure, Result.andThen_ok, List.map_toArray, List.map_cons, List.map_nil, hs, hx, h1]
    exact hK _ _ (h v' w' h2 h3 h4)
end Go.Proofs.YtejjfhhppjdcaaaGreatDoor
