/-
  Slices of bytes that a call has made itself: appending to them, storing into them, reading them.
  Layer 7: putNumber.
  Layer 7: Sources.
  Layer 7, the document's: Text.
  Layer 7: Encode.
-/
import Derived.Test.YtoljbbmjbgepiaaGreatDoorMEv
import Derived.Test.YtoljbbmjbgepiaaGreatDoorMUniPlain
import Derived.Test.YtoljbbmjbgepiaaGreatDoorMHad
import Derived.Test.YtoljbbmjbgepiaaGreatDoorMItkGone
import Derived.Test.YtoljbbmjbgepiaaGreatDoorMRTxt2
import Derived.Deep.DeepCutAuto
import Derived.RegionTactic
import Derived.BigRegion
import Derived.Lib.AppendStr
namespace Go.Proofs.YtoljbbmjbgepiaaGreatDoor
open Go.RowKit

theorem u8_info : (Tryz.prog.info? 5).map (fun i => (i.zero, i.size, i.bytes)) = some (some (.int .u8 0), 1, 1) := by kernel_rfl

def bvs (l : List UInt8) : List Value := l.map fun x => Value.int .u8 x.toNat
theorem bvs_length (l : List UInt8) : (bvs l).length = l.length := by simp [bvs]
theorem bvs_get (l : List UInt8) (i : Nat) (h : i < l.length) : (bvs l)[i]? = some (.int .u8 l[i].toNat) := by simp [bvs, h]
theorem bvs_append (l l' : List UInt8) : bvs (l ++ l') = bvs l ++ bvs l' := by simp [bvs]

/-- v is a slice of the call's own (its block is base or later) that holds just the bytes l -/
def OwnB (w : World) (base : Nat) (v : Value) (l : List UInt8) : Prop := w.ownsRow base 5 1 v l.length (bvs l)

theorem OwnB.nil (w : World) (base : Nat) : OwnB w base (.slice none 0 0) [] := World.ownsRow_nil _ _ _ _
theorem OwnB.byt {w : World} {base : Nat} {A : Option Addr} {n c : Nat} {l : List UInt8} (h : OwnB w base (.slice A n c) l) : Byt w w.heap.size A n c l := by
  rcases h.2 with ⟨e, hl⟩ | ⟨g, cap, cur, e, hb, hg, hnc, hm, hs, ht⟩
  · have hl' : l = [] := List.eq_nil_of_length_eq_zero hl
    subst hl'
    injection e with e1 e2 e3
    subst e1 e2 e3
    exact Byt.nil _ _ _ _ (by unfold maxLen; omega)
  · injection e with e1 e2 e3
    subst e1 e2 e3
    refine ⟨rfl, hnc, hm, fun _ => ⟨g, 0, rfl, (Array.getElem?_eq_some_iff.1 hg).1, fun i hi => ?_⟩⟩
    rw [Nat.zero_add, World.ownsRow.cellAt h i (by omega), bvs_get l i hi]
theorem OwnB.form {w : World} {base : Nat} {v : Value} {l : List UInt8} (h : OwnB w base v l) : ∃ A c, v = .slice A l.length c := by
  rcases h.2 with ⟨e, hl⟩ | ⟨g, cap, cur, e, _⟩
  · exact ⟨none, 0, by rw [e, hl]⟩
  · exact ⟨_, _, e⟩
theorem OwnB.kept {w w' : World} {base : Nat} {v : Value} {l : List UInt8} (h : OwnB w base v l) {row : Option Nat} (hg : w.grownBy w' row) (hne : v.ownBlock = none ∨ v.ownBlock ≠ row) : OwnB w' base v l :=
  World.ownsRow.kept h hg hne
theorem OwnB.below {w w' : World} {base B : Nat} {v : Value} {l : List UInt8} (h : OwnB w base v l) (hb : Below B w w') (hB : w.heap.size ≤ B) : OwnB w' base v l := by
  refine ⟨h.1, ?_⟩
  rcases h.2 with ⟨e, hl⟩ | ⟨g, cap, cur, e, hb', hg, hr⟩
  · exact .inl ⟨e, hl⟩
  · exact .inr ⟨g, cap, cur, e, hb', (hb.block g (by have := (Array.getElem?_eq_some_iff.1 hg).1; omega)).trans hg, hr⟩
theorem OwnB.base_le {w : World} {base base' : Nat} {v : Value} {l : List UInt8} (h : OwnB w base v l) (hb : base' ≤ base) : OwnB w base' v l := by
  refine ⟨h.1, ?_⟩
  rcases h.2 with ⟨e, hl⟩ | ⟨g, cap, cur, e, hb', hg, hr⟩
  · exact .inl ⟨e, hl⟩
  · exact .inr ⟨g, cap, cur, e, by omega, hg, hr⟩

theorem OwnB.alloc {w : World} {base : Nat} {v : Value} {l : List UInt8} (h : OwnB w base v l) (o : Obj) : OwnB (w.alloc o) base v l := World.ownsRow.alloc h o
theorem OwnB.lt {w : World} {base : Nat} {v : Value} {l : List UInt8} (h : OwnB w base v l) : ∀ k, v.ownBlock = some k → base ≤ k := fun k hk => (World.ownsRow.lt h k hk).1

set_option maxRecDepth 100000 in
theorem run_app8 (w : World) (ty : TypeId) (base : Nat) (v : Value) (l : List UInt8) (hown : OwnB w base v l) (B : Nat) (A : Option Addr) (m c : Nat) (l' : List UInt8) (hr : Byt w B A m c l')
    (hlen : l.length + m ≤ 1099511627776) (hbase : base ≤ w.heap.size) :
    ∃ v' w', (Builtin.append_ #[65, 65] ty #[v, .slice A m c]).run Tryz.prog w = .ok v' w' ∧ OwnB w' base v' (l ++ l') ∧ w.grownBy w' v.ownBlock ∧
      (v'.ownBlock = v.ownBlock ∨ v'.ownBlock = some w.heap.size) := by
  obtain ⟨i0, hi, hz0, hz1, hz2⟩ := info_parts u8_info
  rcases Nat.eq_zero_or_pos m with h0 | h0
  · subst h0
    have hl' : l' = [] := List.eq_nil_of_length_eq_zero hr.len
    subst hl'
    refine ⟨v, w, ?_, by simpa using hown, World.grownBy.refl w _, .inl rfl⟩
    rcases hown.2 with ⟨rfl, hn⟩ | ⟨g, cap, cur, rfl, _, _, hnc, _⟩
    · cases A <;> simp [Builtin.append_, run_underlying Tryz.underlying65, sizeOf, typeInfo, hi, Builtin.lenOf, Builtin.firstCells, loadCells, loadCellsFrom]
    · cases A <;> simp [Builtin.append_, run_underlying Tryz.underlying65, sizeOf, typeInfo, hi, Builtin.lenOf, Builtin.firstCells, hnc, loadCells, loadCellsFrom, storeCells]
  · obtain ⟨b, off, rfl, _, hc⟩ := hr.cell h0
    obtain ⟨v', w', h1, h2, h3, _, h5⟩ := run_append_own_at (P := Tryz.prog) w base 65 ty 5 i0 (.int .u8 0) 1 1 Tryz.underlying65 hi hz0 hz1 hz2 rfl (by decide) v l.length (bvs l) hown ⟨b, off, none⟩ m c (bvs l')
      (by rw [bvs_length, hr.len]; omega)
      (fun j u hj => by
        have hjl : j < l'.length := by
          rcases Nat.lt_or_ge j l'.length with h | h
          · exact h
          · rw [List.getElem?_eq_none (by rw [bvs_length]; exact h)] at hj; cases hj
        rw [bvs_get l' j hjl] at hj
        injection hj with hj
        subst hj
        have : (⟨b, off, none⟩ : Addr).add j = ⟨b, off + j, none⟩ := by unfold Addr.add; split <;> simp_all
        rw [this]
        exact hc j hjl)
      (fun u hu => by
        obtain ⟨x, _, rfl⟩ := List.mem_map.1 hu
        rfl)
      (by unfold maxLen; omega) (by omega) hbase
    refine ⟨v', w', h1, ?_, h3, h5⟩
    unfold OwnB
    rw [List.length_append, bvs_append, hr.len]
    exact h2

theorem wpList_app8 {ops : Array Oper} {rest : List Oper} {o : Oper} {a : Act} {Q : Exit → Act → World → Prop} {w : World} (hgd : o.guard = none) (s x : Operand)
    (ho : o.op = .call { callee := .builtin .append, args := #[s, x], argTypes := #[65, 65] })
    (base : Nat) (v : Value) (l : List UInt8) (hs : a.eval s = v) (hown : OwnB w base v l)
    (B : Nat) (A : Option Addr) (m c : Nat) (l' : List UInt8) (hx : a.eval x = .slice A m c) (hr : Byt w B A m c l')
    (hlen : l.length + m ≤ 1099511627776) (hbase : base ≤ w.heap.size)
    (h : ∀ v' w', OwnB w' base v' (l ++ l') → w.grownBy w' v.ownBlock → (v'.ownBlock = v.ownBlock ∨ v'.ownBlock = some w.heap.size) → wpList Tryz.prog ops Q rest (a.put o.dst v') w') :
    wpList Tryz.prog ops Q (o :: rest) a w :=
  wpList_plain hgd fun K hK => by
    obtain ⟨v', w', h1, h2, h3, h4⟩ := run_app8 w o.type base v l hown B A m c l' hr hlen hbase
    unfold Oper.wp execOp
    simp only [ho, resolve, invoke, builtin, Sem.run_bind, Sem.run_pure, Result.andThen_ok, List.map_toArray, List.map_cons, List.map_nil, hs, hx, h1]
    exact hK _ _ (h v' w' h2 h3 h4)
end Go.Proofs.YtoljbbmjbgepiaaGreatDoor
namespace Go.Proofs.YtoljbbmjbgepiaaGreatDoor
open Go.RowKit Go.Maps Go.Sort

/-- a row of bytes goes on -/
structure PnM (w : World) (base : Nat) (v : Value) (l : List UInt8) (v' : Value) (w' : World) : Prop where
  own : OwnB w' base v' l
  keep : Keep (fun b => v.ownBlock = some b) w w'
  blk : ∀ b, v'.ownBlock = some b → v.ownBlock = some b ∨ w.heap.size ≤ b
def PnPost (w : World) (base : Nat) (v : Value) (l : List UInt8) (e : Ending) (w' : World) : Prop := ∃ v', e = .returned v' ∧ PnM w base v l v' w'
def PnRel (w : World) (base : Nat) (v : Value) (l : List UInt8) (v' q : Value) (wr : World) : Prop := ∃ (n : Nat) (l' : List UInt8), q = .int .i64 n ∧ n < 4611686018427387904 ∧ l' ++ numB n = l ∧ PnM w base v l' v' wr
theorem PnM.app {w wr w2 : World} {base : Nat} {v v1 v2 : Value} {l l' : List UInt8} (h : PnM w base v l v1 wr) (o : Obj) (ho : OwnB w2 base v2 l') (hg : (wr.alloc o).grownBy w2 v1.ownBlock) (hv : v2.ownBlock = v1.ownBlock ∨ v2.ownBlock = some (wr.heap.size + 1)) : PnM w base v l' v2 w2 := by
  have hs := h.keep.size
  refine ⟨ho, (h.keep.alloc o).trans (Keep.of_grown (F := fun b => v1.ownBlock = some b) hg (fun k e => e)) (fun b hb hF => ?_), fun b hb => ?_⟩
  · rcases h.blk b hF with h' | h'
    · exact h'
    · omega
  · rcases hv with e | e
    · exact h.blk b (e ▸ hb)
    · rw [e] at hb; injection hb with hb; right; omega
theorem numB_len8 {n : Nat} (h : n < 4611686018427387904) : (numB n).length ≤ 9 := by
  by_cases h1 : n < 128
  · rw [numB_lo h1]; simp
  · rw [numB_hi h1]; have := numB_short (n := n / 128) (by omega); simp; omega
theorem or128 (x : Nat) (h : x < 256) : bits .or .u8 (x : Int) 128 = ((x % 128 + 128 : Nat) : Int) := by
  have : ∀ y : Fin 256, bits .or .u8 ((y.val : Nat) : Int) 128 = ((y.val % 128 + 128 : Nat) : Int) := by decide +kernel
  exact this ⟨x, h⟩
set_option maxRecDepth 100000 in
set_option maxHeartbeats 2000000 in
theorem putnum_any (w : World) (base : Nat) (v : Value) (l : List UInt8) (ho : OwnB w base v l) (hb : base ≤ w.heap.size) (n : Nat) (hn : n < 4611686018427387904) (hl : l.length ≤ 200000000000) :
    Calls Tryz.prog 78 #[v, .int .i64 n] w (PnPost w base v (l ++ numB n)) := by
  have hn8 := numB_len8 hn
  have HST := Lib.hid (show PnRel w base v (l ++ numB n) v (.int .i64 n) w from ⟨n, l, rfl, hn, rfl, ho, Keep.refl _ _, fun b hb => .inl hb⟩)
  have hll : (l ++ numB n).length ≤ 200000000009 := by simp; omega
  generalize l ++ numB n = L at *
  clear ho hn8
  go_enter Tryz.func78, Tryz.ntmps78
  go_wp2
  go_loopw [0, 1] (fun v' q wr => PnRel w base v L v' q wr) (fun _ q _ => (intOf q).toNat)
  case atStart => exact HST.out
  case round =>
    obtain ⟨q, l', rfl, hq, hL, hm⟩ := hrel
    have HL := Lib.hid hL; have HM := Lib.hid hm
    have hl' : l'.length ≤ 200000000009 := by have := congrArg List.length hL; simp at this; omega
    have hsr := hm.keep.size
    clear hL hm
    by_cases hlo : q < 128
    · have t1 : ¬ (128 : Int) ≤ q := by omega
      have HB := Lib.hid (show L = l' ++ [UInt8.ofNat q] by rw [← HL.out, numB_lo hlo])
      go_wp2_with (at_builtin; refine wpList_app8 rfl (.tmp 15) (.tmp 18) rfl base _ l' rfl ?c1 (wr.heap.size + 1) _ _ _ [UInt8.ofNat q] rfl ?c2 ?c3 ?c4 ?_)
      case c1 => exact OwnB.alloc HM.out.own _
      case c2 => exact Byt.new wr _ _ [UInt8.ofNat q] (by simp; omega) 1 rfl (by unfold maxLen; omega)
      case c3 => first | omega | (simp; omega)
      case c4 => first | omega | (simp; omega)
      intro v2 w2 ho2 hg2 hv2
      have HR := Lib.hid (show PnPost w base v L (.returned v2) w2 from ⟨v2, rfl, HM.out.app _ (by rw [HB.out]; exact ho2) hg2 hv2⟩)
      clear ho2 hg2 hv2
      go_wp2
      go_ret
      exact HR.out
    · have t1 : (128 : Int) ≤ q := by omega
      have HB := Lib.hid (show L = l' ++ [UInt8.ofNat (q % 128 + 128)] ++ numB (q / 128) by rw [← HL.out, numB_hi hlo]; simp)
      have eo : bits .or .u8 ((q : Int) % 256) 128 = ((q % 128 + 128 : Nat) : Int) := by
        have := or128 (q % 256) (by omega)
        rw [show ((q % 256 : Nat) : Int) = (q : Int) % 256 by omega] at this
        rw [this]; congr 1; omega
      generalize hc : q % 128 + 128 = cN at *
      have hcl : cN < 256 := by omega
      clear hc
      go_wp2_with (at_builtin; refine wpList_app8 rfl (.tmp 9) (.tmp 13) rfl base _ l' rfl ?c1 (wr.heap.size + 1) _ _ _ [UInt8.ofNat cN] rfl ?c2 ?c3 ?c4 ?_)
      case c1 => exact OwnB.alloc HM.out.own _
      case c2 => exact Byt.new wr _ _ [UInt8.ofNat cN] (by simp; omega) 1 rfl (by unfold maxLen; omega)
      case c3 => first | omega | (simp; omega)
      case c4 => first | omega | (simp; omega)
      intro v2 w2 ho2 hg2 hv2
      have HR := Lib.hid (show PnRel w base v L v2 (.int .i64 ((q / 128 : Nat) : Int)) w2 from ⟨q / 128, l' ++ [UInt8.ofNat cN], rfl, by omega, HB.out.symm, HM.out.app _ ho2 hg2 hv2⟩)
      clear ho2 hg2 hv2 eo
      go_wp2
      go_roundw
      case rel => exact HR.out
      case measure => simp [intOf]; omega
end Go.Proofs.YtoljbbmjbgepiaaGreatDoor
namespace Go.Proofs.YtoljbbmjbgepiaaGreatDoor
open Go.RowKit Go.Maps Go.Sort Go.Shelf

theorem strKeys_mapD (r : Row Value) : strKeys (mapD r) = r.map (·.1) := by
  unfold mapD strKeys
  simp [Function.comp_def]
  intro a b _; rfl
theorem bb_lt {a b : List UInt8} (h : bytesBefore a b = true) : a < b := by
  have key : ∀ a b : List UInt8, Op.bytesLess a b = bytesBefore a b := fun a => by
    induction a with
    | nil => intro b; cases b <;> simp [Op.bytesLess, bytesBefore]
    | cons x a ih => intro b; cases b with
      | nil => simp [Op.bytesLess, bytesBefore]
      | cons y b => simp only [Op.bytesLess, bytesBefore, ih b]
  rw [← key, bytesLess_eq] at h
  exact of_decide_eq_true h
theorem keys_rising {α : Type} {m : Row α} (h : RowUp m) : Rising (m.map (·.1)) (m.map (·.1)) := ⟨List.pairwise_map.2 (h.imp fun h => bb_lt h), fun _ => Iff.rfl⟩
def SrcPost (w : World) (ks : List (List UInt8)) (e : Ending) (w' : World) : Prop := ∃ v, e = .returned v ∧ w'.ownsRow w.heap.size 9 1 v ks.length (ks.map encStr) ∧ Below w.heap.size w w'
set_option maxHeartbeats 2000000 in
theorem sources_any (w : World) (G : Nat → Prop) (bs bm : Nat) (m : Had) (V : List UInt8 → Value) (h : HadAt w G bs bm m V) (hml : m.length ≤ 100000) : Calls Tryz.prog 79 #[.pointer (some ⟨bs, 0, none⟩)] w (SrcPost w (m.map (·.1))) := by
  have c0 := h.cell
  obtain ⟨row, hrw⟩ : ∃ row : Row Value, row = m.map fun p => (p.1, V p.1) := ⟨_, rfl⟩
  have HD := Lib.hid (show w.ownsMap Tryz.prog 9 raw bm row.length (mapD row) by rw [hrw]; exact h.map)
  have hds : Maps.size (mapD row) = m.length := by rw [hrw]; simp [mapD, Maps.size]
  have HRW := Lib.hid (show row.map (·.1) = m.map (·.1) by rw [hrw]; simp)
  clear hrw
  have HKR := Lib.hid (keys_rising h.ok.up)
  have hnd : (m.map (·.1)).Nodup := (List.pairwise_map.2 (h.ok.up.imp fun {a b} h e => by rw [e, bb_irrefl] at h; cases h))
  have HND := Lib.hid hnd
  clear h hnd
  refine (callsIn_wide (n := 6)).1 ?_
  have hfK : Fence.wide.fn 118 := trivial
  have hfS : Fence.wide.fn 47 := trivial
  refine callsIn_of_wp Tryz.func79 rfl trivial ?_ rfl
  simp only [Tryz.ntmps79, List.size_toArray, List.length_cons, List.length_nil, Nat.reduceAdd, Nat.reduceSub, Array.replicate_succ, Array.replicate_zero, List.push_toArray, List.append_toArray, List.nil_append, List.cons_append]
  have HDS := Lib.hid hds
  clear hds
  gi_wp2_with fail
  refine (Tryz.maps_Keys_118 _ _).mono ?_
  rintro e w2 ⟨rfl, rfl⟩
  gi_wp2_with fail
  refine (Tryz.slices_Sorted_keys_47_118 bm row.length (mapD row) raw w HD.out (by rw [HDS.out]; unfold maxLen; omega) (by rw [HDS.out]; omega)).mono ?_
  rintro e w3 ⟨v, ss, rfl, hS, hrow, hnil, hb3⟩
  clear c0
  gi_wp2_with fail
  go_ret
  rw [strKeys_mapD] at hS
  rw [HRW.out] at hS
  have hr := rising_sort (hS.nodup_iff.2 HND.out) (fun x => hS.mem_iff)
  have he := rising_unique hr HKR.out
  rw [he] at hrow
  have hl : ss.length = (m.map (·.1)).length := hS.length_eq
  rw [hl] at hrow
  refine ⟨v, rfl, ?_, ((Below.refl _ _).alloc (Nat.le_refl _) _).trans (hb3.mono (by simp))⟩
  refine ⟨hrow.1, ?_⟩
  rcases hrow.2 with ⟨e, hl⟩ | ⟨g, cap, cur, e, hb', hg, hrr⟩
  · exact .inl ⟨e, hl⟩
  · exact .inr ⟨g, cap, cur, e, by simp at hb'; omega, hg, hrr⟩
end Go.Proofs.YtoljbbmjbgepiaaGreatDoor
namespace Go.Proofs.YtoljbbmjbgepiaaGreatDoor
open Go.RowKit Go.Maps Go.Sort

theorem endR_take (e : Int) (rs : Rg) (j : Nat) (hj : j < rs.length) : endR e (rs.take (j + 1)) = rs[j].2 := by
  rw [List.take_add_one, List.getElem?_eq_getElem hj, Option.toList_some, endR_snoc]
theorem encR_take (e : Int) (rs : Rg) (j : Nat) (hj : j < rs.length) : encR e (rs.take (j + 1)) = encR e (rs.take j) ++ (numB (rs[j].1 - endR e (rs.take j)).toNat ++ numB (rs[j].2 - rs[j].1).toNat) := by
  rw [List.take_add_one, List.getElem?_eq_getElem hj, Option.toList_some, encR_snoc]
theorem endR_le {rs : Rg} (h : RgOk rs) (j : Nat) (hj : j < rs.length) : 1 ≤ endR 1 (rs.take j) ∧ endR 1 (rs.take j) ≤ rs[j].1 := by
  have h1 := h.each rs[j] (List.getElem_mem hj)
  cases j with
  | zero => simp [endR]; exact h1.1
  | succ i =>
    rw [endR_take 1 rs i (by omega)]
    have h2 := h.each (rs[i]'(by omega)) (List.getElem_mem _)
    have h3 := List.pairwise_iff_getElem.1 h.up i (i + 1) (by omega) hj (by omega)
    omega
theorem encS_len {p : List UInt8 × Rg} (hn : nameB p.1 = true) (h : RgOk p.2) (hl : p.2.length ≤ 90000) : (encS p).length ≤ 1500000 := by
  have h1 : p.1.length ≤ 24 := by unfold nameB at hn; simp at hn; omega
  have h2 := numB_short (n := p.2.length) (by omega)
  have h3 := encR_len p.2 h.each 1 (by omega)
  unfold encS
  simp only [List.length_cons, List.length_append]
  omega
theorem flat_len {m : Had} (h : HadOk m) (hl : ∀ p ∈ m, p.2.length ≤ 90000) (k : Nat) : ((m.take k).flatMap encS).length ≤ 1500000 * k := by
  have key : ∀ l : Had, (∀ p ∈ l, (encS p).length ≤ 1500000) → (l.flatMap encS).length ≤ 1500000 * l.length := fun l => by
    induction l with
    | nil => intro _; simp
    | cons p l ih =>
      intro hp
      have := ih (fun q hq => hp q (by simp [hq]))
      have := hp p (by simp)
      simp only [List.flatMap_cons, List.length_append, List.length_cons]
      omega
  have h1 := key (m.take k) (fun p hp => encS_len (h.each p (List.mem_of_mem_take hp)).1 (h.each p (List.mem_of_mem_take hp)).2.1 (hl p (List.mem_of_mem_take hp)))
  rw [List.length_take] at h1
  have h2 : 1500000 * min k m.length ≤ 1500000 * k := Nat.mul_le_mul_left _ (by omega)
  omega
theorem flat_take (m : Had) (k : Nat) (hk : k < m.length) : (m.take (k + 1)).flatMap encS = (m.take k).flatMap encS ++ encS m[k] := by
  rw [List.take_add_one, List.getElem?_eq_getElem hk, Option.toList_some, List.flatMap_append]; simp
theorem ret_str {a b : List UInt8} (h : a = b) : Ending.returned (.string ⟨a.toArray⟩) = .returned (.string ⟨b.toArray⟩) := by rw [h]
def TxCut (w2 : World) (pre : List UInt8) (s : Value) (wx : World) : Prop := s = .string ⟨pre.toArray⟩ ∧ Below w2.heap.size w2 wx
def TxtPost (w : World) (l : List UInt8) (e : Ending) (w' : World) : Prop := e = .returned (.string ⟨l.toArray⟩) ∧ Below w.heap.size w w'
def TxRel (w : World) (m : Had) (s i : Value) (wr : World) : Prop := ∃ (k : Nat) (l : List UInt8), i = .int .i64 k ∧ k ≤ m.length ∧ s = .string ⟨l.toArray⟩ ∧ l = numB m.length ++ (m.take k).flatMap encS ∧ Below w.heap.size w wr
def TxIn (w2 : World) (pre : List UInt8) (rs : Rg) (s en j : Value) (wz : World) : Prop := ∃ (k : Nat) (l : List UInt8) (e : Int), j = .int .i64 k ∧ k ≤ rs.length ∧ s = .string ⟨l.toArray⟩ ∧ l = pre ++ encR 1 (rs.take k) ∧ en = .int .i64 e ∧ e = endR 1 (rs.take k) ∧ Below w2.heap.size w2 wz
theorem OwnA.cell {w : World} {base : Nat} {rs : Rg} {g cap n : Nat} (h : OwnA w base (.slice (some ⟨g, 0, none⟩) n cap) rs) (hn : n = rs.length) (k : Nat) (hk : k < rs.length) :
    w.cell? ⟨g, k * 2, none⟩ = some (.int .i64 rs[k].1) ∧ w.cell? ⟨g, k * 2 + 1, none⟩ = some (.int .i64 rs[k].2) := by
  subst hn
  have hg := rgCells_get rs k hk
  refine ⟨?_, ?_⟩
  · rw [World.ownsRow.cellAt h (k * 2) (by omega)]; exact hg.1
  · rw [World.ownsRow.cellAt h (k * 2 + 1) (by omega)]; exact hg.2

set_option maxRecDepth 100000 in
set_option maxHeartbeats 4000000 in
theorem rtext_any (w : World) (S : Nat → Prop) (A : Option Addr) (c : Nat) (R : List HRow) (h : Hads w S A R.length c R) (m : Had) (hkey : keysH R = m.map (fun p => (p.1, nums p.2))) (hok : HadOk m) (hn : R.length ≤ 90000) (hrows : ∀ q ∈ R, q.2.1.length ≤ 90000) (hrl : ∀ p ∈ m, p.2.length ≤ 90000) :
    Calls Tryz.prog 41 #[.slice A R.length c] w (TxtPost w (encH m)) := by
  have HH := Lib.hid h; have HOK := Lib.hid hok; have HKEY := Lib.hid hkey; have HROWS := Lib.hid hrows; have HRL := Lib.hid hrl
  have hml : m.length = R.length := by have := congrArg List.length hkey; simpa [keysH] using this.symm
  have HML := Lib.hid hml
  have HENC := Lib.hid (show encH m = numB m.length ++ m.flatMap encS from rfl)
  clear h hok hkey hrows hrl
  have hN := rnum_any m.length (by omega)
  rw [hml] at hN
  have HN := Lib.hid hN
  clear hN
  go_enter Tryz.func41, Tryz.ntmps41
  go_wp2_with fail
  refine (HN.out w).mono ?_
  rintro r w1 ⟨rfl, hb1⟩
  have HB1 := Lib.hid hb1
  clear hb1
  have HST := Lib.hid (show TxRel w m (.string ⟨(numB R.length).toArray⟩) (.int .i64 ((0 : Nat) : Int)) w1 from ⟨0, numB R.length, rfl, Nat.zero_le _, rfl, by rw [HML.out]; simp, HB1.out⟩)
  go_wp2
  go_loopw [3, 4] (fun s i wr => TxRel w m s i wr) (fun _ i _ => R.length - (intOf i).toNat)
  case atStart => exact HST.out
  case round =>
    obtain ⟨k, l, rfl, hk, rfl, hl, hbel⟩ := hrel
    have HL := Lib.hid hl
    have hll : l.length ≤ 140000000000 := by
      rw [hl, List.length_append]
      have h1 := numB_short (n := m.length) (by omega)
      have h2 := flat_len HOK.out HRL.out k
      have h3 : 1500000 * k ≤ 1500000 * 90000 := Nat.mul_le_mul_left _ (by omega)
      omega
    clear hl
    have hs0 := hbel.size
    by_cases hkn : k < R.length
    · obtain ⟨b, off, rfl, hb, _, hq0, hq1⟩ := HH.out.at_ k hkn
      have hkm : k < m.length := by omega
      have d0 : wr.cell? ⟨b, off + k * 2, none⟩ = _ := (hbel.cell (p := ⟨b, off + k * 2, none⟩) hb).trans hq0
      have d1 : wr.cell? ⟨b, off + k * 2 + 1, none⟩ = _ := (hbel.cell (p := ⟨b, off + k * 2 + 1, none⟩) hb).trans hq1
      have hpair : (R[k].1, R[k].2.1) = (m[k].1, nums m[k].2) := by
        have h1 : (keysH R)[k]'(by unfold keysH; simpa using hkn) = (R[k].1, R[k].2.1) := by simp [keysH]
        rw [← h1]
        simp only [HKEY.out]
        simp
      have hp1 : R[k].1 = m[k].1 := by injection hpair
      have hp2 : R[k].2.1 = nums m[k].2 := by injection hpair
      have hrow := HH.out.row R[k] (List.getElem_mem hkn)
      rw [hp2] at hrow
      rw [hp1] at d0
      have hpo := HOK.out.each m[k] (List.getElem_mem hkm)
      have hpl := HRL.out m[k] (List.getElem_mem hkm)
      have hnl := HROWS.out R[k] (List.getElem_mem hkn)
      rw [hp2] at hnl
      have HFT := Lib.hid (flat_take m k hkm)
      clear hq0 hq1 hpair hp1 hp2
      generalize R[k].2.2 = vL at *
      obtain ⟨nm, rs, hmk⟩ : ∃ nm rs, m[k] = (nm, rs) := ⟨_, _, rfl⟩
      rw [hmk] at d0 hrow hpo hpl hnl HFT
      simp only at d0 hrow hpo hpl hnl
      clear hmk
      have HROW := Lib.hid hrow; have HPO := Lib.hid hpo
      have hnm : nm.length ≤ 24 := by have := hpo.1; unfold nameB at this; simp at this; omega
      have HES := Lib.hid (show encS (nm, rs) = UInt8.ofNat nm.length :: (nm ++ numB rs.length ++ encR 1 rs) from rfl)
      clear hrow hpo
      have t1 : (k : Int) < R.length := by omega
      go_wp2_with fail
      refine (rranges_any wr S vL (nums rs) (HROW.out.below hbel) hnl (fun n hn => by
        have hh := (nums_mem HPO.out.2.1 n).1 hn
        unfold hasR at hh
        obtain ⟨q, hq, hqq⟩ := List.any_eq_true.1 hh
        simp only [Bool.and_eq_true, decide_eq_true_eq] at hqq
        have := HPO.out.2.1.each q hq
        omega)).mono ?_
      rintro r w2 ⟨v2, rfl, ho2, hb2⟩
      rw [rgs_eq HPO.out.2.1] at ho2
      have hrs0 : 0 < rs.length := List.length_pos_iff.2 HPO.out.2.2
      obtain ⟨g, cp, hv2, hgb, hg2⟩ := World.ownsRow.form ho2 hrs0
      subst hv2
      have HO2 := Lib.hid ho2
      have hbw2 : Below w.heap.size w w2 := hbel.trans (hb2.mono hbel.size)
      have f0 : w2.cell? ⟨b, off + k * 2, none⟩ = some (.string ⟨nm.toArray⟩) := (hb2.cell (p := ⟨b, off + k * 2, none⟩) (by show b < wr.heap.size; omega)).trans d0
      clear ho2 hb2 d0 d1
      obtain ⟨cc, hcc⟩ : ∃ cc, cc = UInt8.ofNat (nm.length : Int).toNat := ⟨_, rfl⟩
      obtain ⟨pre, hpre⟩ : ∃ pre, pre = l ++ ([cc] ++ nm ++ numB rs.length) := ⟨_, rfl⟩
      have HPR := Lib.hid (show pre ++ encR 1 rs = numB m.length ++ (m.take (k + 1)).flatMap encS by
        rw [HFT.out, HES.out, hpre, HL.out, hcc]
        simp)
      have HPV := Lib.hid (show (⟨l.toArray⟩ : ByteArray) ++ (⟨#[cc]⟩ ++ ⟨nm.toArray⟩ ++ ⟨(numB rs.length).toArray⟩) = ⟨pre.toArray⟩ by
        have h1 := str_app [cc] nm
        have h2 := str_app ([cc] ++ nm) (numB rs.length)
        have h3 := str_app l ([cc] ++ nm ++ numB rs.length)
        rw [hpre, ← h3, ← h2, ← h1])
      have hl6 := numB_short (n := rs.length) (by omega)
      have hprel : pre.length ≤ 150000000000 := by rw [hpre]; simp; omega
      have HZZ := Lib.hid (show ¬ 9223372036854775807 < 1 + nm.length ∧ ¬ 9223372036854775807 < 1 + nm.length + (numB rs.length).length ∧ ¬ 9223372036854775807 < l.length + (1 + nm.length + (numB rs.length).length) by
        have : pre.length = l.length + (1 + nm.length + (numB rs.length).length) := by rw [hpre]; simp; omega
        omega)
      have HCC := Lib.hid hcc
      clear hcc hpre HES HFT
      have HN6 := Lib.hid (show ∀ W, Calls Tryz.prog 80 #[.int .i64 (rs.length : Int)] W (NumPost W rs.length) from fun W => rnum_any rs.length (by omega) W)
      have HW := Lib.hid (show ∀ w3 : World, Below (w2.alloc (.cells #[.int .u8 (nm.length : Int)] 5)).drew.heap.size (w2.alloc (.cells #[.int .u8 (nm.length : Int)] 5)).drew w3 → w3.cell? ⟨w2.heap.size, 0, none⟩ = some (.int .u8 (nm.length : Int)) from fun w3 h3 => (h3.cell (p := ⟨w2.heap.size, 0, none⟩) (by simp)).trans (cell_of_row _ w2.heap.size 0 _ _ (0, 0) (heap_alloc_new w2 _)))
      have hb21 : Below w2.heap.size w2 (w2.alloc (.cells #[.int .u8 (nm.length : Int)] 5)).drew := ((Below.refl _ _).alloc (Nat.le_refl _) _).drew
      have HBA := Lib.hid (show ∀ W, Below (w2.alloc (.cells #[.int .u8 (nm.length : Int)] 5)).drew.heap.size (w2.alloc (.cells #[.int .u8 (nm.length : Int)] 5)).drew W → Below w2.heap.size w2 W from fun W h => hb21.trans (h.mono hb21.size))
      have HBB := Lib.hid (show ∀ W, Below w2.drew.heap.size w2.drew W → Below w2.heap.size w2 W from fun W h => (Below.refl w2.heap.size w2).drew.trans h)
      have hbw : b < w2.heap.size := by have := hbw2.size; omega
      have HSS := Lib.hid (show ∀ W, Below w2.heap.size w2 W → W.cell? ⟨b, off + k * 2, none⟩ = some (.string ⟨nm.toArray⟩) from fun W hW => (hW.cell (p := ⟨b, off + k * 2, none⟩) hbw).trans f0)
      have e4 : IntKind.u8.wrap (nm.length : Int) = (nm.length : Int) := by simp [IntKind.wrap, IntKind.bits, IntKind.signed]; omega
      have kc := conv1d w2 (nm.length : Int)
      rw [← HCC.out] at kc
      clear hb21
      go_upto_region 6 with fail
      go_cut [3] (fun s wx => TxCut w2 pre s wx)
      case first =>
        obtain ⟨z1, z2, z3⟩ := HZZ.out
        have f1 := HSS.out (w2.alloc (.cells #[.int .u8 (nm.length : Int)] 5)) ((Below.refl _ _).alloc (Nat.le_refl _) _)
        go_region_law ((go_simp; go_at_call 80; (with_reducible refine (HN6.out _).mono ?_); rintro r9 w3 ⟨rfl, hb3⟩; have HB3 := Lib.hid hb3; (first | (have kc3 := convAt _ _ _ (HW.out _ hb3); rw [← HCC.out] at kc3; have hS3 := HSS.out _ (HBA.out _ hb3)) | (have kc4 := conv1 w3 (nm.length : Int); rw [← HCC.out] at kc4; have hS3 := HSS.out _ (HBB.out _ hb3); have hS4 := HSS.out (w3.alloc (.cells #[.int .u8 (nm.length : Int)] 5)) ((HBB.out _ hb3).alloc (HBB.out _ hb3).size _))); clear hb3))
        all_goals
          clear e4 z1 z2 z3 f1
          go_wp2_with fail
          go_meet
          refine ⟨congrArg Value.string HPV.out, ?_⟩
          first
            | exact HBA.out _ HB3.out
            | exact HBB.out _ HB3.out
            | exact (HBB.out _ HB3.out).alloc (HBB.out _ HB3.out).size _
      case rest =>
        obtain ⟨rfl, hbc⟩ := hcut
        clear e4 kc f0 HW HBA HBB HSS HN6
        have HSI := Lib.hid (show TxIn w2 pre rs (.string ⟨pre.toArray⟩) (.int .i64 1) (.int .i64 ((0 : Nat) : Int)) wc from ⟨0, pre, 1, rfl, Nat.zero_le _, rfl, by simp [encR], rfl, rfl, hbc⟩)
        clear hbc
        go_wp2
        go_loopw [3, 6, 7] (fun s en j wz => TxIn w2 pre rs s en j wz) (fun _ _ j _ => rs.length - (intOf j).toNat)
        case atStart => exact HSI.out
        case round =>
          obtain ⟨j, li, en, rfl, hj, rfl, hli, rfl, hen, hbz⟩ := hrel
          generalize wr = wz at *
          have HLI := Lib.hid hli
          have hlil : li.length ≤ 160000000000 := by
            rw [hli, List.length_append]
            have h1 := encR_len (rs.take j) (fun r hr => HPO.out.2.1.each r (List.mem_of_mem_take hr)) 1 (by omega)
            rw [List.length_take] at h1
            omega
          clear hli
          have hsz := hbz.size
          by_cases hjn : j < rs.length
          · have hle := endR_le HPO.out.2.1 j hjn
            rw [← hen] at hle
            have hea := HPO.out.2.1.each rs[j] (List.getElem_mem hjn)
            have HTA := Lib.hid (encR_take 1 rs j hjn)
            have HTE := Lib.hid (endR_take 1 rs j hjn)
            obtain ⟨y0, y1⟩ := HO2.out.cell rfl j hjn
            rw [← hen] at HTA
            clear hen
            generalize rs[j] = r at *
            obtain ⟨ra, rb⟩ := r
            simp only at hle hea HTA HTE y0 y1
            have HNA := Lib.hid (show ∀ W, Calls Tryz.prog 80 #[.int .i64 (ra - en)] W (TxtPost W (numB (ra - en).toNat)) from fun W => by
              have := rnum_any (ra - en).toNat (by omega) W
              rw [Int.toNat_of_nonneg (by omega)] at this; exact this)
            have HNB := Lib.hid (show ∀ W, Calls Tryz.prog 80 #[.int .i64 (rb - ra)] W (TxtPost W (numB (rb - ra).toNat)) from fun W => by
              have := rnum_any (rb - ra).toNat (by omega) W
              rw [Int.toNat_of_nonneg (by omega)] at this; exact this)
            have hla := numB_short (n := (ra - en).toNat) (by omega)
            have hlb := numB_short (n := (rb - ra).toNat) (by omega)
            have HV := Lib.hid (show (⟨li.toArray⟩ : ByteArray) ++ (⟨(numB (ra - en).toNat).toArray⟩ ++ ⟨(numB (rb - ra).toNat).toArray⟩) = ⟨(li ++ (numB (ra - en).toNat ++ numB (rb - ra).toNat)).toArray⟩ by
              rw [str_app, str_app])
            have HFIN := Lib.hid (show ∀ W, Below w2.heap.size w2 W → TxIn w2 pre rs (.string ⟨(li ++ (numB (ra - en).toNat ++ numB (rb - ra).toNat)).toArray⟩) (.int .i64 rb) (.int .i64 ((j + 1 : Nat) : Int)) W from fun W hW => ⟨j + 1, _, rb, rfl, by omega, rfl, by rw [HTA.out, HLI.out, List.append_assoc], rfl, HTE.out.symm, hW⟩)
            generalize (numB (ra - en).toNat) = na at *
            generalize (numB (rb - ra).toNat) = nb at *
            have HSS := Lib.hid (show ∀ W, Below wz.heap.size wz W → (fun wx : World => wx.cell? ⟨g, j * 2, none⟩ = some (.int .i64 ra) ∧ wx.cell? ⟨g, j * 2 + 1, none⟩ = some (.int .i64 rb)) W from fun W hW =>
              ⟨((hbz.trans (hW.mono hbz.size)).cell (p := ⟨g, j * 2, none⟩) hg2).trans y0, ((hbz.trans (hW.mono hbz.size)).cell (p := ⟨g, j * 2 + 1, none⟩) hg2).trans y1⟩)
            have s1 : ¬ 9223372036854775807 < na.length + nb.length := by omega
            have s2 : ¬ 9223372036854775807 < li.length + (na.length + nb.length) := by omega
            have t2 : (j : Int) < rs.length := by omega
            have e1 : IntKind.i64.wrap (ra - en) = ra - en := IntWalk.i64_in _ (by omega)
            have e2 : IntKind.i64.wrap (rb - ra) = rb - ra := IntWalk.i64_in _ (by omega)
            clear hle hea y0 y1
            go_wp2
            refine wp_region_quiet (C := fun wx => Below wz.heap.size wz wx) (by kernel_rfl) (by kernel_rfl) (below_drew (Below.refl _ _)) ?_
            simp only
            repeat (first
              | go_big_quiet_skip
              | (go_big_quiet_want; go_big_quiet_op; go_big_quiet_on)
              | (refine wpQuiet_step (fun K hK => ?_)
                 go_simp
                 first
                   | (refine hK _ ?_; clear hK K)
                   | (apply Exists.intro
                      refine ⟨fun wx hx => ?_, hK _ ?_⟩
                      · (obtain ⟨q0, q1⟩ := HSS.out wx hx; go_simp; first | done | rfl | exact ⟨rfl, rfl⟩ | ((with_reducible refine (HNA.out wx).mono ?_); rintro r9 w5 ⟨hr9, hb5⟩; exact ⟨hr9, hx.trans (hb5.mono hx.size)⟩) | ((with_reducible refine (HNB.out wx).mono ?_); rintro r9 w5 ⟨hr9, hb5⟩; exact ⟨hr9, hx.trans (hb5.mono hx.size)⟩))
                      clear hK K)))
            refine wpQuiet_nil ?_
            intro w5 hb5
            clear e1 e2
            have hbz5 : Below w2.heap.size w2 w5 := hbz.trans (hb5.mono hbz.size)
            obtain ⟨z0, z1⟩ := HSS.out w5 hb5
            have HR := Lib.hid (HFIN.out w5 hbz5)
            rw [HV.out]
            clear HSS HFIN HNA HNB
            go_wp2
            go_roundw
            case rel => exact HR.out
            case measure => simp [intOf]; omega
          · have t2 : ¬ (j : Int) < rs.length := by omega
            have HR := Lib.hid (show TxRel w m (.string ⟨li.toArray⟩) (.int .i64 ((k + 1 : Nat) : Int)) wz from ⟨k + 1, li, rfl, by omega, rfl, by rw [HLI.out, List.take_of_length_le (by omega), HPR.out], hbw2.trans (hbz.mono hbw2.size)⟩)
            clear hen
            go_wp2
            go_roundw
            case rel => exact HR.out
            case measure => simp [intOf]; omega
    · have t1 : ¬ (k : Int) < R.length := by omega
      have HE := Lib.hid (show l = encH m by rw [HL.out, HENC.out, List.take_of_length_le (by omega)])
      go_wp2
      go_ret
      exact ⟨ret_str HE.out, hbel⟩
end Go.Proofs.YtoljbbmjbgepiaaGreatDoor
namespace Go.Proofs.YtoljbbmjbgepiaaGreatDoor
open Go.RowKit Go.Maps Go.Sort Go.Shelf

theorem app_str (w : World) (base : Nat) (v : Value) (l s : List UInt8) (ho : OwnB w base v l) (h0 : 0 < l.length) (hb : base ≤ w.heap.size) (hl : l.length + s.length ≤ 1000000000000) (ty : TypeId) :
    ∃ v' w', (Builtin.append_ #[65, 9] ty #[v, .string ⟨s.toArray⟩]).run Tryz.prog w = .ok v' w' ∧ OwnB w' base v' (l ++ s) ∧ w.grownBy w' v.ownBlock ∧ (v'.ownBlock = v.ownBlock ∨ v'.ownBlock = some w.heap.size) := by
  obtain ⟨i0, hi, hz0, hz1, hz2⟩ := info_parts u8_info
  have hss : (⟨s.toArray⟩ : ByteArray).size = s.length := by simp [ByteArray.size]
  have hsc : Lib.strCells ⟨s.toArray⟩ = bvs s := by simp [Lib.strCells, bvs]
  obtain ⟨v', w', hr, h2, h3, _⟩ := Lib.run_append_own_string (P := Tryz.prog) w base 65 9 ty 5 i0 Tryz.underlying65 Tryz.underlying9 hi hz0 hz1 hz2 v l.length (bvs l) ho ⟨s.toArray⟩ (by rw [hss]; unfold maxLen; omega) (by rw [hss]; omega) hb
  refine ⟨v', w', hr, ?_, h3, ?_⟩
  · unfold OwnB
    rw [bvs_append, List.length_append]
    rw [hss, hsc] at h2; exact h2
  · rcases ho.2 with ⟨_, h'⟩ | ⟨g, cap, cur, hv, hbg, hg, hnc, hcm, hcs, htake⟩
    · omega
    · subst hv
      by_cases hroom : l.length + (⟨s.toArray⟩ : ByteArray).size ≤ cap
      · have h5 := Lib.run_append_room_string (P := Tryz.prog) w 65 9 ty 5 i0 Tryz.underlying65 Tryz.underlying9 hi hz1 g l.length cap cur hg ⟨s.toArray⟩ hroom (by rw [hcs]; omega)
        rw [hr] at h5
        injection h5 with h5 _
        left; rw [h5]; rfl
      · have hxl : (bvs l).length = l.length * i0.size := by rw [hz1, bvs_length]; omega
        have h5 := Lib.run_append_grow_string (P := Tryz.prog) w 65 9 ty 5 i0 (.int .u8 0) Tryz.underlying65 Tryz.underlying9 hi hz0 ⟨g, 0, none⟩ l.length cap (bvs l) hxl (World.ownsRow.cells ho (g := g) rfl) ⟨s.toArray⟩ (by omega) (by rw [hss]; omega) (by rw [hz2, hss]; exact growslice_fits (by omega) (by omega))
        rw [hr] at h5
        injection h5 with h5 _
        right; rw [h5]; rfl
theorem PnM.then_ {w w1 w2 : World} {base : Nat} {v v1 v2 : Value} {l l' : List UInt8} (h : PnM w base v l v1 w1) (h2 : PnM w1 base v1 l' v2 w2) : PnM w base v l' v2 w2 := by
  have hs := h.keep.size
  refine ⟨h2.own, h.keep.trans h2.keep (fun b hb hF => ?_), fun b hb => ?_⟩
  · rcases h.blk b hF with h' | h'
    · exact h'
    · omega
  · rcases h2.blk b hb with h' | h'
    · exact h.blk b h'
    · right; omega
theorem PnM.up {w w1 w2 : World} {base : Nat} {v v1 : Value} {l : List UInt8} (h : PnM w base v l v1 w1) (hb : Below w1.heap.size w1 w2) : PnM w base v l v1 w2 :=
  ⟨h.own.below hb (Nat.le_refl _), h.keep.trans (G := fun _ => False) (Keep.of_below hb) (fun _ _ h => h.elim), h.blk⟩
theorem PnM.str {w wr w2 : World} {base : Nat} {v v1 v2 : Value} {l l' : List UInt8} (h : PnM w base v l v1 wr) (ho : OwnB w2 base v2 l') (hg : wr.grownBy w2 v1.ownBlock) (hv : v2.ownBlock = v1.ownBlock ∨ v2.ownBlock = some wr.heap.size) : PnM w base v l' v2 w2 := by
  have hs := h.keep.size
  refine ⟨ho, h.keep.trans (Keep.of_grown (F := fun b => v1.ownBlock = some b) hg (fun k e => e)) (fun b hb hF => ?_), fun b hb => ?_⟩
  · rcases h.blk b hF with h' | h'
    · exact h'
    · omega
  · rcases hv with e | e
    · exact h.blk b (e ▸ hb)
    · rw [e] at hb; injection hb with hb; right; omega
def EnRel (w2 : World) (base : Nat) (v3 : Value) (m : Had) (b i : Value) (wr : World) : Prop := ∃ k : Nat, i = .int .i64 k ∧ k ≤ m.length ∧ PnM w2 base v3 (numB m.length ++ (m.take k).flatMap encS) b wr
def EnIn (w2 : World) (base : Nat) (v3 : Value) (pre : List UInt8) (rs : Rg) (b en i : Value) (wz : World) : Prop := ∃ (j : Nat) (e : Int), i = .int .i64 j ∧ j ≤ rs.length ∧ en = .int .i64 e ∧ e = endR 1 (rs.take j) ∧ PnM w2 base v3 (pre ++ encR 1 (rs.take j)) b wz
def EncPost (w : World) (l : List UInt8) (e : Ending) (w' : World) : Prop := ∃ v, e = .returned v ∧ OwnB w' w.heap.size v l ∧ Below w.heap.size w w'

set_option maxRecDepth 100000 in
set_option maxHeartbeats 4000000 in
theorem encode_any (w : World) (G : Nat → Prop) (bs bm : Nat) (m : Had) (V : List UInt8 → Value) (h : HadAt w G bs bm m V) (hml : m.length ≤ 90000) (hrl : ∀ p ∈ m, p.2.length ≤ 90000) : Calls Tryz.prog 40 #[.pointer (some ⟨bs, 0, none⟩)] w (EncPost w (encH m)) := by
  have HH := Lib.hid h; have HRL := Lib.hid hrl
  have hlen : ∀ ty, (Builtin.len_ #[109] ty #[.map (some bm)]).run Tryz.prog w = .ok (.int .i64 (m.length : Int)) w := fun ty => by
    have := World.ownsMap.len (show w.ownsMap Tryz.prog 9 raw bm _ _ from h.map) Tryz.underlying109 ty
    rw [this]; simp [mapD, Maps.size]
  have c0 := h.cell
  have HENC := Lib.hid (show encH m = numB m.length ++ m.flatMap encS from rfl)
  have hn8 := numB_short (n := m.length) (by omega)
  clear h hrl
  go_enter Tryz.func40, Tryz.ntmps40
  go_wp2_with fail
  with_reducible refine (putnum_any w w.heap.size (.slice none 0 0) [] (OwnB.nil w w.heap.size) (Nat.le_refl _) m.length (by omega) (by simp)).mono ?_
  rintro r w1 ⟨v3, rfl, hp1⟩
  rw [List.nil_append] at hp1
  have HP1 := Lib.hid hp1
  have hkb : ∀ (l : List UInt8) (v' : Value) (wx : World), PnM w w.heap.size (.slice none 0 0) l v' wx → Below w.heap.size w wx := fun _ _ _ hx => hx.keep.below (Nat.le_refl _) (fun k _ e => by cases e)
  have HKB := Lib.hid hkb
  have hb1 : Below w.heap.size w w1 := hkb _ _ _ hp1
  have HH1 := Lib.hid (HH.out.up hb1)
  clear hp1 hkb c0 hlen
  go_wp2_with fail
  with_reducible refine (sources_any w1 G bs bm m V HH1.out (by omega)).mono ?_
  rintro r w2 ⟨vS, rfl, hS, hb2⟩
  have HP2 := Lib.hid (HP1.out.up hb2)
  have HH2 := Lib.hid (HH1.out.up hb2)
  obtain ⟨AS, cS, hvS⟩ := ownsRow_form hS
  have hSC : Cel w2 w2.heap.size 1 AS (m.map (·.1)).length cS ((m.map (·.1)).map encStr) := by rw [hvS] at hS; exact Cel.of_own hS
  have hSB : VwIn (fun b => w1.heap.size ≤ b) AS (m.map (·.1)).length := by rw [hvS] at hS; exact (own_in hS).mono (fun b h => h.1)
  have hkl : (m.map (·.1)).length = m.length := by simp
  rw [hkl] at hvS hSC hSB
  subst hvS
  have hv3 : ∀ b, v3.ownBlock = some b → w.heap.size ≤ b ∧ b < w1.heap.size := fun b hb => World.ownsRow.lt HP1.out.own b hb
  have HSC := Lib.hid hSC; have HSB := Lib.hid hSB; have HV3 := Lib.hid hv3
  have hGw : ∀ b, G b → b < w.heap.size := HH.out.lt
  have HGW := Lib.hid hGw
  have hs12 := hb2.size
  have hs01 := hb1.size
  have HST := Lib.hid (show EnRel w2 w.heap.size v3 m v3 (.int .i64 ((0 : Nat) : Int)) w2 from ⟨0, rfl, Nat.zero_le _, by simpa using HP2.out.own, Keep.refl _ _, fun b hb => .inl hb⟩)
  clear hS hSC hSB hv3 hGw hb2 hkl HP1
  go_wp2
  go_loopw [3, 19] (fun b i wr => EnRel w2 w.heap.size v3 m b i wr) (fun _ i _ => m.length - (intOf i).toNat)
  case atStart => exact HST.out
  case round =>
    obtain ⟨k, rfl, hk, hm⟩ := hrel
    have HM := Lib.hid hm
    have hsr := hm.keep.size
    clear hm
    have hll : (numB m.length ++ (m.take k).flatMap encS).length ≤ 140000000000 := by
      rw [List.length_append]
      have h2 := flat_len HH.out.ok HRL.out k
      have h3 : 1500000 * k ≤ 1500000 * 90000 := Nat.mul_le_mul_left _ (by omega)
      omega
    have hl0 : 0 < (numB m.length ++ (m.take k).flatMap encS).length := by
      rw [List.length_append]
      have : 0 < (numB m.length).length := by
        by_cases h : m.length < 128
        · rw [numB_lo h]; simp
        · rw [numB_hi h]; simp
      omega
    by_cases hkn : k < m.length
    · have HSTR := Lib.hid (show ∀ wx, Keep (fun b => v3.ownBlock = some b) w2 wx → Cel wx wx.heap.size 1 AS m.length cS ((m.map (·.1)).map encStr) from fun wx hx => Cel.stay HSC.out HSB.out hx.size (fun b off hb hlt => hx.cell (p := ⟨b, off, none⟩) hlt (fun e => by have := HV3.out b e; omega)))
      have HHX := Lib.hid (show ∀ wx, Keep (fun b => v3.ownBlock = some b) w2 wx → HadAt wx G bs bm m V from fun wx hx => HH2.out.keep hx.size (fun b hb => hx.block b (HH2.out.lt b hb) (fun e => by have := HV3.out b e; have := HGW.out b hb; omega)))
      obtain ⟨b, off, rfl, hb, hc⟩ := Strs.at_ (ss := m.map (fun p : List UInt8 × Rg => p.1)) (HSTR.out wr HM.out.keep) k (by simpa using hkn)
      have hmk : (m.map (fun p : List UInt8 × Rg => p.1))[k]'(by simpa using hkn) = m[k].1 := by simp
      rw [hmk] at hc
      have hpo := HH.out.ok.each m[k] (List.getElem_mem hkn)
      have hpl := HRL.out m[k] (List.getElem_mem hkn)
      have HFT := Lib.hid (flat_take m k hkn)
      have hmem : m[k] ∈ m := List.getElem_mem hkn
      obtain ⟨nm, rs, hmk2⟩ : ∃ nm rs, m[k] = (nm, rs) := ⟨_, _, rfl⟩
      rw [hmk2] at hc hpo hpl HFT hmem
      simp only at hc hpo hpl
      clear hmk hmk2
      have HPO := Lib.hid hpo; have HMEM := Lib.hid hmem
      have hnm : nm.length ≤ 24 := by have := hpo.1; unfold nameB at this; simp at this; omega
      have HES := Lib.hid (show encS (nm, rs) = UInt8.ofNat nm.length :: (nm ++ numB rs.length ++ encR 1 rs) from rfl)
      have HROW := Lib.hid (show hadRow m nm = rs by unfold hadRow; rw [getB_of_mem HH.out.ok.up hmem]; rfl)
      generalize hL : numB m.length ++ (m.take k).flatMap encS = L at *
      have HL := Lib.hid hL
      clear hL hpo hmem
      have t1 : (k : Int) < m.length := by omega
      have e4 : IntKind.u8.wrap (nm.length : Int) = (nm.length : Int) := by simp [IntKind.wrap, IntKind.bits, IntKind.signed]; omega
      have hn24 : (nm.length : Int) % 256 = nm.length := by omega
      go_wp2_with (at_builtin; refine wpList_app8 rfl (.tmp 23) (.tmp 27) rfl w.heap.size _ L rfl ?c1 (wr.heap.size + 1) _ _ _ [UInt8.ofNat nm.length] rfl ?c2 ?c3 ?c4 ?_)
      case c1 => exact OwnB.alloc HM.out.own _
      case c2 => exact Byt.new wr _ _ [UInt8.ofNat nm.length] (by simp; omega) 1 rfl (by unfold maxLen; omega)
      case c3 => first | omega | (simp; omega)
      case c4 => first | omega | (simp; omega)
      intro v5 w5 ho5 hg5 hv5
      have HM5 := Lib.hid (HM.out.app _ ho5 hg5 hv5)
      clear ho5 hg5 hv5 HM e4 hn24
      have hs5 := HM5.out.keep.size
      obtain ⟨v6, w6, hr6, ho6, hg6, hv6⟩ := app_str w5 w.heap.size v5 (L ++ [UInt8.ofNat nm.length]) nm HM5.out.own (by simp) (by omega) (by simp; omega) 65
      have HR6 := Lib.hid hr6
      have HM6 := Lib.hid (HM5.out.str ho6 hg6 hv6)
      have hs6 := HM6.out.keep.size
      have hc0 := (HHX.out w6 HM6.out.keep).cell
      obtain ⟨vr, hlk, hor, _, hvV⟩ := (HHX.out w6 HM6.out.keep).look nm (by omega)
      rw [HROW.out] at hor
      have hvr := hvV rs (getB_of_mem HH.out.ok.up HMEM.out)
      have HVR := Lib.hid hvr
      have hrs0 : 0 < rs.length := List.length_pos_iff.2 HPO.out.2.2
      obtain ⟨g, cr, hvf, _, hgl⟩ := World.ownsRow.form hor hrs0
      subst hvf
      clear hr6 ho6 hg6 hv6 hor hvV hvr hc
      go_wp2_with (at_builtin; refine Lib.wpList_append_run _ rfl (.tmp 29) (.tmp 30) _ _ rfl _ _ rfl rfl _ _ HR6.out ?_)
      go_wp2_with fail
      with_reducible refine (putnum_any w6 w.heap.size v6 (L ++ [UInt8.ofNat nm.length] ++ nm) HM6.out.own (by omega) rs.length (by omega) (by simp; omega)).mono ?_
      rintro r w7 ⟨v7, rfl, hp7⟩
      have HM7 := Lib.hid (HM6.out.then_ hp7)
      obtain ⟨pre, hpre⟩ : ∃ pre, pre = L ++ [UInt8.ofNat nm.length] ++ nm ++ numB rs.length := ⟨_, rfl⟩
      have HPR := Lib.hid (show pre ++ encR 1 rs = numB m.length ++ (m.take (k + 1)).flatMap encS by rw [HFT.out, HES.out, hpre, ← HL.out]; simp)
      have hprel : pre.length ≤ 150000000000 := by rw [hpre]; have := numB_short (n := rs.length) (by omega); simp; omega
      rw [← hpre] at HM7
      clear hp7 hpre hc0 hlk HM5 HM6 HR6 HES HFT
      have HSI := Lib.hid (show EnIn w2 w.heap.size v3 pre rs v7 (.int .i64 1) (.int .i64 ((0 : Nat) : Int)) w7 from ⟨0, 1, rfl, Nat.zero_le _, rfl, rfl, by simpa [encR] using HM7.out⟩)
      clear HM7
      go_wp2
      go_loopw [3, 7, 44] (fun b en i wz => EnIn w2 w.heap.size v3 pre rs b en i wz) (fun _ _ i _ => rs.length - (intOf i).toNat)
      case atStart => exact HSI.out
      case round =>
        obtain ⟨j, en, rfl, hj, rfl, hen, hmz⟩ := hrel
        generalize wr = wz at *
        have HMZ := Lib.hid hmz
        have hsz := hmz.keep.size
        have hlil : (pre ++ encR 1 (rs.take j)).length ≤ 160000000000 := by
          rw [List.length_append]
          have h1 := encR_len (rs.take j) (fun r hr => HPO.out.2.1.each r (List.mem_of_mem_take hr)) 1 (by omega)
          rw [List.length_take] at h1
          omega
        clear hmz
        by_cases hjn : j < rs.length
        · have hle := endR_le HPO.out.2.1 j hjn
          rw [← hen] at hle
          have hea := HPO.out.2.1.each rs[j] (List.getElem_mem hjn)
          have HTA := Lib.hid (encR_take 1 rs j hjn)
          have HTE := Lib.hid (endR_take 1 rs j hjn)
          have hoz : OwnR wz (.slice (some ⟨g, 0, none⟩) rs.length cr) rs := by
            have := (HHX.out wz HMZ.out.keep).own (nm, rs) HMEM.out
            rw [HVR.out]; exact this
          obtain ⟨y0, y1, _, _⟩ := hoz.cell j hjn
          rw [← hen] at HTA
          clear hen hoz
          generalize rs[j] = r at *
          obtain ⟨ra, rb⟩ := r
          simp only at hle hea HTA HTE y0 y1
          generalize hP : pre ++ encR 1 (rs.take j) = P at *
          have HP := Lib.hid hP
          clear hP
          have t2 : (j : Int) < rs.length := by omega
          have hbW : Below wz.heap.size wz (wz.alloc (.cells #[.int .i64 ra, .int .i64 rb] 114)) := (Below.refl _ _).alloc (Nat.le_refl _) _
          have HMA := Lib.hid (HMZ.out.up hbW)
          have z0 : (wz.alloc (.cells #[.int .i64 ra, .int .i64 rb] 114)).cell? ⟨wz.heap.size, 0, none⟩ = some (.int .i64 ra) := cell_of_row _ wz.heap.size 0 _ _ (0, 0) (heap_alloc_new wz _)
          have z1 : (wz.alloc (.cells #[.int .i64 ra, .int .i64 rb] 114)).cell? ⟨wz.heap.size, 1, none⟩ = some (.int .i64 rb) := cell_of_row _ wz.heap.size 1 _ _ (0, 0) (heap_alloc_new wz _)
          have hsa : (wz.alloc (.cells #[.int .i64 ra, .int .i64 rb] 114)).heap.size = wz.heap.size + 1 := by simp
          go_upto_region 13 with fail
          clear hbW y0 y1
          generalize wz.alloc (.cells #[.int .i64 ra, .int .i64 rb] 114) = wa at *
          have hbx : ∀ b, u3.ownBlock = some b → b ≠ wz.heap.size := fun b hb e => by have := (World.ownsRow.lt HMZ.out.own b hb).2; omega
          have HBX := Lib.hid hbx
          clear hbx HMZ
          have hN1 := putnum_any wa w.heap.size u3 P HMA.out.own (by omega) (ra - en).toNat (by omega) (by omega)
          rw [Int.toNat_of_nonneg (by omega)] at hN1
          have HN1 := Lib.hid hN1
          clear hN1
          go_wp2_with fail
          with_reducible refine HN1.out.mono ?_
          rintro r8 w8 ⟨v8, rfl, hp8⟩
          have HMB := Lib.hid (HMA.out.then_ hp8)
          have hs8 := hp8.keep.size
          have x0 : w8.cell? ⟨wz.heap.size, 0, none⟩ = some (.int .i64 ra) := (hp8.keep.cell (p := ⟨wz.heap.size, 0, none⟩) (by show wz.heap.size < _; omega) (fun e => HBX.out _ e rfl)).trans z0
          have x1 : w8.cell? ⟨wz.heap.size, 1, none⟩ = some (.int .i64 rb) := (hp8.keep.cell (p := ⟨wz.heap.size, 1, none⟩) (by show wz.heap.size < _; omega) (fun e => HBX.out _ e rfl)).trans z1
          have HBX8 := Lib.hid (show ∀ b, v8.ownBlock = some b → b ≠ wz.heap.size from fun b hb e => by
            rcases hp8.blk b hb with h' | h'
            · exact HBX.out b h' e
            · omega)
          have hla := numB_short (n := (ra - en).toNat) (by omega)
          clear hp8 z0 z1 HMA HN1
          have hN2 := putnum_any w8 w.heap.size v8 (P ++ numB (ra - en).toNat) HMB.out.own (by omega) (rb - ra).toNat (by omega) (by simp; omega)
          rw [Int.toNat_of_nonneg (by omega)] at hN2
          have HN2 := Lib.hid hN2
          clear hN2
          go_wp2_with fail
          with_reducible refine HN2.out.mono ?_
          rintro r9 w9 ⟨v9, rfl, hp9⟩
          have HMC := Lib.hid (HMB.out.then_ hp9)
          have q1 : w9.cell? ⟨wz.heap.size, 1, none⟩ = some (.int .i64 rb) := (hp9.keep.cell (p := ⟨wz.heap.size, 1, none⟩) (by show wz.heap.size < _; omega) (fun e => HBX8.out _ e rfl)).trans x1
          have HR := Lib.hid (show EnIn w2 w.heap.size v3 pre rs v9 (.int .i64 rb) (.int .i64 ((j + 1 : Nat) : Int)) w9 from ⟨j + 1, rb, rfl, by omega, rfl, HTE.out.symm, by
            rw [HTA.out, ← List.append_assoc, HP.out, ← List.append_assoc]; exact HMC.out⟩)
          clear hp9 x0 x1 HMB HN2
          go_wp2
          go_roundw
          case rel => exact HR.out
          case measure => simp [intOf]; omega
        · have t2 : ¬ (j : Int) < rs.length := by omega
          have HR := Lib.hid (show EnRel w2 w.heap.size v3 m u3 (.int .i64 ((k + 1 : Nat) : Int)) wz from ⟨k + 1, rfl, by omega, by
            have := HMZ.out
            rw [List.take_of_length_le (by omega), HPR.out] at this; exact this⟩)
          clear hen
          go_wp2
          go_roundw
          case rel => exact HR.out
          case measure => simp [intOf]; omega
    · have t1 : ¬ (k : Int) < m.length := by omega
      have HE := Lib.hid (show numB m.length ++ (m.take k).flatMap encS = encH m by rw [HENC.out, List.take_of_length_le (by omega)])
      rw [HE.out] at HM
      have HF := Lib.hid (HP2.out.then_ HM.out)
      obtain ⟨B, cB, hvB⟩ := HF.out.own.form
      subst hvB
      go_wp2
      go_ret
      exact ⟨_, rfl, HF.out.own, HKB.out _ _ _ HF.out⟩
end Go.Proofs.YtoljbbmjbgepiaaGreatDoor
