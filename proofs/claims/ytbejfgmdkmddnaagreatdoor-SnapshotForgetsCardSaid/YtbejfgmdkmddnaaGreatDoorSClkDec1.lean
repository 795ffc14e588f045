/-
  Layer 6: the clock, in memory.
  strings.Cut, strings.Split, strconv.Atoi, as these proofs use them.
  Slices of bytes that a call has made itself: appending to them, storing into them, reading them.
  Layer 8: the slack and the idle time that a clock's bytes tell.
  Layer 6: a line that is read (Decode$1): what it leaves.
-/
import Derived.Test.YtbejfgmdkmddnaaGreatDoorSRef02
import Derived.Test.YtbejfgmdkmddnaaGreatDoorSShelf
import Derived.StillTailTactics
import Derived.Test.YtbejfgmdkmddnaaGreatDoorSPtClk
import Derived.Test.YtbejfgmdkmddnaaGreatDoorSEvListing
import Derived.Lib.AtoiErrMem
import Derived.Test.YtbejfgmdkmddnaaGreatDoorSCells
import Derived.Test.YtbejfgmdkmddnaaGreatDoorSMapS
import Derived.Lib.OthersKept
namespace Go.Proofs.YtbejfgmdkmddnaaGreatDoor
open Go.RowKit Go.Maps Go.Sort

def encSrc (s : Int × Int) : Value := .agg #[.int .i64 s.1, .int .i64 s.2]
def srcRow (m : Row (Int × Int)) : Row Value := m.map fun p => (p.1, encSrc p.2)
abbrev clkObj (c : Clk) (bm : Nat) : Obj := .cells #[.int .i64 c.slack, .int .i64 c.idle, .int .i64 c.now, .int .i64 c.mark, .map (some bm)] 136
/-- block bc is a clock, whose map is block bm -/
structure ClockAt (w : World) (bc bm : Nat) (c : Clk) : Prop where
  blk : w.heap[bc]? = some (clkObj c bm)
  map : MapS w bm (srcRow c.src)
  ok : ClkOk c
/-- what the walk wants of it -/
structure ClockCells (w : World) (bc bm : Nat) (c : Clk) : Prop where
  c0 : w.cell? ⟨bc, 0, none⟩ = some (.int .i64 c.slack)
  c1 : w.cell? ⟨bc, 1, none⟩ = some (.int .i64 c.idle)
  c2 : w.cell? ⟨bc, 2, none⟩ = some (.int .i64 c.now)
  c3 : w.cell? ⟨bc, 3, none⟩ = some (.int .i64 c.mark)
  c4 : w.cell? ⟨bc, 4, none⟩ = some (.map (some bm))
  f2 : w.frozen? ⟨bc, 2, none⟩ = false
  f3 : w.frozen? ⟨bc, 3, none⟩ = false
theorem ClockAt.cells {w : World} {bc bm : Nat} {c : Clk} (h : ClockAt w bc bm c) : ClockCells w bc bm c := by
  have key : ∀ o, w.cell? ⟨bc, o, none⟩ = _ := fun o => cell_of_row w bc o _ _ (0, 0) h.blk
  exact ⟨(key 0).trans rfl, (key 1).trans rfl, (key 2).trans rfl, (key 3).trans rfl, (key 4).trans rfl, frozen_of_row w bc 2 _ _ h.blk, frozen_of_row w bc 3 _ _ h.blk⟩
theorem ClockAt.keep {w w' : World} {bc bm : Nat} {c : Clk} (h : ClockAt w bc bm c) (h1 : w'.heap[bc]? = w.heap[bc]?) (h2 : w'.heap[bm]? = w.heap[bm]?) : ClockAt w' bc bm c :=
  ⟨h1.trans h.blk, h.map.block h2, h.ok⟩
theorem ClockAt.lt {w : World} {bc bm : Nat} {c : Clk} (h : ClockAt w bc bm c) : bc < w.heap.size := heap_lt h.blk
theorem ClockAt.up {w w' : World} {bc bm : Nat} {c : Clk} (h : ClockAt w bc bm c) (hb : Below w.heap.size w w') : ClockAt w' bc bm c := h.keep (hb.block _ h.lt) (hb.block _ h.map.lt)
theorem ClockAt.ne {w : World} {bc bm : Nat} {c : Clk} (h : ClockAt w bc bm c) : bc ≠ bm := by
  rintro rfl
  obtain ⟨es, cl, h1⟩ := h.map.isMap
  rw [h.blk] at h1
  cases h1

theorem bound_any (w : World) (n : Int) : Calls Tryz.prog 80 #[.int .i64 n] w fun e w' => e = .returned (.int .i64 (boundI n)) ∧ w = w' := by
  go_enter Tryz.func80, Tryz.ntmps80
  go_wp2
  go_ret
  exact ⟨rfl, rfl⟩

theorem active_any (w : World) (bc bm : Nat) (c : Clk) (hc : ClockAt w bc bm c) (a h : Int) (h1 : 0 ≤ h ∧ h ≤ 1099511627776) :
    Calls Tryz.prog 174 #[.pointer (some ⟨bc, 0, none⟩), .agg #[.int .i64 a, .int .i64 h]] w (Says (actB c.idle c.now (a, h)) w) := by
  obtain ⟨o1, o2, o3, o4, _, _⟩ := hc.ok
  have hlt := hc.lt
  obtain ⟨c0, c1, c2, c3, c4, f2, f3⟩ := hc.cells
  have HA := Lib.hid (show actB c.idle c.now (a, h) = (decide (c.idle = 0) || decide (c.now - h ≤ c.idle)) from rfl)
  clear hc
  generalize c.idle = idle at *
  generalize c.now = now at *
  generalize c.slack = slack at *
  generalize c.mark = mark at *
  by_cases h0 : idle = 0
  · have b0 : (idle == 0) = true := by simpa using h0
    have HB := Lib.hid (show actB idle now (a, h) = true by rw [HA.out]; simp [h0])
    clear h0
    go_enter Tryz.func174, Tryz.ntmps174
    go_wp2
    go_quiet (fail)
    go_wp2
    go_ret
    exact ⟨ret_bool HB.out.symm, below_drewN ((Below.refl _ _).alloc (Nat.le_refl _) _) _⟩
  · have b0 : (idle == 0) = false := by simpa using h0
    have HB := Lib.hid (show actB idle now (a, h) = decide (now - h ≤ idle) by rw [HA.out]; simp [h0])
    clear h0
    go_enter Tryz.func174, Tryz.ntmps174
    go_wp2
    go_quiet (fail)
    go_wp2
    go_ret
    exact ⟨ret_bool HB.out.symm, below_drewN ((Below.refl _ _).alloc (Nat.le_refl _) _) _⟩
end Go.Proofs.YtbejfgmdkmddnaaGreatDoor
namespace Go.Proofs.YtbejfgmdkmddnaaGreatDoor
open Go.RowKit Go.Maps Go.Sort Go.Shelf

theorem cut_any (w : World) (l : List UInt8) (c : UInt8) (hl : l.length ≤ 1000000000) (hm : MaxAt w) :
    Calls Tryz.prog 113 #[.string ⟨l.toArray⟩, .string ⟨#[c]⟩] w fun e w' => e = .returned (.tuple #[.string ⟨(Lib.cut l [c]).1.toArray⟩, .string ⟨(Lib.cut l [c]).2.1.toArray⟩, .bool (Lib.cut l [c]).2.2]) ∧ ∃ n, w' = w.drewN n := by
  obtain ⟨m, hm⟩ := hm
  have := Tryz.strings_Cut ⟨l.toArray⟩ ⟨#[c]⟩ m w (by show l.toArray.size < _; simp; omega) hm
  simpa using this
theorem splitB_map (s sep : List UInt8) : (Lib.splitB ⟨sep.toArray⟩ 0 (Lib.countB ⟨s.toArray⟩ ⟨sep.toArray⟩) ⟨s.toArray⟩).map Value.string = (Lib.split s sep).map encStr := by
  have h := Lib.splitB_data ⟨sep.toArray⟩ 0 (Lib.countB ⟨s.toArray⟩ ⟨sep.toArray⟩) ⟨s.toArray⟩
  have h2 : Lib.split s sep = Lib.splitK sep 0 (Lib.countB ⟨s.toArray⟩ ⟨sep.toArray⟩) s := rfl
  rw [h2]
  have h3 : (⟨s.toArray⟩ : ByteArray).data.toList = s := by simp
  have h4 : (⟨sep.toArray⟩ : ByteArray).data.toList = sep := by simp
  rw [h3, h4] at h
  rw [← h, List.map_map]
  refine List.map_congr_left fun b _ => ?_
  show Value.string b = encStr b.data.toList
  unfold encStr; simp
theorem split_len (s : List UInt8) (c : UInt8) : (Lib.split s [c]).length = Lib.countB ⟨s.toArray⟩ ⟨#[c]⟩ + 1 := by
  have h := Lib.splitB_all ⟨#[c]⟩ (Nat.le_refl _) 0 _ ⟨s.toArray⟩ rfl
  have h2 := congrArg List.length (splitB_map s [c])
  simp only [List.length_map] at h2
  rw [← h2, ← h]
theorem splits_any (w : World) (l : List UInt8) (c : UInt8) (hl : l.length ≤ 1000000000) (hm : MaxAt w) :
    Calls Tryz.prog 114 #[.string ⟨l.toArray⟩, .string ⟨#[c]⟩] w fun e w' => e = .returned (.slice (some ⟨w.heap.size, 0, none⟩) (Lib.split l [c]).length (Lib.split l [c]).length) ∧ w' = w.alloc (.cells ((Lib.split l [c]).map encStr).toArray 9) := by
  obtain ⟨m, hm⟩ := hm
  have := Tryz.strings_Split ⟨l.toArray⟩ ⟨#[c]⟩ m w (by show l.toArray.size < _; simp; omega) hm (Nat.le_refl _)
  rw [← split_len] at this
  rw [← splitB_map l [c]]
  exact this
/-- the variables of strconv's errors hold what an error may be -/
def ErrsAt (w : World) : Prop := (∃ v, w.cell? ⟨1, 0, none⟩ = some v ∧ (v = .nilIface ∨ ∃ t p, v = .iface t p)) ∧ ∃ v, w.cell? ⟨2, 0, none⟩ = some v ∧ (v = .nilIface ∨ ∃ t p, v = .iface t p)
theorem ErrsAt.up {w w' : World} (h : ErrsAt w) (hb : Below w.heap.size w w') : ErrsAt w' := by
  obtain ⟨⟨v, h1, h2⟩, u, h3, h4⟩ := h
  exact ⟨⟨v, (hb.cell (World.block_lt_of_cell? _ _ h1)).trans h1, h2⟩, u, (hb.cell (World.block_lt_of_cell? _ _ h3)).trans h3, h4⟩
def AtPost (w : World) (l : List UInt8) (e : Ending) (w' : World) : Prop := ∃ ev, e = .returned (.tuple #[.int .i64 (atoiV l), ev]) ∧ (if atoiE l then ev = .nilIface else ∃ t p, ev = .iface t p) ∧ Below w.heap.size w w'
theorem atoi_any (w : World) (l : List UInt8) (hl : l.length ≤ 1000000000) (hv : ErrsAt w) : Calls Tryz.prog 102 #[.string ⟨l.toArray⟩] w (AtPost w l) := by
  have hz : (⟨l.toArray⟩ : ByteArray).size = l.length := by simp [ByteArray.size]
  have hd : (⟨l.toArray⟩ : ByteArray).data.toList = l := by simp
  obtain ⟨⟨v, h1, h2⟩, u, h3, h4⟩ := hv
  cases ha : Lib.atoiAll l with
  | ok n =>
    refine (Tryz.strconv_Atoi_ok ⟨l.toArray⟩ (by rw [hz]; omega) n (by rw [hd]; exact ha) w).mono ?_
    rintro e w' ⟨rfl, hw⟩
    refine ⟨.nilIface, by unfold atoiV; rw [ha], by unfold atoiE; rw [ha]; rfl, ?_⟩
    rcases hw with rfl | ⟨t, rfl⟩
    · exact Below.refl _ _
    · exact Lib.bytesWorld_below w _ t
  | range =>
    refine (Tryz.strconv_Atoi_range ⟨l.toArray⟩ (by rw [hz]; omega) (by rw [hd]; exact ha) u w h3 h4).mono ?_
    rintro e w' ⟨N, rfl, _, _, hb⟩
    refine ⟨_, by unfold atoiV; rw [ha, hd], ?_, hb⟩
    unfold atoiE; rw [ha]; exact ⟨_, _, rfl⟩
  | _ =>
    refine (Tryz.strconv_Atoi_syntax ⟨l.toArray⟩ (by rw [hz]; omega) (by rw [hd]; exact ha) v w h1 h2).mono ?_
    rintro e w' ⟨N, rfl, _, _, hb⟩
    refine ⟨_, by unfold atoiV; rw [ha], ?_, hb⟩
    unfold atoiE; rw [ha]; exact ⟨_, _, rfl⟩
theorem atoi_num (w : World) (n : Int) (h0 : -9223372036854775808 ≤ n) (h1 : n ≤ 9223372036854775807) : Calls Tryz.prog 102 #[.string ⟨(Lib.itoa n).toArray⟩] w fun e w' => e = .returned (.tuple #[.int .i64 n, .nilIface]) ∧ Below w.heap.size w w' := by
  have hz : (⟨(Lib.itoa n).toArray⟩ : ByteArray).size = (Lib.itoa n).length := by simp [ByteArray.size]
  have hl := Lib.itoa_length_le n h0 h1
  refine (Tryz.strconv_Atoi_ok ⟨(Lib.itoa n).toArray⟩ (by rw [hz]; omega) n (by simpa using atoi_itoa n h0 h1) w).mono ?_
  rintro e w' ⟨rfl, hw⟩
  refine ⟨rfl, ?_⟩
  rcases hw with rfl | ⟨t, rfl⟩
  · exact Below.refl _ _
  · exact Lib.bytesWorld_below w _ t
end Go.Proofs.YtbejfgmdkmddnaaGreatDoor
namespace Go.Proofs.YtbejfgmdkmddnaaGreatDoor
open Go.RowKit

theorem u8_info : (Tryz.prog.info? 5).map (fun i => (i.zero, i.size, i.bytes)) = some (some (.int .u8 0), 1, 1) := by kernel_rfl

def bvs (l : List UInt8) : List Value := l.map fun x => Value.int .u8 x.toNat
theorem bvs_length (l : List UInt8) : (bvs l).length = l.length := by simp [bvs]
theorem bvs_get (l : List UInt8) (i : Nat) (h : i < l.length) : (bvs l)[i]? = some (.int .u8 l[i].toNat) := by simp [bvs, h]
theorem bvs_append (l l' : List UInt8) : bvs (l ++ l') = bvs l ++ bvs l' := by simp [bvs]

/-- v is a slice of the call's own (its block is base or later) that holds just the bytes l -/
def OwnB (w : World) (base : Nat) (v : Value) (l : List UInt8) : Prop := w.ownsRow base 5 1 v l.length (bvs l)

theorem OwnB.nil (w : World) (base : Nat) : OwnB w base (.slice none 0 0) [] := World.ownsRow_nil _ _ _ _
theorem OwnB.byt {w : World} {base : Nat} {A : Option Addr} {n c : Nat} {l : List UInt8} (h : OwnB w base (.slice A n c) l) : Byt w w.heap.size A n c l := by
  rcases h.2 with ⟨e, hl⟩ | ⟨g, cap, cur, e, hb, hg, hnc, hm, hs, ht⟩
  · have hl' : l = [] := List.eq_nil_of_length_eq_zero hl
    subst hl'
    injection e with e1 e2 e3
    subst e1 e2 e3
    exact Byt.nil _ _ _ _ (by unfold maxLen; omega)
  · injection e with e1 e2 e3
    subst e1 e2 e3
    refine ⟨rfl, hnc, hm, fun _ => ⟨g, 0, rfl, (Array.getElem?_eq_some_iff.1 hg).1, fun i hi => ?_⟩⟩
    rw [Nat.zero_add, World.ownsRow.cellAt h i (by omega), bvs_get l i hi]
theorem OwnB.form {w : World} {base : Nat} {v : Value} {l : List UInt8} (h : OwnB w base v l) : ∃ A c, v = .slice A l.length c := by
  rcases h.2 with ⟨e, hl⟩ | ⟨g, cap, cur, e, _⟩
  · exact ⟨none, 0, by rw [e, hl]⟩
  · exact ⟨_, _, e⟩
theorem OwnB.kept {w w' : World} {base : Nat} {v : Value} {l : List UInt8} (h : OwnB w base v l) {row : Option Nat} (hg : w.grownBy w' row) (hne : v.ownBlock = none ∨ v.ownBlock ≠ row) : OwnB w' base v l :=
  World.ownsRow.kept h hg hne
theorem OwnB.below {w w' : World} {base B : Nat} {v : Value} {l : List UInt8} (h : OwnB w base v l) (hb : Below B w w') (hB : w.heap.size ≤ B) : OwnB w' base v l := by
  refine ⟨h.1, ?_⟩
  rcases h.2 with ⟨e, hl⟩ | ⟨g, cap, cur, e, hb', hg, hr⟩
  · exact .inl ⟨e, hl⟩
  · exact .inr ⟨g, cap, cur, e, hb', (hb.block g (by have := (Array.getElem?_eq_some_iff.1 hg).1; omega)).trans hg, hr⟩
theorem OwnB.base_le {w : World} {base base' : Nat} {v : Value} {l : List UInt8} (h : OwnB w base v l) (hb : base' ≤ base) : OwnB w base' v l := by
  refine ⟨h.1, ?_⟩
  rcases h.2 with ⟨e, hl⟩ | ⟨g, cap, cur, e, hb', hg, hr⟩
  · exact .inl ⟨e, hl⟩
  · exact .inr ⟨g, cap, cur, e, by omega, hg, hr⟩

theorem OwnB.alloc {w : World} {base : Nat} {v : Value} {l : List UInt8} (h : OwnB w base v l) (o : Obj) : OwnB (w.alloc o) base v l := World.ownsRow.alloc h o
theorem OwnB.lt {w : World} {base : Nat} {v : Value} {l : List UInt8} (h : OwnB w base v l) : ∀ k, v.ownBlock = some k → base ≤ k := fun k hk => (World.ownsRow.lt h k hk).1

set_option maxRecDepth 100000 in
theorem run_app8 (w : World) (ty : TypeId) (base : Nat) (v : Value) (l : List UInt8) (hown : OwnB w base v l) (B : Nat) (A : Option Addr) (m c : Nat) (l' : List UInt8) (hr : Byt w B A m c l')
    (hlen : l.length + m ≤ 1099511627776) (hbase : base ≤ w.heap.size) :
    ∃ v' w', (Builtin.append_ #[32, 32] ty #[v, .slice A m c]).run Tryz.prog w = .ok v' w' ∧ OwnB w' base v' (l ++ l') ∧ w.grownBy w' v.ownBlock ∧
      (v'.ownBlock = v.ownBlock ∨ v'.ownBlock = some w.heap.size) := by
  obtain ⟨i0, hi, hz0, hz1, hz2⟩ := info_parts u8_info
  rcases Nat.eq_zero_or_pos m with h0 | h0
  · subst h0
    have hl' : l' = [] := List.eq_nil_of_length_eq_zero hr.len
    subst hl'
    refine ⟨v, w, ?_, by simpa using hown, World.grownBy.refl w _, .inl rfl⟩
    rcases hown.2 with ⟨rfl, hn⟩ | ⟨g, cap, cur, rfl, _, _, hnc, _⟩
    · cases A <;> simp [Builtin.append_, run_underlying Tryz.underlying32, sizeOf, typeInfo, hi, Builtin.lenOf, Builtin.firstCells, loadCells, loadCellsFrom]
    · cases A <;> simp [Builtin.append_, run_underlying Tryz.underlying32, sizeOf, typeInfo, hi, Builtin.lenOf, Builtin.firstCells, hnc, loadCells, loadCellsFrom, storeCells]
  · obtain ⟨b, off, rfl, _, hc⟩ := hr.cell h0
    obtain ⟨v', w', h1, h2, h3, _, h5⟩ := run_append_own_at (P := Tryz.prog) w base 32 ty 5 i0 (.int .u8 0) 1 1 Tryz.underlying32 hi hz0 hz1 hz2 rfl (by decide) v l.length (bvs l) hown ⟨b, off, none⟩ m c (bvs l')
      (by rw [bvs_length, hr.len]; omega)
      (fun j u hj => by
        have hjl : j < l'.length := by
          rcases Nat.lt_or_ge j l'.length with h | h
          · exact h
          · rw [List.getElem?_eq_none (by rw [bvs_length]; exact h)] at hj; cases hj
        rw [bvs_get l' j hjl] at hj
        injection hj with hj
        subst hj
        have : (⟨b, off, none⟩ : Addr).add j = ⟨b, off + j, none⟩ := by unfold Addr.add; split <;> simp_all
        rw [this]
        exact hc j hjl)
      (fun u hu => by
        obtain ⟨x, _, rfl⟩ := List.mem_map.1 hu
        rfl)
      (by unfold maxLen; omega) (by omega) hbase
    refine ⟨v', w', h1, ?_, h3, h5⟩
    unfold OwnB
    rw [List.length_append, bvs_append, hr.len]
    exact h2

theorem wpList_app8 {ops : Array Oper} {rest : List Oper} {o : Oper} {a : Act} {Q : Exit → Act → World → Prop} {w : World} (hgd : o.guard = none) (s x : Operand)
    (ho : o.op = .call { callee := .builtin .append, args := #[s, x], argTypes := #[32, 32] })
    (base : Nat) (v : Value) (l : List UInt8) (hs : a.eval s = v) (hown : OwnB w base v l)
    (B : Nat) (A : Option Addr) (m c : Nat) (l' : List UInt8) (hx : a.eval x = .slice A m c) (hr : Byt w B A m c l')
    (hlen : l.length + m ≤ 1099511627776) (hbase : base ≤ w.heap.size)
    (h : ∀ v' w', OwnB w' base v' (l ++ l') → w.grownBy w' v.ownBlock → (v'.ownBlock = v.ownBlock ∨ v'.ownBlock = some w.heap.size) → wpList Tryz.prog ops Q rest (a.put o.dst v') w') :
    wpList Tryz.prog ops Q (o :: rest) a w :=
  wpList_plain hgd fun K hK => by
    obtain ⟨v', w', h1, h2, h3, h4⟩ := run_app8 w o.type base v l hown B A m c l' hr hlen hbase
    unfold Oper.wp execOp
    simp only [ho, resolve, invoke, builtin, Sem.run_bind, Sem.run_pure, Result.andThen_ok, List.map_toArray, List.map_cons, List.map_nil, hs, hx, h1]
    exact hK _ _ (h v' w' h2 h3 h4)
end Go.Proofs.YtbejfgmdkmddnaaGreatDoor
namespace Go.Proofs.YtbejfgmdkmddnaaGreatDoor
open Go.RowKit Go.Maps Go.Sort Go.Shelf

theorem byt_str {w : World} {B n c : Nat} {A : Option Addr} {l : List UInt8} (h : Byt w B A n c l) : ∀ W, Below B w W → (convert 32 9 (.slice A n c)).run Tryz.prog W = .ok (.string ⟨l.toArray⟩) W := fun _ hW =>
  (h.below hW).str (P := Tryz.prog) 32 5 9 Tryz.underlying32 Tryz.underlying5 Tryz.underlying9
def TmPost (w : World) (a b : Int) (e : Ending) (w' : World) : Prop := e = .returned (.tuple #[.int .i64 a, .int .i64 b]) ∧ Below w.heap.size w w'
set_option maxRecDepth 100000 in
set_option maxHeartbeats 4000000 in
theorem terms_any (w : World) (A : Option Addr) (n k : Nat) (c : Clk) (hc : ClkOk c) (h : Byt w w.heap.size A n k (encC c)) (hn : n ≤ 100000000) (hm : MaxAt w) :
    Calls Tryz.prog 51 #[.slice A n k] w (TmPost w c.slack c.idle) := by
  have h1 := hc.slack; have h2 := hc.idle; have h3 := hc.now; have h4 := hc.mark
  have hlen := h.len
  have HCV := Lib.hid (byt_str h w (Below.refl _ _))
  have hcut : Lib.cut (encC c) [10] = ([99, 108, 111, 99, 107] ++ numsB [c.slack, c.idle, c.now, c.mark], srcB c.src, true) := by
    have : encC c = ([99, 108, 111, 99, 107] ++ numsB [c.slack, c.idle, c.now, c.mark]) ++ 10 :: srcB c.src := by unfold encC lineB; simp
    rw [this]
    exact cut_hit 10 _ _ fun hm => (List.mem_append.1 hm).elim (by decide) (numsB_no 10 (by decide) (by decide) (by decide) _)
  have hsp := words_nums [c.slack, c.idle, c.now, c.mark] [99, 108, 111, 99, 107] (by decide)
  have hnl := numsB_len [c.slack, c.idle, c.now, c.mark] (by intro v hv; simp at hv; rcases hv with rfl | rfl | rfl | rfl <;> omega)
  have HC := Lib.hid (cut_any w (encC c) 10 (by omega) hm)
  rw [hcut] at HC
  have HM := Lib.hid hm
  have HLL := Lib.hid (show ([99, 108, 111, 99, 107] ++ numsB [c.slack, c.idle, c.now, c.mark]).length ≤ 1000 from by simp at hnl ⊢; omega)
  have HSP := Lib.hid hsp
  clear hcut hsp hnl h hm
  generalize [99, 108, 111, 99, 107] ++ numsB [c.slack, c.idle, c.now, c.mark] = L at *
  generalize encC c = b at *
  have hcv := HCV.out
  go_enter Tryz.func51, Tryz.ntmps51
  go_wp2_with fail
  with_reducible refine HC.out.mono ?_
  rintro r w1 ⟨rfl, q, rfl⟩
  have HB1 := Lib.hid (show Below w.heap.size w (w.drewN q) from below_drewN (Below.refl _ _) q)
  have HM1 := Lib.hid (HM.out.up HB1.out)
  have HS := Lib.hid (splits_any (w.drewN q) L 32 (by have := HLL.out; omega) HM1.out)
  clear hcv
  generalize w.drewN q = w1 at *
  rw [HSP.out] at HS
  go_wp2_with fail
  with_reducible refine HS.out.mono ?_
  rintro r w2 ⟨rfl, hw2⟩
  have hcs : w2.heap[w1.heap.size]? = some (.cells #[.string ⟨#[99, 108, 111, 99, 107]⟩, .string ⟨(Lib.itoa c.slack).toArray⟩, .string ⟨(Lib.itoa c.idle).toArray⟩, .string ⟨(Lib.itoa c.now).toArray⟩, .string ⟨(Lib.itoa c.mark).toArray⟩] 9 (0, 0)) := by rw [hw2]; exact heap_alloc_new w1 _
  have hb2 : Below w1.heap.size w1 w2 := by rw [hw2]; exact (Below.refl _ _).alloc (Nat.le_refl _) _
  have hlt2 : w1.heap.size < w2.heap.size := (Array.getElem?_eq_some_iff.1 hcs).1
  have HCS := Lib.hid hcs
  have HB2 := Lib.hid (HB1.out.trans (hb2.mono HB1.out.size))
  have x1 : w2.cell? ⟨w1.heap.size, 1, none⟩ = some (.string ⟨(Lib.itoa c.slack).toArray⟩) := (cell_of_row w2 _ 1 _ _ (0, 0) hcs).trans rfl
  clear hw2 hcs hb2 HS
  go_wp2_with fail
  with_reducible refine (atoi_num w2 c.slack (by omega) (by omega)).mono ?_
  rintro r w3 ⟨rfl, hb3⟩
  have hb3' : w3.heap[w1.heap.size]? = _ := (hb3.block _ hlt2).trans HCS.out
  have x2 : w3.cell? ⟨w1.heap.size, 2, none⟩ = some (.string ⟨(Lib.itoa c.idle).toArray⟩) := (cell_of_row w3 _ 2 _ _ (0, 0) hb3').trans rfl
  have HB3 := Lib.hid (HB2.out.trans (hb3.mono HB2.out.size))
  clear hb3 hb3' x1
  go_wp2_with fail
  with_reducible refine (atoi_num w3 c.idle (by omega) (by omega)).mono ?_
  rintro r w4 ⟨rfl, hb4⟩
  have HB4 := Lib.hid (HB3.out.trans (hb4.mono HB3.out.size))
  clear hb4 x2
  go_wp2
  go_ret2
  exact ⟨rfl, HB4.out⟩
end Go.Proofs.YtbejfgmdkmddnaaGreatDoor
namespace Go.Proofs.YtbejfgmdkmddnaaGreatDoor
open Go.RowKit Go.Maps Go.Sort

abbrev stBox (l : List UInt8) : Obj := .cells #[.string ⟨l.toArray⟩] 9
abbrev okBox (b : Bool) : Obj := .cells #[.bool b] 4
/-- what a line's reading leaves: the two boxes, the numbers in a new row -/
def LnRPost (w : World) (b1 b2 : Nat) (d : LnD) (e : Ending) (w' : World) : Prop :=
  ∃ g, e = .returned (.tuple #[.string ⟨d.word.toArray⟩, .slice (some ⟨g, 0, none⟩) d.nums.length d.nums.length]) ∧ w'.heap[b1]? = some (stBox d.rest) ∧ w'.heap[b2]? = some (okBox d.ok) ∧ w'.heap[g]? = some (.cells (d.nums.map (Value.int .i64)).toArray 3 (0, 0)) ∧ w.heap.size ≤ g ∧ Keep (fun b => b = b1 ∨ b = b2) w w'
/-- the numbers so far -/
def LnRel9 (w : World) (b2 g n : Nat) (ws : List (List UInt8)) (ok : Bool) (i : Value) (W : World) : Prop :=
  ∃ k : Nat, i = .int .i64 k ∧ k ≤ ws.length ∧ W.heap[b2]? = some (okBox (ok && (ws.take k).all atoiB)) ∧ W.heap[g]? = some (.cells (((ws.take k).map atoiV ++ List.replicate (n - k) 0).map (Value.int .i64)).toArray 3 (0, 0)) ∧ Keep (fun b => b = b2 ∨ b = g) w W
theorem ln_row (ws : List (List UInt8)) (n k : Nat) (hk : k < ws.length) (hn : ws.length = n) : ((((ws.take k).map atoiV ++ List.replicate (n - k) 0).map (Value.int .i64)).toArray).setIfInBounds k (.int .i64 (atoiV ws[k])) = (((ws.take (k + 1)).map atoiV ++ List.replicate (n - (k + 1)) 0).map (Value.int .i64)).toArray := by
  rw [List.setIfInBounds_toArray]
  congr 1
  have hl : ((ws.take k).map atoiV).length = k := by simp; omega
  obtain ⟨m, hm⟩ : ∃ m, n - k = m + 1 := ⟨n - k - 1, by omega⟩
  have hm2 : n - (k + 1) = m := by omega
  rw [hm, hm2, List.replicate_succ, List.take_add_one, List.getElem?_eq_getElem hk]
  simp only [List.map_append, List.map_cons, Option.toList_some, List.map_nil, List.append_assoc, List.cons_append, List.nil_append]
  rw [List.set_append_right _ _ (by simp; omega)]
  simp only [List.length_map, List.length_take]
  rw [show k - min k ws.length = 0 by omega]
  rfl
end Go.Proofs.YtbejfgmdkmddnaaGreatDoor
