/-
  Layer 6: the clock, in memory.
  strings.Cut, strings.Split, strconv.Atoi, as these proofs use them.
  Layer 8: the slack and the idle time that a clock's bytes tell.
  Layer 6: a line that is read (Decode$1): what it leaves.
  What a slice of bytes that came in reads as.
  An event whose texts fit into memory.
  What a slice of events that came in reads as, and how long its texts can be.
  A world for the witness: the settled one, where the five tables and the two errors that the row lists hold what their initialisers lay; and what the row's list gives a walk.
-/
import Derived.Test.YtgbagjpokpchpaaGreatDoorRHadPlain
import Derived.Test.YtgbagjpokpchpaaGreatDoorRShelf
import Derived.Test.YtgbagjpokpchpaaGreatDoorRSearch
import Derived.StillTailTactics
import Derived.Test.YtgbagjpokpchpaaGreatDoorRPtClk
import Derived.Test.YtgbagjpokpchpaaGreatDoorREvListing
import Derived.Lib.AtoiErrMem
import Derived.Test.YtgbagjpokpchpaaGreatDoorRPnM
import Derived.Test.YtgbagjpokpchpaaGreatDoorRRowK
import Derived.Lib.OthersKept
import Derived.Test.YtgbagjpokpchpaaGreatDoorRSets
import Derived.ProofKit
import Derived.OpenShut
import Derived.ShutString
import Derived.ChangeOld
import Derived.Deep.Slices
import Derived.SizedLaws
import Derived.Stop.LaidErr
import Derived.Lib.LaidTab
import Derived.Lib.AppendIntMem
namespace Go.Proofs.YtgbagjpokpchpaaGreatDoor
open Go.RowKit Go.Maps Go.Sort

def encSrc (s : Int × Int) : Value := .agg #[.int .i64 s.1, .int .i64 s.2]
def srcRow (m : Row (Int × Int)) : Row Value := m.map fun p => (p.1, encSrc p.2)
abbrev clkObj (c : Clk) (bm : Nat) : Obj := .cells #[.int .i64 c.slack, .int .i64 c.idle, .int .i64 c.now, .int .i64 c.mark, .map (some bm)] 132
/-- block bc is a clock, whose map is block bm -/
structure ClockAt (w : World) (bc bm : Nat) (c : Clk) : Prop where
  blk : w.heap[bc]? = some (clkObj c bm)
  map : MapS w bm (srcRow c.src)
  ok : ClkOk c
/-- what the walk wants of it -/
structure ClockCells (w : World) (bc bm : Nat) (c : Clk) : Prop where
  c0 : w.cell? ⟨bc, 0, none⟩ = some (.int .i64 c.slack)
  c1 : w.cell? ⟨bc, 1, none⟩ = some (.int .i64 c.idle)
  c2 : w.cell? ⟨bc, 2, none⟩ = some (.int .i64 c.now)
  c3 : w.cell? ⟨bc, 3, none⟩ = some (.int .i64 c.mark)
  c4 : w.cell? ⟨bc, 4, none⟩ = some (.map (some bm))
  f2 : w.frozen? ⟨bc, 2, none⟩ = false
  f3 : w.frozen? ⟨bc, 3, none⟩ = false
theorem ClockAt.cells {w : World} {bc bm : Nat} {c : Clk} (h : ClockAt w bc bm c) : ClockCells w bc bm c := by
  have key : ∀ o, w.cell? ⟨bc, o, none⟩ = _ := fun o => cell_of_row w bc o _ _ (0, 0) h.blk
  exact ⟨(key 0).trans rfl, (key 1).trans rfl, (key 2).trans rfl, (key 3).trans rfl, (key 4).trans rfl, frozen_of_row w bc 2 _ _ h.blk, frozen_of_row w bc 3 _ _ h.blk⟩
theorem ClockAt.keep {w w' : World} {bc bm : Nat} {c : Clk} (h : ClockAt w bc bm c) (h1 : w'.heap[bc]? = w.heap[bc]?) (h2 : w'.heap[bm]? = w.heap[bm]?) : ClockAt w' bc bm c :=
  ⟨h1.trans h.blk, h.map.block h2, h.ok⟩
theorem ClockAt.lt {w : World} {bc bm : Nat} {c : Clk} (h : ClockAt w bc bm c) : bc < w.heap.size := heap_lt h.blk
theorem ClockAt.up {w w' : World} {bc bm : Nat} {c : Clk} (h : ClockAt w bc bm c) (hb : Below w.heap.size w w') : ClockAt w' bc bm c := h.keep (hb.block _ h.lt) (hb.block _ h.map.lt)
theorem ClockAt.ne {w : World} {bc bm : Nat} {c : Clk} (h : ClockAt w bc bm c) : bc ≠ bm := by
  rintro rfl
  obtain ⟨es, cl, h1⟩ := h.map.isMap
  rw [h.blk] at h1
  cases h1

theorem bound_any (w : World) (n : Int) : Calls Tryz.prog 89 #[.int .i64 n] w fun e w' => e = .returned (.int .i64 (boundI n)) ∧ w = w' := by
  go_enter Tryz.func89, Tryz.ntmps89
  go_wp2
  go_ret
  exact ⟨rfl, rfl⟩

theorem active_any (w : World) (bc bm : Nat) (c : Clk) (hc : ClockAt w bc bm c) (a h : Int) (h1 : 0 ≤ h ∧ h ≤ 1099511627776) :
    Calls Tryz.prog 164 #[.pointer (some ⟨bc, 0, none⟩), .agg #[.int .i64 a, .int .i64 h]] w (Says (actB c.idle c.now (a, h)) w) := by
  obtain ⟨o1, o2, o3, o4, _, _⟩ := hc.ok
  have hlt := hc.lt
  obtain ⟨c0, c1, c2, c3, c4, f2, f3⟩ := hc.cells
  have HA := Lib.hid (show actB c.idle c.now (a, h) = (decide (c.idle = 0) || decide (c.now - h ≤ c.idle)) from rfl)
  clear hc
  generalize c.idle = idle at *
  generalize c.now = now at *
  generalize c.slack = slack at *
  generalize c.mark = mark at *
  by_cases h0 : idle = 0
  · have b0 : (idle == 0) = true := by simpa using h0
    have HB := Lib.hid (show actB idle now (a, h) = true by rw [HA.out]; simp [h0])
    clear h0
    go_enter Tryz.func164, Tryz.ntmps164
    go_wp2
    go_quiet (fail)
    go_wp2
    go_ret
    exact ⟨ret_bool HB.out.symm, below_drewN ((Below.refl _ _).alloc (Nat.le_refl _) _) _⟩
  · have b0 : (idle == 0) = false := by simpa using h0
    have HB := Lib.hid (show actB idle now (a, h) = decide (now - h ≤ idle) by rw [HA.out]; simp [h0])
    clear h0
    go_enter Tryz.func164, Tryz.ntmps164
    go_wp2
    go_quiet (fail)
    go_wp2
    go_ret
    exact ⟨ret_bool HB.out.symm, below_drewN ((Below.refl _ _).alloc (Nat.le_refl _) _) _⟩
end Go.Proofs.YtgbagjpokpchpaaGreatDoor
namespace Go.Proofs.YtgbagjpokpchpaaGreatDoor
open Go.RowKit Go.Maps Go.Sort Go.Shelf

theorem cut_any (w : World) (l : List UInt8) (c : UInt8) (hl : l.length ≤ 1000000000) (hm : MaxAt w) :
    Calls Tryz.prog 107 #[.string ⟨l.toArray⟩, .string ⟨#[c]⟩] w fun e w' => e = .returned (.tuple #[.string ⟨(Lib.cut l [c]).1.toArray⟩, .string ⟨(Lib.cut l [c]).2.1.toArray⟩, .bool (Lib.cut l [c]).2.2]) ∧ ∃ n, w' = w.drewN n := by
  obtain ⟨m, hm⟩ := hm
  have := Tryz.strings_Cut ⟨l.toArray⟩ ⟨#[c]⟩ m w (by show l.toArray.size < _; simp; omega) hm
  simpa using this
theorem splitB_map (s sep : List UInt8) : (Lib.splitB ⟨sep.toArray⟩ 0 (Lib.countB ⟨s.toArray⟩ ⟨sep.toArray⟩) ⟨s.toArray⟩).map Value.string = (Lib.split s sep).map encStr := by
  have h := Lib.splitB_data ⟨sep.toArray⟩ 0 (Lib.countB ⟨s.toArray⟩ ⟨sep.toArray⟩) ⟨s.toArray⟩
  have h2 : Lib.split s sep = Lib.splitK sep 0 (Lib.countB ⟨s.toArray⟩ ⟨sep.toArray⟩) s := rfl
  rw [h2]
  have h3 : (⟨s.toArray⟩ : ByteArray).data.toList = s := by simp
  have h4 : (⟨sep.toArray⟩ : ByteArray).data.toList = sep := by simp
  rw [h3, h4] at h
  rw [← h, List.map_map]
  refine List.map_congr_left fun b _ => ?_
  show Value.string b = encStr b.data.toList
  unfold encStr; simp
theorem split_len (s : List UInt8) (c : UInt8) : (Lib.split s [c]).length = Lib.countB ⟨s.toArray⟩ ⟨#[c]⟩ + 1 := by
  have h := Lib.splitB_all ⟨#[c]⟩ (Nat.le_refl _) 0 _ ⟨s.toArray⟩ rfl
  have h2 := congrArg List.length (splitB_map s [c])
  simp only [List.length_map] at h2
  rw [← h2, ← h]
theorem splits_any (w : World) (l : List UInt8) (c : UInt8) (hl : l.length ≤ 1000000000) (hm : MaxAt w) :
    Calls Tryz.prog 112 #[.string ⟨l.toArray⟩, .string ⟨#[c]⟩] w fun e w' => e = .returned (.slice (some ⟨w.heap.size, 0, none⟩) (Lib.split l [c]).length (Lib.split l [c]).length) ∧ w' = w.alloc (.cells ((Lib.split l [c]).map encStr).toArray 9) := by
  obtain ⟨m, hm⟩ := hm
  have := Tryz.strings_Split ⟨l.toArray⟩ ⟨#[c]⟩ m w (by show l.toArray.size < _; simp; omega) hm (Nat.le_refl _)
  rw [← split_len] at this
  rw [← splitB_map l [c]]
  exact this
/-- the variables of strconv's errors hold what an error may be -/
def ErrsAt (w : World) : Prop := (∃ v, w.cell? ⟨1, 0, none⟩ = some v ∧ (v = .nilIface ∨ ∃ t p, v = .iface t p)) ∧ ∃ v, w.cell? ⟨2, 0, none⟩ = some v ∧ (v = .nilIface ∨ ∃ t p, v = .iface t p)
theorem ErrsAt.up {w w' : World} (h : ErrsAt w) (hb : Below w.heap.size w w') : ErrsAt w' := by
  obtain ⟨⟨v, h1, h2⟩, u, h3, h4⟩ := h
  exact ⟨⟨v, (hb.cell (World.block_lt_of_cell? _ _ h1)).trans h1, h2⟩, u, (hb.cell (World.block_lt_of_cell? _ _ h3)).trans h3, h4⟩
def AtPost (w : World) (l : List UInt8) (e : Ending) (w' : World) : Prop := ∃ ev, e = .returned (.tuple #[.int .i64 (atoiV l), ev]) ∧ (if atoiE l then ev = .nilIface else ∃ t p, ev = .iface t p) ∧ Below w.heap.size w w'
theorem atoi_any (w : World) (l : List UInt8) (hl : l.length ≤ 1000000000) (hv : ErrsAt w) : Calls Tryz.prog 113 #[.string ⟨l.toArray⟩] w (AtPost w l) := by
  have hz : (⟨l.toArray⟩ : ByteArray).size = l.length := by simp [ByteArray.size]
  have hd : (⟨l.toArray⟩ : ByteArray).data.toList = l := by simp
  obtain ⟨⟨v, h1, h2⟩, u, h3, h4⟩ := hv
  cases ha : Lib.atoiAll l with
  | ok n =>
    refine (Tryz.strconv_Atoi_ok ⟨l.toArray⟩ (by rw [hz]; omega) n (by rw [hd]; exact ha) w).mono ?_
    rintro e w' ⟨rfl, hw⟩
    refine ⟨.nilIface, by unfold atoiV; rw [ha], by unfold atoiE; rw [ha]; rfl, ?_⟩
    rcases hw with rfl | ⟨t, rfl⟩
    · exact Below.refl _ _
    · exact Lib.bytesWorld_below w _ t
  | «syntax» =>
    refine (Tryz.strconv_Atoi_syntax ⟨l.toArray⟩ (by rw [hz]; omega) (by rw [hd]; exact ha) v w h1 h2).mono ?_
    rintro e w' ⟨N, rfl, _, _, hb⟩
    refine ⟨_, by unfold atoiV; rw [ha], ?_, hb⟩
    unfold atoiE; rw [ha]; exact ⟨_, _, rfl⟩
  | range =>
    refine (Tryz.strconv_Atoi_range ⟨l.toArray⟩ (by rw [hz]; omega) (by rw [hd]; exact ha) u w h3 h4).mono ?_
    rintro e w' ⟨N, rfl, _, _, hb⟩
    refine ⟨_, by unfold atoiV; rw [ha, hd], ?_, hb⟩
    unfold atoiE; rw [ha]; exact ⟨_, _, rfl⟩
theorem atoi_num (w : World) (n : Int) (h0 : -9223372036854775808 ≤ n) (h1 : n ≤ 9223372036854775807) : Calls Tryz.prog 113 #[.string ⟨(Lib.itoa n).toArray⟩] w fun e w' => e = .returned (.tuple #[.int .i64 n, .nilIface]) ∧ Below w.heap.size w w' := by
  have hz : (⟨(Lib.itoa n).toArray⟩ : ByteArray).size = (Lib.itoa n).length := by simp [ByteArray.size]
  have hl := Lib.itoa_length_le n h0 h1
  refine (Tryz.strconv_Atoi_ok ⟨(Lib.itoa n).toArray⟩ (by rw [hz]; omega) n (by simpa using atoi_itoa n h0 h1) w).mono ?_
  rintro e w' ⟨rfl, hw⟩
  refine ⟨rfl, ?_⟩
  rcases hw with rfl | ⟨t, rfl⟩
  · exact Below.refl _ _
  · exact Lib.bytesWorld_below w _ t
end Go.Proofs.YtgbagjpokpchpaaGreatDoor
namespace Go.Proofs.YtgbagjpokpchpaaGreatDoor
open Go.RowKit Go.Maps Go.Sort Go.Shelf

theorem byt_str {w : World} {B n c : Nat} {A : Option Addr} {l : List UInt8} (h : Byt w B A n c l) : ∀ W, Below B w W → (convert 83 9 (.slice A n c)).run Tryz.prog W = .ok (.string ⟨l.toArray⟩) W := fun _ hW =>
  (h.below hW).str (P := Tryz.prog) 83 5 9 Tryz.underlying83 Tryz.underlying5 Tryz.underlying9
def TmPost (w : World) (a b : Int) (e : Ending) (w' : World) : Prop := e = .returned (.tuple #[.int .i64 a, .int .i64 b]) ∧ Below w.heap.size w w'
set_option maxRecDepth 100000 in
set_option maxHeartbeats 4000000 in
theorem terms_any (w : World) (A : Option Addr) (n k : Nat) (c : Clk) (hc : ClkOk c) (h : Byt w w.heap.size A n k (encC c)) (hn : n ≤ 100000000) (hm : MaxAt w) :
    Calls Tryz.prog 73 #[.slice A n k] w (TmPost w c.slack c.idle) := by
  have h1 := hc.slack; have h2 := hc.idle; have h3 := hc.now; have h4 := hc.mark
  have hlen := h.len
  have HCV := Lib.hid (byt_str h w (Below.refl _ _))
  have hcut : Lib.cut (encC c) [10] = ([99, 108, 111, 99, 107] ++ numsB [c.slack, c.idle, c.now, c.mark], srcB c.src, true) := by
    have : encC c = ([99, 108, 111, 99, 107] ++ numsB [c.slack, c.idle, c.now, c.mark]) ++ 10 :: srcB c.src := by unfold encC lineB; simp
    rw [this]
    exact cut_hit 10 _ _ fun hm => (List.mem_append.1 hm).elim (by decide) (numsB_no 10 (by decide) (by decide) (by decide) _)
  have hsp := words_nums [c.slack, c.idle, c.now, c.mark] [99, 108, 111, 99, 107] (by decide)
  have hnl := numsB_len [c.slack, c.idle, c.now, c.mark] (by intro v hv; simp at hv; rcases hv with rfl | rfl | rfl | rfl <;> omega)
  have HC := Lib.hid (cut_any w (encC c) 10 (by omega) hm)
  rw [hcut] at HC
  have HM := Lib.hid hm
  have HLL := Lib.hid (show ([99, 108, 111, 99, 107] ++ numsB [c.slack, c.idle, c.now, c.mark]).length ≤ 1000 from by simp at hnl ⊢; omega)
  have HSP := Lib.hid hsp
  clear hcut hsp hnl h hm
  generalize [99, 108, 111, 99, 107] ++ numsB [c.slack, c.idle, c.now, c.mark] = L at *
  generalize encC c = b at *
  have hcv := HCV.out
  go_enter Tryz.func73, Tryz.ntmps73
  go_wp2_with fail
  with_reducible refine HC.out.mono ?_
  rintro r w1 ⟨rfl, q, rfl⟩
  have HB1 := Lib.hid (show Below w.heap.size w (w.drewN q) from below_drewN (Below.refl _ _) q)
  have HM1 := Lib.hid (HM.out.up HB1.out)
  have HS := Lib.hid (splits_any (w.drewN q) L 32 (by have := HLL.out; omega) HM1.out)
  clear hcv
  generalize w.drewN q = w1 at *
  rw [HSP.out] at HS
  go_wp2_with fail
  with_reducible refine HS.out.mono ?_
  rintro r w2 ⟨rfl, hw2⟩
  have hcs : w2.heap[w1.heap.size]? = some (.cells #[.string ⟨#[99, 108, 111, 99, 107]⟩, .string ⟨(Lib.itoa c.slack).toArray⟩, .string ⟨(Lib.itoa c.idle).toArray⟩, .string ⟨(Lib.itoa c.now).toArray⟩, .string ⟨(Lib.itoa c.mark).toArray⟩] 9 (0, 0)) := by rw [hw2]; exact heap_alloc_new w1 _
  have hb2 : Below w1.heap.size w1 w2 := by rw [hw2]; exact (Below.refl _ _).alloc (Nat.le_refl _) _
  have hlt2 : w1.heap.size < w2.heap.size := (Array.getElem?_eq_some_iff.1 hcs).1
  have HCS := Lib.hid hcs
  have HB2 := Lib.hid (HB1.out.trans (hb2.mono HB1.out.size))
  have x1 : w2.cell? ⟨w1.heap.size, 1, none⟩ = some (.string ⟨(Lib.itoa c.slack).toArray⟩) := (cell_of_row w2 _ 1 _ _ (0, 0) hcs).trans rfl
  clear hw2 hcs hb2 HS
  go_wp2_with fail
  with_reducible refine (atoi_num w2 c.slack (by omega) (by omega)).mono ?_
  rintro r w3 ⟨rfl, hb3⟩
  have hb3' : w3.heap[w1.heap.size]? = _ := (hb3.block _ hlt2).trans HCS.out
  have x2 : w3.cell? ⟨w1.heap.size, 2, none⟩ = some (.string ⟨(Lib.itoa c.idle).toArray⟩) := (cell_of_row w3 _ 2 _ _ (0, 0) hb3').trans rfl
  have HB3 := Lib.hid (HB2.out.trans (hb3.mono HB2.out.size))
  clear hb3 hb3' x1
  go_wp2_with fail
  with_reducible refine (atoi_num w3 c.idle (by omega) (by omega)).mono ?_
  rintro r w4 ⟨rfl, hb4⟩
  have HB4 := Lib.hid (HB3.out.trans (hb4.mono HB3.out.size))
  clear hb4 x2
  go_wp2
  go_ret2
  exact ⟨rfl, HB4.out⟩
end Go.Proofs.YtgbagjpokpchpaaGreatDoor
namespace Go.Proofs.YtgbagjpokpchpaaGreatDoor
open Go.RowKit Go.Maps Go.Sort

abbrev stBox (l : List UInt8) : Obj := .cells #[.string ⟨l.toArray⟩] 9
abbrev okBox (b : Bool) : Obj := .cells #[.bool b] 4
/-- what a line's reading leaves: the two boxes, the numbers in a new row -/
def LnRPost (w : World) (b1 b2 : Nat) (d : LnD) (e : Ending) (w' : World) : Prop :=
  ∃ g, e = .returned (.tuple #[.string ⟨d.word.toArray⟩, .slice (some ⟨g, 0, none⟩) d.nums.length d.nums.length]) ∧ w'.heap[b1]? = some (stBox d.rest) ∧ w'.heap[b2]? = some (okBox d.ok) ∧ w'.heap[g]? = some (.cells (d.nums.map (Value.int .i64)).toArray 3 (0, 0)) ∧ w.heap.size ≤ g ∧ Keep (fun b => b = b1 ∨ b = b2) w w'
/-- the numbers so far -/
def LnRel9 (w : World) (b2 g n : Nat) (ws : List (List UInt8)) (ok : Bool) (i : Value) (W : World) : Prop :=
  ∃ k : Nat, i = .int .i64 k ∧ k ≤ ws.length ∧ W.heap[b2]? = some (okBox (ok && (ws.take k).all atoiB)) ∧ W.heap[g]? = some (.cells (((ws.take k).map atoiV ++ List.replicate (n - k) 0).map (Value.int .i64)).toArray 3 (0, 0)) ∧ Keep (fun b => b = b2 ∨ b = g) w W
theorem ln_row (ws : List (List UInt8)) (n k : Nat) (hk : k < ws.length) (hn : ws.length = n) : ((((ws.take k).map atoiV ++ List.replicate (n - k) 0).map (Value.int .i64)).toArray).setIfInBounds k (.int .i64 (atoiV ws[k])) = (((ws.take (k + 1)).map atoiV ++ List.replicate (n - (k + 1)) 0).map (Value.int .i64)).toArray := by
  rw [List.setIfInBounds_toArray]
  congr 1
  have hl : ((ws.take k).map atoiV).length = k := by simp; omega
  obtain ⟨m, hm⟩ : ∃ m, n - k = m + 1 := ⟨n - k - 1, by omega⟩
  have hm2 : n - (k + 1) = m := by omega
  rw [hm, hm2, List.replicate_succ, List.take_add_one, List.getElem?_eq_getElem hk]
  simp only [List.map_append, List.map_cons, Option.toList_some, List.map_nil, List.append_assoc, List.cons_append, List.nil_append]
  rw [List.set_append_right _ _ (by simp; omega)]
  simp only [List.length_map, List.length_take]
  rw [show k - min k ws.length = 0 by omega]
  rfl
end Go.Proofs.YtgbagjpokpchpaaGreatDoor
namespace Go.Proofs.YtgbagjpokpchpaaGreatDoor
open Go.RowKit Go.ChangeShapes Go.WideShapes Go.ChangeAt

theorem own : ownKnob Tryz.prog.godebug = none := by kernel_rfl
theorem laidOut : laidOutB Tryz.prog = true := by kernel_rfl

end Go.Proofs.YtgbagjpokpchpaaGreatDoor
namespace Go.Proofs.YtgbagjpokpchpaaGreatDoor
open Go.RowKit Go.Maps Go.Sort

/-- no text is longer than memory -/
def Ev.fit (e : Ev) : Prop := e.src.length ≤ 140737488355328 ∧ e.per.length ≤ 140737488355328 ∧ e.item.length ≤ 140737488355328 ∧ e.text.length ≤ 140737488355328
end Go.Proofs.YtgbagjpokpchpaaGreatDoor
namespace Go.Proofs.YtgbagjpokpchpaaGreatDoor
open Go.RowKit Go.ChangeShapes Go.WideShapes Go.ChangeAt

/-- an event as the statements' data -/
def Ev.dat {H : Type} (e : Ev) : DataW H :=
  .agg [.lit (.string e.src), .lit (.int .i64 e.num), .lit (.int .i64 e.at_), .lit (.int .i64 e.kind), .lit (.string e.per), .lit (.string e.item), .lit (.int .i64 e.val), .lit (.string e.text)]

theorem ev_cells : Tryz.prog.cellsOf 28 = 8 := by kernel_rfl
theorem ev_cstr : Tryz.prog.cellsOf 9 = 1 := by kernel_rfl
theorem ev_cint : Tryz.prog.cellsOf 3 = 1 := by kernel_rfl
theorem ev_ckind : Tryz.prog.cellsOf 26 = 1 := by kernel_rfl

instance : Inhabited Ev := ⟨⟨[], 0, 0, 0, [], [], 0, []⟩⟩

set_option maxRecDepth 100000 in
theorem ev_of_trod {H : Type} {enc : TypeId × Value → H} {W : World} {base fuel : Nat} {sp : Nat → Bool} {held : Bool} {cs : List Value} {d : DataW H} {ps : List MemPlace}
    (h : DataW.trod enc Tryz.prog W base sp held fuel 28 cs = some (d, ps)) : ∃ e : Ev, cs = e.cells ∧ d = e.dat := by
  obtain ⟨xs, n, _, hx, hl, hlen, hf⟩ := DataW.trod_struct Tryz.underlying28 h
  rw [ev_cells] at hl
  match cs, hl with
  | [c0, c1, c2, c3, c4, c5, c6, c7], _ =>
  match xs, hlen with
  | [x0, x1, x2, x3, x4, x5, x6, x7], _ =>
  have h0 := hf 0 _ rfl
  have h1 := hf 1 _ rfl
  have h2 := hf 2 _ rfl
  have h3 := hf 3 _ rfl
  have h4 := hf 4 _ rfl
  have h5 := hf 5 _ rfl
  have h6 := hf 6 _ rfl
  have h7 := hf 7 _ rfl
  set_option linter.unusedSimpArgs false in
  simp only [ev_cstr, ev_cint, ev_ckind, List.drop_succ_cons, List.drop_zero, List.take_succ_cons, List.take_zero, List.getElem?_cons_zero, List.getElem?_cons_succ] at h0 h1 h2 h3 h4 h5 h6 h7
  obtain ⟨s0, e0, rfl, _⟩ := DataW.trod_string Tryz.underlying9 h0
  obtain ⟨n1, e1, rfl, _⟩ := DataW.trod_int Tryz.underlying3 h1
  obtain ⟨n2, e2, rfl, _⟩ := DataW.trod_int Tryz.underlying3 h2
  obtain ⟨n3, e3, rfl, _⟩ := DataW.trod_int Tryz.underlying26 h3
  obtain ⟨s4, e4, rfl, _⟩ := DataW.trod_string Tryz.underlying9 h4
  obtain ⟨s5, e5, rfl, _⟩ := DataW.trod_string Tryz.underlying9 h5
  obtain ⟨n6, e6, rfl, _⟩ := DataW.trod_int Tryz.underlying3 h6
  obtain ⟨s7, e7, rfl, _⟩ := DataW.trod_string Tryz.underlying9 h7
  injection e0 with e0; injection e1 with e1; injection e2 with e2; injection e3 with e3; injection e4 with e4; injection e5 with e5; injection e6 with e6; injection e7 with e7
  subst e0 e1 e2 e3 e4 e5 e6 e7
  refine ⟨⟨s0.data.toList, n1, n2, n3, s4.data.toList, s5.data.toList, n6, s7.data.toList⟩, ?_, ?_⟩
  · simp [Ev.cells]
  · injection hx with hx _

theorem weightsAll_mem {H : Type} {P : Program} {e : TypeId} : ∀ {ds : List (DataW H)} {d : DataW H}, d ∈ ds → ∀ n ∈ d.weights P e, n ∈ DataW.weightsAll P e ds
  | d0 :: ds, d, hd, n, hn => by
    simp only [DataW.weightsAll, List.mem_append]
    rcases List.mem_cons.1 hd with rfl | h
    · exact Or.inl hn
    · exact Or.inr (weightsAll_mem h n hn)
  | [], _, hd, _, _ => by cases hd

theorem ev_weights {H : Type} (e : Ev) : (e.dat (H := H)).weights Tryz.prog 28 = [e.src.length, e.per.length, e.item.length, e.text.length] := by
  unfold Ev.dat
  rw [DataW.weights, Tryz.underlying28]
  simp [DataW.weightsEach, DataW.weights]

theorem add_none (b o i : Nat) : (⟨b, o, none⟩ : Addr).add i = ⟨b, o + i, none⟩ := by unfold Addr.add; split <;> simp_all

/-- the events of a slice that came in; and what the form's reach says of them -/
theorem evs_of_trod {H : Type} {enc : TypeId × Value → H} {W : World} {A : Option Addr} {n c : Nat} {d : DataW H} {ps : List MemPlace}
    (h : DataW.Trod enc Tryz.prog W 0 (fun _ => true) true 22 (Value.slice A n c) d ps) (hz : ∀ m ∈ d.weights Tryz.prog 22, m ≤ reachBytes) :
    ∃ es, Evs W W.heap.size A n c es ∧ n ≤ 140737488355328 ∧ ∀ e ∈ es, e.fit := by
  obtain ⟨fuel, hf⟩ := h
  have hr : reachBytes ≤ 140737488355328 := by decide
  rcases Deep.open_slice Tryz.underlying22 hf with ⟨hcs, _⟩ | ⟨a, len, cap, m, fl, D, Pl, hcs, _, hl, hm, hmm, hx, hV⟩
  · simp [Value.cells] at hcs
    obtain ⟨rfl, rfl, rfl⟩ := hcs
    exact ⟨[], Cel.nil _ _ _ _ _ (by unfold maxLen; omega), by omega, fun e he => by cases he⟩
  · simp [Value.cells] at hcs
    obtain ⟨rfl, rfl, rfl⟩ := hcs
    have hmc : m = c := by simpa using hmm
    subst hmc
    injection hx with hd _
    rw [ev_cells] at hV
    have key : ∀ i, i < n → ∃ e : Ev, (∀ j, j < 8 → W.cell? ((a.add (i * 8)).add j) = e.cells[j]?) ∧ D i = e.dat := fun i hi => by
      obtain ⟨cs, h1, h2⟩ := hV i (by omega)
      obtain ⟨_, _, h3⟩ := World.cells?_some h1
      obtain ⟨e, rfl, he⟩ := ev_of_trod h2
      exact ⟨e, h3, he⟩
    obtain ⟨f, hfk⟩ := Deep.choose_lt (α := Ev) (p := fun i e => (∀ j, j < 8 → W.cell? ((a.add (i * 8)).add j) = e.cells[j]?) ∧ D i = e.dat) key
    have hwt : ∀ i, i < n → (f i).fit := fun i hi => by
      have hmem : (f i).dat ∈ (List.range n).map D := List.mem_map.2 ⟨i, by simpa using hi, (hfk i hi).2⟩
      have hw : ∀ k ∈ (f i).dat.weights (H := H) Tryz.prog 28, k ≤ reachBytes := fun k hk => hz k (by
        rw [hd, DataW.weights, Tryz.underlying22]
        simp only [List.mem_cons, List.mem_append]
        exact Or.inr (Or.inl (weightsAll_mem hmem k hk)))
      rw [ev_weights] at hw
      exact ⟨Nat.le_trans (hw _ (by simp)) hr, Nat.le_trans (hw _ (by simp)) hr, Nat.le_trans (hw _ (by simp)) hr, Nat.le_trans (hw _ (by simp)) hr⟩
    have hnn : n ≤ 140737488355328 := by
      have := hz ((((List.range n).map D).length + ((List.range (m - n)).map fun j => D (n + j)).length) * Tryz.prog.bytesOf 28) (by
        rw [hd, DataW.weights, Tryz.underlying22]
        exact List.mem_cons_self ..)
      have hb : Tryz.prog.bytesOf 28 = 96 := by kernel_rfl
      rw [hb] at this
      simp at this
      omega
    refine ⟨(List.range n).map f, ⟨by rw [evCells_length]; simp, hl, hm, fun h0 => ?_⟩, hnn, fun e he => ?_⟩
    · obtain ⟨b, off, spot⟩ := a
      have hc0 := (hfk 0 h0).1 0 (by omega)
      have hspot : spot = none := by
        have := World.cell?_spot (hc0.trans (show (f 0).cells[0]? = some _ from rfl))
        simpa [Addr.add] using this
      subst hspot
      refine ⟨b, off, rfl, World.block_lt_of_cell? W ⟨b, off, none⟩ (u := .string ⟨(f 0).src.toArray⟩) ?_, fun i u hi => ?_⟩
      · simpa [add_none] using hc0.trans (show (f 0).cells[0]? = some _ from rfl)
      · have hil : i < n * 8 := by
          have := (List.getElem?_eq_some_iff.1 hi).1
          rw [evCells_length] at this; simpa using this
        have e1 : i = (i / 8) * 8 + i % 8 := by omega
        have hq : i / 8 < ((List.range n).map f).length := by simp; omega
        rw [e1, evCells_get _ (i / 8) (i % 8) hq (by omega)] at hi
        have hq' : i / 8 < n := by omega
        have := (hfk (i / 8) hq').1 (i % 8) (by omega)
        rw [add_none, add_none] at this
        have e2 : off + i = off + i / 8 * 8 + i % 8 := by omega
        rw [e2, this]
        simpa using hi
    · obtain ⟨i, hi, rfl⟩ := List.mem_map.1 he
      exact hwt i (by simpa using hi)
end Go.Proofs.YtgbagjpokpchpaaGreatDoor
namespace Go.Proofs.YtgbagjpokpchpaaGreatDoor
open Go.RowKit Go.ChangeShapes

def firstInts : List Int := List.replicate 128 240 ++ List.replicate 66 241 ++ List.replicate 30 2 ++ [19] ++ List.replicate 12 3 ++ [35, 3, 3, 52, 4, 4, 4, 68] ++ List.replicate 11 241
def rangeInts : List Int := [128, 191, 160, 191, 128, 159, 144, 191, 128, 143] ++ List.replicate 22 0
def layInts (l : List Int) : Obj → Obj
  | .cells _ t frozen => .cells (l.map (Value.int .u8)).toArray t frozen
  | o => o
/-- the values of a laid table -/
def datVal : DataW Unit → Value
  | .lit (.int k z) => .int k z
  | _ => .bool false
def datVals : DataW Unit → List Value
  | .agg l => l.map datVal
  | _ => []
def layVals (d : DataW Unit) : Obj → Obj
  | .cells _ t frozen => .cells (datVals d).toArray t frozen
  | o => o
def layErr (k : Nat) : Obj → Obj
  | .cells _ t frozen => .cells #[.iface 278 (.pointer (some ⟨k, 0, none⟩))] t frozen
  | o => o
abbrev rangeS : ByteArray := ⟨#[118, 97, 108, 117, 101, 32, 111, 117, 116, 32, 111, 102, 32, 114, 97, 110, 103, 101]⟩
abbrev syntaxS : ByteArray := ⟨#[105, 110, 118, 97, 108, 105, 100, 32, 115, 121, 110, 116, 97, 120]⟩
noncomputable def lowW : Nat := (World.holding Tryz.prog default ⟨#[], #[], []⟩).heap.size
noncomputable def laidWorld (os : Os) : World :=
  let w0 := World.holding Tryz.prog os ⟨#[.cells #[.string rangeS] 280, .cells #[.string syntaxS] 280], #[], []⟩
  { w0 with
    heap := ((((((w0.heap.modify 4 (layInts firstInts)).modify 5 (layInts rangeInts)).modify 6 (layVals Rows.laid_math_bits_deBruijn32tab)).modify 7 (layVals Rows.laid_math_bits_deBruijn64tab)).modify 3 (layVals Rows.laid_internal_strconv_uint64pow10)).modify 2 (layErr lowW)).modify 1 (layErr (lowW + 1)) }

theorem star7 : "*" ++ "errors.errorString" = "*errors.errorString" := by decide
theorem row7 (u : TypeId) (h : Tryz.prog.typeName? 3 u = some "*errors.errorString") : u = 278 :=
  typeName_ptr_named (nm := "errors.errorString") (by rw [star7]; kernel_rfl) (by kernel_rfl) (by decide) u (by rw [star7]; exact h)
theorem tab7 {W : World} {r : List (String × DataW Unit)} (h : laidMet Tryz.prog (("internal/strconv.uint64pow10", Rows.laid_internal_strconv_uint64pow10) :: r) W) : Lib.TabBelow Tryz.prog W.heap.size W "internal/strconv.uint64pow10" .u64 Lib.pow10Tab :=
  Lib.tabBelow_of_tabIs (Lib.tabIs_of_head (g := 3) (by kernel_rfl) (by kernel_rfl) Tryz.underlying272 Tryz.underlying215 (by kernel_rfl) (by kernel_rfl) h)
theorem errR7 {W : World} {r : List (String × DataW Unit)} (h : laidMet Tryz.prog (("strconv.ErrRange", Rows.laid_strconv_ErrRange) :: r) W) : ∃ v, W.cell? ⟨2, 0, none⟩ = some v ∧ (v = .nilIface ∨ ∃ t p, v = .iface t p) := by
  obtain ⟨a, s, hv, _⟩ := laid_sentinel (g := 2) (ts := 9) (te := 280) h (by kernel_rfl) (by kernel_rfl) Tryz.underlying165 row7 Tryz.underlying278 Tryz.underlying280 rfl rfl Tryz.underlying9 (by kernel_rfl) (by kernel_rfl)
  have h0 := World.var?_cell (g := 2) (by kernel_rfl) hv 0
  exact ⟨_, by simpa using h0, .inr ⟨_, _, rfl⟩⟩
theorem errS7 {W : World} {r : List (String × DataW Unit)} (h : laidMet Tryz.prog (("strconv.ErrSyntax", Rows.laid_strconv_ErrSyntax) :: r) W) : ∃ v, W.cell? ⟨1, 0, none⟩ = some v ∧ (v = .nilIface ∨ ∃ t p, v = .iface t p) := by
  obtain ⟨a, s, hv, _⟩ := laid_sentinel (g := 1) (ts := 9) (te := 280) h (by kernel_rfl) (by kernel_rfl) Tryz.underlying165 row7 Tryz.underlying278 Tryz.underlying280 rfl rfl Tryz.underlying9 (by kernel_rfl) (by kernel_rfl)
  have h0 := World.var?_cell (g := 1) (by kernel_rfl) hv 0
  exact ⟨_, by simpa using h0, .inr ⟨_, _, rfl⟩⟩
/-- the list of the row -/
abbrev list7 : List (String × DataW Unit) := [("math/bits.deBruijn32tab", Rows.laid_math_bits_deBruijn32tab), ("math/bits.deBruijn64tab", Rows.laid_math_bits_deBruijn64tab), ("internal/strconv.uint64pow10", Rows.laid_internal_strconv_uint64pow10), ("unicode/utf8.acceptRanges", Rows.laid_unicode_utf8_acceptRanges), ("strconv.ErrRange", Rows.laid_strconv_ErrRange), ("strconv.ErrSyntax", Rows.laid_strconv_ErrSyntax), ("unicode/utf8.first", Rows.laid_unicode_utf8_first)]
theorem laid7 {W : World} (h : laidMetH Tryz.prog list7 W) : ErrsAt W ∧ Lib.TabBelow Tryz.prog W.heap.size W "internal/strconv.uint64pow10" .u64 Lib.pow10Tab := by
  have h' : laidMet Tryz.prog list7 W := by
    have e : list7.filter (fun x => x.2.handleName?.isSome) = [] := by kernel_rfl
    unfold laidMetH at h
    rw [e] at h
    exact h
  have h3 := laidMet.tail (laidMet.tail h')
  have h5 := laidMet.tail (laidMet.tail h3)
  exact ⟨⟨errS7 (laidMet.tail h5), errR7 h5⟩, tab7 h3⟩
end Go.Proofs.YtgbagjpokpchpaaGreatDoor
