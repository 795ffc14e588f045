/-
  Layer 6: the clock, in memory.
-/
import Derived.Test.YtoljbbmjbgepiaaGreatDoorClkPlain
import Derived.Test.YtoljbbmjbgepiaaGreatDoorShelf
import Derived.Test.YtoljbbmjbgepiaaGreatDoorErWalk
import Derived.StillTailTactics
namespace Go.Proofs.YtoljbbmjbgepiaaGreatDoor
open Go.RowKit Go.Maps Go.Sort

def encSrc (s : Int × Int) : Value := .agg #[.int .i64 s.1, .int .i64 s.2]
def srcRow (m : Row (Int × Int)) : Row Value := m.map fun p => (p.1, encSrc p.2)
abbrev clkObj (c : Clk) (bm : Nat) : Obj := .cells #[.int .i64 c.slack, .int .i64 c.idle, .int .i64 c.now, .int .i64 c.mark, .map (some bm)] 127
/-- block bc is a clock, whose map is block bm -/
structure ClockAt (w : World) (bc bm : Nat) (c : Clk) : Prop where
  blk : w.heap[bc]? = some (clkObj c bm)
  map : MapS w bm (srcRow c.src)
  ok : ClkOk c
/-- what the walk wants of it -/
structure ClockCells (w : World) (bc bm : Nat) (c : Clk) : Prop where
  c0 : w.cell? ⟨bc, 0, none⟩ = some (.int .i64 c.slack)
  c1 : w.cell? ⟨bc, 1, none⟩ = some (.int .i64 c.idle)
  c2 : w.cell? ⟨bc, 2, none⟩ = some (.int .i64 c.now)
  c3 : w.cell? ⟨bc, 3, none⟩ = some (.int .i64 c.mark)
  c4 : w.cell? ⟨bc, 4, none⟩ = some (.map (some bm))
  f2 : w.frozen? ⟨bc, 2, none⟩ = false
  f3 : w.frozen? ⟨bc, 3, none⟩ = false
theorem ClockAt.cells {w : World} {bc bm : Nat} {c : Clk} (h : ClockAt w bc bm c) : ClockCells w bc bm c := by
  have key : ∀ o, w.cell? ⟨bc, o, none⟩ = _ := fun o => cell_of_row w bc o _ _ (0, 0) h.blk
  exact ⟨(key 0).trans rfl, (key 1).trans rfl, (key 2).trans rfl, (key 3).trans rfl, (key 4).trans rfl, frozen_of_row w bc 2 _ _ h.blk, frozen_of_row w bc 3 _ _ h.blk⟩
theorem ClockAt.keep {w w' : World} {bc bm : Nat} {c : Clk} (h : ClockAt w bc bm c) (h1 : w'.heap[bc]? = w.heap[bc]?) (h2 : w'.heap[bm]? = w.heap[bm]?) : ClockAt w' bc bm c :=
  ⟨h1.trans h.blk, h.map.block h2, h.ok⟩
theorem ClockAt.lt {w : World} {bc bm : Nat} {c : Clk} (h : ClockAt w bc bm c) : bc < w.heap.size := heap_lt h.blk
theorem ClockAt.up {w w' : World} {bc bm : Nat} {c : Clk} (h : ClockAt w bc bm c) (hb : Below w.heap.size w w') : ClockAt w' bc bm c := h.keep (hb.block _ h.lt) (hb.block _ h.map.lt)
theorem ClockAt.ne {w : World} {bc bm : Nat} {c : Clk} (h : ClockAt w bc bm c) : bc ≠ bm := by
  rintro rfl
  obtain ⟨es, cl, h1⟩ := h.map.isMap
  rw [h.blk] at h1
  cases h1

theorem bound_any (w : World) (n : Int) : Calls Tryz.prog 87 #[.int .i64 n] w fun e w' => e = .returned (.int .i64 (boundI n)) ∧ w = w' := by
  go_enter Tryz.func87, Tryz.ntmps87
  go_wp2
  go_ret
  exact ⟨rfl, rfl⟩

theorem active_any (w : World) (bc bm : Nat) (c : Clk) (hc : ClockAt w bc bm c) (a h : Int) (h1 : 0 ≤ h ∧ h ≤ 1099511627776) :
    Calls Tryz.prog 161 #[.pointer (some ⟨bc, 0, none⟩), .agg #[.int .i64 a, .int .i64 h]] w (Says (actB c.idle c.now (a, h)) w) := by
  obtain ⟨o1, o2, o3, o4, _, _⟩ := hc.ok
  have hlt := hc.lt
  obtain ⟨c0, c1, c2, c3, c4, f2, f3⟩ := hc.cells
  have HA := Lib.hid (show actB c.idle c.now (a, h) = (decide (c.idle = 0) || decide (c.now - h ≤ c.idle)) from rfl)
  clear hc
  generalize c.idle = idle at *
  generalize c.now = now at *
  generalize c.slack = slack at *
  generalize c.mark = mark at *
  by_cases h0 : idle = 0
  · have b0 : (idle == 0) = true := by simpa using h0
    have HB := Lib.hid (show actB idle now (a, h) = true by rw [HA.out]; simp [h0])
    clear h0
    go_enter Tryz.func161, Tryz.ntmps161
    go_wp2
    go_quiet (fail)
    go_wp2
    go_ret
    exact ⟨ret_bool HB.out.symm, below_drewN ((Below.refl _ _).alloc (Nat.le_refl _) _) _⟩
  · have b0 : (idle == 0) = false := by simpa using h0
    have HB := Lib.hid (show actB idle now (a, h) = decide (now - h ≤ idle) by rw [HA.out]; simp [h0])
    clear h0
    go_enter Tryz.func161, Tryz.ntmps161
    go_wp2
    go_quiet (fail)
    go_wp2
    go_ret
    exact ⟨ret_bool HB.out.symm, below_drewN ((Below.refl _ _).alloc (Nat.le_refl _) _) _⟩
end Go.Proofs.YtoljbbmjbgepiaaGreatDoor
