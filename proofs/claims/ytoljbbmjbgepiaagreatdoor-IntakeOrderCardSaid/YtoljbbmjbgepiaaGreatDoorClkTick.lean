/-
  Layer 6: rise, Tick.
-/
import Derived.Test.YtoljbbmjbgepiaaGreatDoorClkTold
import Derived.RegionTactic
namespace Go.Proofs.YtoljbbmjbgepiaaGreatDoor
open Go.RowKit Go.Maps Go.Sort

/-- a clock's block with another mark -/
theorem ClockAt.setMark {w : World} {bc bm : Nat} {c : Clk} (h : ClockAt w bc bm c) (m : Int) (hm : -1 ≤ m ∧ m ≤ 1099511627776) : ClockAt (w.setCell ⟨bc, 3, none⟩ (.int .i64 m)) bc bm { c with mark := m } :=
  ⟨heap_set_row h.blk, h.map.block (Below.heap_setCell _ _ _ _ (Ne.symm h.ne)), ⟨h.ok.slack, h.ok.idle, h.ok.now, hm, h.ok.rising, h.ok.src⟩⟩
theorem ClockAt.setNow {w : World} {bc bm : Nat} {c : Clk} (h : ClockAt w bc bm c) (n : Int) (hn : c.now ≤ n ∧ n ≤ 1099511627776) : ClockAt (w.setCell ⟨bc, 2, none⟩ (.int .i64 n)) bc bm { c with now := n } :=
  ⟨heap_set_row h.blk, h.map.block (Below.heap_setCell _ _ _ _ (Ne.symm h.ne)), ⟨h.ok.slack, h.ok.idle, by have := h.ok.now; exact ⟨by show 0 ≤ n; omega, hn.2⟩, h.ok.mark, h.ok.rising, fun p hp => by have := h.ok.src p hp; exact ⟨this.1, this.2.1, this.2.2.1, this.2.2.2.1, by show p.2.2 ≤ n; omega⟩⟩⟩

def RisePost (w : World) (bc bm : Nat) (c : Clk) (e : Ending) (w' : World) : Prop := e = .returned (.tuple #[]) ∧ ClockAt w' bc bm c ∧ Keep (· = bc) w w'
set_option maxHeartbeats 1000000 in
theorem rise_any (w : World) (bc bm : Nat) (c : Clk) (hc : ClockAt w bc bm c) : Calls Tryz.prog 90 #[.pointer (some ⟨bc, 0, none⟩)] w (RisePost w bc bm c.rise) := by
  have HC := Lib.hid hc; clear hc
  go_enter Tryz.func90, Tryz.ntmps90
  go_wp2_with fail
  refine (told_any w bc bm c HC.out).mono ?_
  rintro e w1 ⟨rfl, hb1⟩
  have HC1 := Lib.hid (HC.out.up hb1)
  obtain ⟨c0, c1, c2, c3, c4, f2, f3⟩ := HC1.out.cells
  cases ht : c.told with
  | none =>
    have HT := Lib.hid (show c.rise = c by unfold Clk.rise; rw [ht])
    have HK := Lib.hid (show Keep (· = bc) w w1 from Keep.of_below hb1)
    clear ht hb1
    simp only [Option.getD_none, Option.isSome_none]
    go_wp2
    go_end0
    exact ⟨rfl, by rw [HT.out]; exact HC1.out, HK.out⟩
  | some m =>
    have HT := Lib.hid (show c.rise = { c with mark := max c.mark m } by unfold Clk.rise; rw [ht])
    have hmb := HC.out.ok.told ht
    have hmk := HC.out.ok.mark
    have HK := Lib.hid (show Keep (· = bc) w w1 from Keep.of_below hb1)
    clear ht hb1
    simp only [Option.getD_some, Option.isSome_some]
    go_wp2
    go_end0
    exact ⟨rfl, by rw [HT.out]; exact HC1.out.setMark _ (by omega), HK.out.setCell (fun _ => rfl) _⟩

def TickPost (w : World) (bc bm : Nat) (c : Clk) (e : Ending) (w' : World) : Prop := e = .returned (.int .i64 c.mark) ∧ ClockAt w' bc bm c ∧ Keep (· = bc) w w'
theorem bound_same (w : World) (n : Int) : Calls Tryz.prog 87 #[.int .i64 n] w fun e w' => e = .returned (.int .i64 (boundI n)) ∧ w' = w := (bound_any w n).mono fun _ _ h => ⟨h.1, h.2.symm⟩
set_option maxRecDepth 100000 in
set_option maxHeartbeats 1000000 in
theorem tick_any (w : World) (bc bm : Nat) (c : Clk) (hc : ClockAt w bc bm c) (now : Int) : Calls Tryz.prog 66 #[.pointer (some ⟨bc, 0, none⟩), .int .i64 now] w (TickPost w bc bm (c.tick now)) := by
  have HC := Lib.hid hc
  obtain ⟨c0, c1, c2, c3, c4, f2, f3⟩ := hc.cells
  have hbl := boundI_lo now
  have hbh := boundI_hi now
  have hn := hc.ok.now
  clear hc
  go_enter Tryz.func66, Tryz.ntmps66
  go_wp2
  go_still_tail 10, (by kernel_rfl)
  still_call (bound_same _ _)
  repeat still_step
  refine wpStill_nil ?_
  change wpList _ _ _ _ _ (w.drewN 1)
  have HC1 := Lib.hid (show ClockAt (w.drewN 1) bc bm c from HC.out.keep rfl rfl)
  have HT := Lib.hid (show c.tick now = ({ c with now := max c.now (boundI now) } : Clk).rise from rfl)
  have HK := Lib.hid (show Keep (· = bc) w (w.drewN 1) from (Keep.refl _ _).drewN 1)
  have d2 : (w.drewN 1).cell? ⟨bc, 2, none⟩ = some (.int .i64 c.now) := c2
  have d3 : (w.drewN 1).frozen? ⟨bc, 2, none⟩ = false := f2
  generalize boundI now = nb at *
  generalize w.drewN 1 = w1 at *
  clear c0 c1 c2 c3 c4 f2 f3
  go_wp2_with fail
  have hc2 := HC1.out.setNow (max c.now nb) (by omega)
  refine (rise_any _ bc bm _ hc2).mono ?_
  rintro e w2 ⟨rfl, hcr, hk2⟩
  rw [← HT.out] at hcr
  obtain ⟨e0, e1, e2, e3, e4, g2, g3⟩ := hcr.cells
  have HCR := Lib.hid hcr
  have HK2 := Lib.hid ((HK.out.setCell (p := ⟨bc, 2, none⟩) (fun _ => rfl) (.int .i64 (max c.now nb))).trans hk2 (fun _ _ h => h))
  clear hcr hk2 hc2 d2 d3
  go_wp2
  go_ret
  exact ⟨rfl, HCR.out, HK2.out⟩

theorem mark_any (w : World) (bc bm : Nat) (c : Clk) (hc : ClockAt w bc bm c) : Calls Tryz.prog 82 #[.pointer (some ⟨bc, 0, none⟩)] w fun e w' => e = .returned (.int .i64 c.mark) ∧ w = w' := by
  obtain ⟨c0, c1, c2, c3, c4, f2, f3⟩ := hc.cells
  clear hc
  go_enter Tryz.func82, Tryz.ntmps82
  go_wp2
  go_ret
  exact ⟨rfl, rfl⟩
end Go.Proofs.YtoljbbmjbgepiaaGreatDoor
