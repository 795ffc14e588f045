/-
  Layer 6: told, rise, Tick.
  Layer 6: rise, Tick.
-/
import Derived.Test.YtbejfgmdkmddnaaGreatDoorSClkDec1
import Derived.IntWalk
import Derived.RegionTactic
namespace Go.Proofs.YtbejfgmdkmddnaaGreatDoor
open Go.RowKit Go.Maps Go.Sort

theorem srcRow_get {m : Row (Int × Int)} {k : List UInt8} {v : Value} (h : getB (srcRow m) k = some v) : ∃ s, getB m k = some s ∧ v = encSrc s := by
  unfold srcRow at h
  rw [getB_map] at h
  cases hg : getB m k with
  | none => rw [hg] at h; cases h
  | some s => rw [hg] at h; exact ⟨s, rfl, by simpa using h.symm⟩

/-- what the rounds so far have told -/
def ToldSt (c : Clk) (todo : List UInt8 → Bool) : Option Int → Prop
  | none => ∀ p ∈ c.src, todo p.1 = false → actB c.idle c.now p.2 = false
  | some m => (∃ p ∈ c.src, todo p.1 = false ∧ actB c.idle c.now p.2 = true ∧ m = p.2.1 - c.slack - 1) ∧ ∀ p ∈ c.src, todo p.1 = false → actB c.idle c.now p.2 = true → m ≤ p.2.1 - c.slack - 1
theorem ToldSt.done {c : Clk} {todo : List UInt8 → Bool} {o : Option Int} (h : ToldSt c todo o) (ht : ∀ k, todo k = false) : c.told = o := by
  cases o with
  | none => exact told_none.2 fun p hp => h p hp (ht _)
  | some m =>
    obtain ⟨⟨p, hp, _, h2, h3⟩, h4⟩ := h
    exact told_some.2 ⟨⟨p, hp, h2, h3⟩, fun q hq => h4 q hq (ht _)⟩
theorem ToldSt.skip {c : Clk} {todo : List UInt8 → Bool} {o : Option Int} (hr : RowUp c.src) (h : ToldSt c todo o) {k : List UInt8} {s : Int × Int} (hk : (k, s) ∈ c.src) (ha : actB c.idle c.now s = false) : ToldSt c (fun x => todo x && !(x == k)) o := by
  have key : ∀ p ∈ c.src, (todo p.1 && !(p.1 == k)) = false → todo p.1 = false ∨ p = (k, s) := fun p hp hf => by
    by_cases e : p.1 = k
    · exact .inr (hr.key hp hk e)
    · left; simpa [e] using hf
  cases o with
  | none =>
    intro p hp hf
    rcases key p hp hf with h' | rfl
    · exact h p hp h'
    · exact ha
  | some m =>
    obtain ⟨⟨p, hp, h1, h2, h3⟩, h4⟩ := h
    refine ⟨⟨p, hp, by simp [h1], h2, h3⟩, fun q hq hf hq2 => ?_⟩
    rcases key q hq hf with h' | rfl
    · exact h4 q hq h' hq2
    · rw [ha] at hq2; cases hq2
theorem ToldSt.take {c : Clk} {todo : List UInt8 → Bool} {o : Option Int} (hr : RowUp c.src) (h : ToldSt c todo o) {k : List UInt8} {s : Int × Int} (hk : (k, s) ∈ c.src) (ha : actB c.idle c.now s = true)
    {m : Int} (hm : (o = none ∧ m = s.1 - c.slack - 1) ∨ (∃ q, o = some q ∧ m = if s.1 - c.slack - 1 < q then s.1 - c.slack - 1 else q)) : ToldSt c (fun x => todo x && !(x == k)) (some m) := by
  have key : ∀ p ∈ c.src, (todo p.1 && !(p.1 == k)) = false → todo p.1 = false ∨ p = (k, s) := fun p hp hf => by
    by_cases e : p.1 = k
    · exact .inr (hr.key hp hk e)
    · left; simpa [e] using hf
  rcases hm with ⟨rfl, rfl⟩ | ⟨q, rfl, rfl⟩
  · refine ⟨⟨(k, s), hk, by simp, ha, rfl⟩, fun p hp hf hp2 => ?_⟩
    rcases key p hp hf with h' | rfl
    · rw [h p hp h'] at hp2; cases hp2
    · exact Int.le_refl _
  · obtain ⟨⟨p, hp, h1, h2, h3⟩, h4⟩ := h
    split
    · rename_i hlt
      refine ⟨⟨(k, s), hk, by simp, ha, rfl⟩, fun p hp hf hp2 => ?_⟩
      rcases key p hp hf with h' | rfl
      · have := h4 p hp h' hp2; omega
      · exact Int.le_refl _
    · rename_i hlt
      refine ⟨⟨p, hp, by simp [h1], h2, h3⟩, fun x hx hf hx2 => ?_⟩
      rcases key x hx hf with h' | rfl
      · exact h4 x hx h' hx2
      · show q ≤ s.1 - c.slack - 1; omega
def ToldPost (c : Clk) (w : World) (e : Ending) (w' : World) : Prop := e = .returned (.tuple #[.int .i64 (c.told.getD 0), .bool c.told.isSome]) ∧ Below w.heap.size w w'
def ToldRel (w : World) (bm r : Nat) (c : Clk) (l a : Value) (wr : World) : Prop :=
  ∃ todo cnt, MapR wr bm r (srcRow c.src) todo cnt ∧ Below w.heap.size w wr ∧ ∃ o : Option Int, l = .int .i64 (o.getD 0) ∧ a = .bool o.isSome ∧ ToldSt c todo o

set_option maxRecDepth 100000 in
set_option maxHeartbeats 4000000 in
theorem told_any (w : World) (bc bm : Nat) (c : Clk) (hc : ClockAt w bc bm c) : Calls Tryz.prog 118 #[.pointer (some ⟨bc, 0, none⟩)] w (ToldPost c w) := by
  have HC := Lib.hid hc
  obtain ⟨c0, c1, c2, c3, c4, f2, f3⟩ := hc.cells
  have HM := Lib.hid hc.map
  have hlt := hc.lt
  have hmlt := hc.map.lt
  clear hc
  go_enter Tryz.func118, Tryz.ntmps118
  go_wp2_with (at_range; refine wpList_range_S _ rfl _ 134 142 rfl Tryz.underlying134 bm (srcRow c.src) rfl HM.out ?_; intro w0 hrg0 hg0 hs0)
  go_frame
  clear c0 c1 c2 c3 c4 f2 f3
  have hb0 : Below w.heap.size w w0 := ⟨hg0.os, hg0.tape, hg0.output, hg0.size, fun k hk => hg0.block k hk (by simp)⟩
  clear hg0
  go_loopw [4, 5] (fun l a wr => ToldRel w bm w.heap.size c l a wr) (fun _ _ wr => wr.rangeLeft bm w.heap.size)
  case atStart =>
    refine ⟨_, _, hrg0, hb0, none, rfl, rfl, fun p hp hf => ?_⟩
    simp only [srcRow] at hf
    rw [getB_map, getB_of_mem HC.out.ok.rising hp] at hf
    cases hf
  case round =>
    obtain ⟨todo, cnt, hrg, hbel, o, rfl, rfl, hst⟩ := hrel
    have HST := Lib.hid hst
    have HRG := Lib.hid hrg
    have hsz0 := hbel.size
    clear hst hrg hrg0
    go_wp2_with (at_next; refine wpList_next_S _ rfl _ rfl bm w.heap.size (srcRow c.src) todo cnt rfl HRG.out ?_ ?_)
    · intro hdone
      have HT := Lib.hid (HST.out.done hdone)
      clear hdone
      go_wp2
      go_ret2
      exact ⟨by rw [HT.out]; rfl, hbel⟩
    · intro k v w1 cnt1 htk hget hkl hrg1 hlt1 hgr hsz1 hen
      obtain ⟨⟨a, h⟩, hs, rfl⟩ := srcRow_get hget
      have hmem := getB_mem hs
      have hso := HC.out.ok.src _ hmem
      have hco := HC.out.ok.slack
      have hcn := HC.out.ok.now
      simp only at hso
      have hb1 : Below w.heap.size w w1 := hbel.grown hgr hsz0 (fun k hk => by injection hk with hk; omega)
      have HLT := Lib.hid hlt1; have HR1 := Lib.hid hrg1; have HME := Lib.hid hmem; have HB1 := Lib.hid hb1; have HSZ1 := Lib.hid hsz1
      clear htk hget hs hmem hgr hlt1 hrg1 hbel hsz1
      unfold encSrc at *
      simp only at *
      go_wp2_with fail
      have hbA : Below w.heap.size w (w1.alloc (.cells #[.int .i64 a, .int .i64 h] 142)) := HB1.out.alloc (by have := HB1.out.size; omega) _
      have hcA : ClockAt (w1.alloc (.cells #[.int .i64 a, .int .i64 h] 142)) bc bm c := HC.out.up hbA
      refine (active_any _ bc bm c hcA a h (by omega)).mono ?_
      rintro e w2 ⟨rfl, hb2⟩
      have hbw2 : Below w.heap.size w w2 := hbA.trans (hb2.mono hbA.size)
      have hs2 := hb2.size
      simp at hs2
      have HR2 := Lib.hid (HR1.out.up (w' := w2) (((Below.refl _ _).alloc (Nat.le_refl _) _).trans (hb2.mono (by simp))))
      have HME2 := Lib.hid (show w2.rangeLeft bm w.heap.size < wr.rangeLeft bm w.heap.size by rw [HR2.out.left_eq, HRG.out.left_eq]; exact HLT.out)
      obtain ⟨c0, c1, c2, c3, c4, f2, f3⟩ := (hcA.up hb2).cells
      have g0 : w2.cell? ⟨w1.heap.size, 0, none⟩ = some (.int .i64 a) := (hb2.cell (p := ⟨w1.heap.size, 0, none⟩) (by simp)).trans (cell_of_row _ w1.heap.size 0 _ _ (0, 0) (heap_alloc_new w1 _))
      have g1 : w2.cell? ⟨w1.heap.size, 1, none⟩ = some (.int .i64 h) := (hb2.cell (p := ⟨w1.heap.size, 1, none⟩) (by simp)).trans (cell_of_row _ w1.heap.size 1 _ _ (0, 0) (heap_alloc_new w1 _))
      clear hb2 hcA hbA hen
      cases hact : actB c.idle c.now (a, h)
      · have HT := Lib.hid (HST.out.skip HC.out.ok.rising HME.out hact)
        clear hact
        go_wp2
        go_roundw
        case rel => exact ⟨_, _, HR2.out, hbw2, o, rfl, rfl, HT.out⟩
        case measure => exact HME2.out
      · have HT := Lib.hid (fun m hm => HST.out.take HC.out.ok.rising HME.out hact (m := m) hm)
        clear hact
        have e1 : IntKind.i64.wrap (a - c.slack) = a - c.slack := IntWalk.i64_in _ (by omega)
        have e2 : IntKind.i64.wrap (a - c.slack - 1) = a - c.slack - 1 := IntWalk.i64_in _ (by omega)
        go_wp2
        go_quiet (fail)
        clear e1 e2
        have HR3 := Lib.hid (show MapR (w2.drewN nq) bm w.heap.size (srcRow c.src) _ cnt1 from HR2.out)
        have hbw3 : Below w.heap.size w (w2.drewN nq) := below_drewN hbw2 nq
        have HME3 := Lib.hid (show (w2.drewN nq).rangeLeft bm w.heap.size < wr.rangeLeft bm w.heap.size from HME2.out)
        cases o with
        | none =>
          have HT0 := Lib.hid (HT.out _ (.inl ⟨rfl, rfl⟩))
          simp only [Option.getD_none, Option.isSome_none]
          go_wp2
          go_roundw
          case rel => exact ⟨_, _, HR3.out, hbw3, some (a - c.slack - 1), rfl, rfl, HT0.out⟩
          case measure => exact HME3.out
        | some m =>
          simp only [Option.getD_some, Option.isSome_some]
          by_cases hlt2 : a - c.slack - 1 < m
          · have HT0 := Lib.hid (HT.out _ (.inr ⟨m, rfl, (if_pos hlt2).symm⟩))
            go_wp2
            go_roundw
            case rel => exact ⟨_, _, HR3.out, hbw3, some (a - c.slack - 1), rfl, rfl, HT0.out⟩
            case measure => exact HME3.out
          · have HT0 := Lib.hid (HT.out _ (.inr ⟨m, rfl, (if_neg hlt2).symm⟩))
            go_wp2
            go_roundw
            case rel => exact ⟨_, _, HR3.out, hbw3, some m, rfl, rfl, HT0.out⟩
            case measure => exact HME3.out
end Go.Proofs.YtbejfgmdkmddnaaGreatDoor
namespace Go.Proofs.YtbejfgmdkmddnaaGreatDoor
open Go.RowKit Go.Maps Go.Sort

/-- a clock's block with another mark -/
theorem ClockAt.setMark {w : World} {bc bm : Nat} {c : Clk} (h : ClockAt w bc bm c) (m : Int) (hm : -1 ≤ m ∧ m ≤ 1099511627776) : ClockAt (w.setCell ⟨bc, 3, none⟩ (.int .i64 m)) bc bm { c with mark := m } :=
  ⟨heap_set_row h.blk, h.map.block (Below.heap_setCell _ _ _ _ (Ne.symm h.ne)), ⟨h.ok.slack, h.ok.idle, h.ok.now, hm, h.ok.rising, h.ok.src⟩⟩
theorem ClockAt.setNow {w : World} {bc bm : Nat} {c : Clk} (h : ClockAt w bc bm c) (n : Int) (hn : c.now ≤ n ∧ n ≤ 1099511627776) : ClockAt (w.setCell ⟨bc, 2, none⟩ (.int .i64 n)) bc bm { c with now := n } :=
  ⟨heap_set_row h.blk, h.map.block (Below.heap_setCell _ _ _ _ (Ne.symm h.ne)), ⟨h.ok.slack, h.ok.idle, by have := h.ok.now; exact ⟨by show 0 ≤ n; omega, hn.2⟩, h.ok.mark, h.ok.rising, fun p hp => by have := h.ok.src p hp; exact ⟨this.1, this.2.1, this.2.2.1, this.2.2.2.1, by show p.2.2 ≤ n; omega⟩⟩⟩

def RisePost (w : World) (bc bm : Nat) (c : Clk) (e : Ending) (w' : World) : Prop := e = .returned (.tuple #[]) ∧ ClockAt w' bc bm c ∧ Keep (· = bc) w w'
set_option maxHeartbeats 1000000 in
theorem rise_any (w : World) (bc bm : Nat) (c : Clk) (hc : ClockAt w bc bm c) : Calls Tryz.prog 84 #[.pointer (some ⟨bc, 0, none⟩)] w (RisePost w bc bm c.rise) := by
  have HC := Lib.hid hc; clear hc
  go_enter Tryz.func84, Tryz.ntmps84
  go_wp2_with fail
  refine (told_any w bc bm c HC.out).mono ?_
  rintro e w1 ⟨rfl, hb1⟩
  have HC1 := Lib.hid (HC.out.up hb1)
  obtain ⟨c0, c1, c2, c3, c4, f2, f3⟩ := HC1.out.cells
  cases ht : c.told with
  | none =>
    have HT := Lib.hid (show c.rise = c by unfold Clk.rise; rw [ht])
    have HK := Lib.hid (show Keep (· = bc) w w1 from Keep.of_below hb1)
    clear ht hb1
    simp only [Option.getD_none, Option.isSome_none]
    go_wp2
    go_end0
    exact ⟨rfl, by rw [HT.out]; exact HC1.out, HK.out⟩
  | some m =>
    have HT := Lib.hid (show c.rise = { c with mark := max c.mark m } by unfold Clk.rise; rw [ht])
    have hmb := HC.out.ok.told ht
    have hmk := HC.out.ok.mark
    have HK := Lib.hid (show Keep (· = bc) w w1 from Keep.of_below hb1)
    clear ht hb1
    simp only [Option.getD_some, Option.isSome_some]
    go_wp2
    go_end0
    exact ⟨rfl, by rw [HT.out]; exact HC1.out.setMark _ (by omega), HK.out.setCell (fun _ => rfl) _⟩

def TickPost (w : World) (bc bm : Nat) (c : Clk) (e : Ending) (w' : World) : Prop := e = .returned (.int .i64 c.mark) ∧ ClockAt w' bc bm c ∧ Keep (· = bc) w w'
theorem bound_same (w : World) (n : Int) : Calls Tryz.prog 80 #[.int .i64 n] w fun e w' => e = .returned (.int .i64 (boundI n)) ∧ w' = w := (bound_any w n).mono fun _ _ h => ⟨h.1, h.2.symm⟩
set_option maxRecDepth 100000 in
set_option maxHeartbeats 1000000 in
theorem tick_any (w : World) (bc bm : Nat) (c : Clk) (hc : ClockAt w bc bm c) (now : Int) : Calls Tryz.prog 46 #[.pointer (some ⟨bc, 0, none⟩), .int .i64 now] w (TickPost w bc bm (c.tick now)) := by
  have HC := Lib.hid hc
  obtain ⟨c0, c1, c2, c3, c4, f2, f3⟩ := hc.cells
  have hbl := boundI_lo now
  have hbh := boundI_hi now
  have hn := hc.ok.now
  clear hc
  go_enter Tryz.func46, Tryz.ntmps46
  go_wp2
  go_still_tail 10, (by kernel_rfl)
  still_call (bound_same _ _)
  repeat still_step
  refine wpStill_nil ?_
  change wpList _ _ _ _ _ (w.drewN 1)
  have HC1 := Lib.hid (show ClockAt (w.drewN 1) bc bm c from HC.out.keep rfl rfl)
  have HT := Lib.hid (show c.tick now = ({ c with now := max c.now (boundI now) } : Clk).rise from rfl)
  have HK := Lib.hid (show Keep (· = bc) w (w.drewN 1) from (Keep.refl _ _).drewN 1)
  have d2 : (w.drewN 1).cell? ⟨bc, 2, none⟩ = some (.int .i64 c.now) := c2
  have d3 : (w.drewN 1).frozen? ⟨bc, 2, none⟩ = false := f2
  generalize boundI now = nb at *
  generalize w.drewN 1 = w1 at *
  clear c0 c1 c2 c3 c4 f2 f3
  go_wp2_with fail
  have hc2 := HC1.out.setNow (max c.now nb) (by omega)
  refine (rise_any _ bc bm _ hc2).mono ?_
  rintro e w2 ⟨rfl, hcr, hk2⟩
  rw [← HT.out] at hcr
  obtain ⟨e0, e1, e2, e3, e4, g2, g3⟩ := hcr.cells
  have HCR := Lib.hid hcr
  have HK2 := Lib.hid ((HK.out.setCell (p := ⟨bc, 2, none⟩) (fun _ => rfl) (.int .i64 (max c.now nb))).trans hk2 (fun _ _ h => h))
  clear hcr hk2 hc2 d2 d3
  go_wp2
  go_ret
  exact ⟨rfl, HCR.out, HK2.out⟩

end Go.Proofs.YtbejfgmdkmddnaaGreatDoor
