/-
  Layer 6: Decode.
-/
import Derived.Test.YtdjoaboalknlkaaGreatDoorLClkLn2
import Derived.Test.YtdjoaboalknlkaaGreatDoorLClkLn4
import Derived.Test.YtdjoaboalknlkaaGreatDoorLClkEnc2
import Derived.Test.YtdjoaboalknlkaaGreatDoorLClkTold
import Derived.Deep.RegionHeld3
import Derived.BigRegion
import Derived.Deep.DeepCutAuto
import Derived.Deep.RegionHeld
import Derived.Test.YtdjoaboalknlkaaGreatDoorLFrmWalk
import Derived.Test.YtdjoaboalknlkaaGreatDoorLParts
namespace Go.Proofs.YtdjoaboalknlkaaGreatDoor
open Go.RowKit Go.Maps Go.Sort Go.Shelf

def CdOut (w : World) (R : Option Clk) (e : Ending) (w' : World) : Prop :=
  (match R with
    | some c => ∃ bc bm, e = .returned (.tuple #[.pointer (some ⟨bc, 0, none⟩), .int .i64 0]) ∧ ClockAt w' bc bm c ∧ w.heap.size ≤ bc ∧ w.heap.size ≤ bm
    | none => e = .returned (.tuple #[.pointer none, .int .i64 2])) ∧ RowKit.Below w.heap.size w w'
/-- while the lines are read: the boxes of the rest and of ok, the clock, its map -/
structure CdAt (w : World) (W : World) (b1 b2 bc bm : Nat) (rest : List UInt8) (ok : Bool) (c : Clk) : Prop where
  rest_ : W.heap[b1]? = some (stBox rest)
  ok_ : W.heap[b2]? = some (okBox ok)
  clk : W.heap[bc]? = some (clkObj c bm)
  map : MapS W bm (srcRow c.src)
  bel : RowKit.Below w.heap.size w W
def CdRel (w : World) (b1 b2 bc bm M : Nat) (d : LnD) (R : Bool × Row (Int × Int)) (wr : World) (z : Nat) : Prop :=
  ∃ rest ok m, CdAt w wr b1 b2 bc bm rest ok (clkD d m) ∧ rest.length ≤ M ∧ m.length + rest.length ≤ M + (if ok then 0 else 1) ∧ RunI (d.nums.getD 2 0) ok m ∧ runD z (d.nums.getD 2 0) rest ok m = R ∧ (ok = true → rest.length < z)
theorem lineD_word (n : Nat) (rest : List UInt8) (ok : Bool) : (lineD n rest ok).word.length ≤ rest.length := by
  unfold lineD
  split
  · have hc : (Lib.cut rest [10]).1.length ≤ rest.length := by
      rcases cut_cases 10 rest with h | ⟨a, b, rfl, h⟩
      · rw [cut_miss 10 rest h]; exact Nat.le_refl _
      · rw [cut_hit 10 a b h]; simp
    cases hs : Lib.split (Lib.cut rest [10]).1 [32] with
    | nil => simp
    | cons x t =>
      have := split_words 32 _ (Lib.cut rest [10]).1 (Nat.le_refl _) x (by rw [hs]; simp)
      simp only [List.headD_cons]; omega
  · simp
theorem runD_stop (z : Nat) (now : Int) (rest : List UInt8) (m : Row (Int × Int)) : runD z now rest false m = (false, m) := by cases z <;> simp [runD]
/-- a measure of what is left -/
def cdMs (b1 b2 : Nat) (W : World) : Nat :=
  (match W.cell? ⟨b1, 0, none⟩ with
    | some (.string s) => s.size
    | _ => 0) + (match W.cell? ⟨b2, 0, none⟩ with
    | some (.bool true) => 1
    | _ => 0)
theorem CdAt.cells {w W : World} {b1 b2 bc bm : Nat} {rest : List UInt8} {ok : Bool} {c : Clk} (h : CdAt w W b1 b2 bc bm rest ok c) :
    W.cell? ⟨b1, 0, none⟩ = some (.string ⟨rest.toArray⟩) ∧ W.cell? ⟨b2, 0, none⟩ = some (.bool ok) ∧ W.frozen? ⟨b2, 0, none⟩ = false ∧ W.cell? ⟨bc, 2, none⟩ = some (.int .i64 c.now) ∧ W.cell? ⟨bc, 3, none⟩ = some (.int .i64 c.mark) ∧ W.cell? ⟨bc, 4, none⟩ = some (.map (some bm)) :=
  ⟨(cell_of_row W b1 0 _ _ (0, 0) h.rest_).trans rfl, (cell_of_row W b2 0 _ _ (0, 0) h.ok_).trans rfl, frozen_of_row W b2 0 _ _ h.ok_, (cell_of_row W bc 2 _ _ (0, 0) h.clk).trans rfl, (cell_of_row W bc 3 _ _ (0, 0) h.clk).trans rfl, (cell_of_row W bc 4 _ _ (0, 0) h.clk).trans rfl⟩
theorem CdAt.ms {w W : World} {b1 b2 bc bm : Nat} {rest : List UInt8} {ok : Bool} {c : Clk} (h : CdAt w W b1 b2 bc bm rest ok c) : cdMs b1 b2 W = rest.length + (if ok then 1 else 0) := by
  obtain ⟨h1, h2, _⟩ := h.cells
  unfold cdMs
  rw [h1, h2]
  cases ok <;> simp [ByteArray.size]
theorem CdAt.up {w W V : World} {b1 b2 bc bm : Nat} {rest : List UInt8} {ok : Bool} {c : Clk} (h : CdAt w W b1 b2 bc bm rest ok c) (hb : RowKit.Below W.heap.size W V) : CdAt w V b1 b2 bc bm rest ok c :=
  ⟨(hb.block _ (heap_lt h.rest_)).trans h.rest_, (hb.block _ (heap_lt h.ok_)).trans h.ok_, (hb.block _ (heap_lt h.clk)).trans h.clk, h.map.block (hb.block _ h.map.lt), h.bel.trans (hb.mono h.bel.size)⟩
theorem CdAt.setOk {w W : World} {b1 b2 bc bm : Nat} {rest : List UInt8} {ok : Bool} {c : Clk} (h : CdAt w W b1 b2 bc bm rest ok c) (h2 : w.heap.size ≤ b2) (v : Bool) : CdAt w (W.setCell ⟨b2, 0, none⟩ (.bool v)) b1 b2 bc bm rest v c := by
  have n1 : b1 ≠ b2 := fun e => by have := h.rest_; rw [e, h.ok_] at this; injection this with this; injection this with _ this; exact absurd this (by decide)
  have n2 : bc ≠ b2 := fun e => by have := h.clk; rw [e, h.ok_] at this; injection this with this; injection this with _ this; exact absurd this (by decide)
  have n3 : bm ≠ b2 := fun e => by obtain ⟨es, cl, hm⟩ := h.map.isMap; rw [e, h.ok_] at hm; cases hm
  exact ⟨(Below.heap_setCell _ _ _ _ n1).trans h.rest_, (heap_set_row h.ok_).trans rfl, (Below.heap_setCell _ _ _ _ n2).trans h.clk, h.map.block (Below.heap_setCell _ _ _ _ n3), h.bel.setCell (p := ⟨b2, 0, none⟩) h2 _⟩
set_option maxRecDepth 100000 in
set_option maxHeartbeats 4000000 in
theorem ckdec_any (w : World) (A : Option Addr) (n k : Nat) (l : List UInt8) (h : Byt w w.heap.size A n k l) (hn : n ≤ 100000) (hm : MaxAt w) (he : ErrsAt w) (htab : Lib.TabBelow Tryz.prog w.heap.size w "internal/strconv.uint64pow10" .u64 Lib.pow10Tab) :
    Calls Tryz.prog 32 #[.slice A n k] w (CdOut w (decC l)) := by
  have HB := Lib.hid h
  have hlen := h.len
  have HCV := Lib.hid (byt_str h w (Below.refl _ _))
  have hcv := HCV.out
  have HM := Lib.hid hm; have HE := Lib.hid he; have HT := Lib.hid htab
  have hml := hm.lt
  have hel : 1 < w.heap.size ∧ 2 < w.heap.size := by
    obtain ⟨⟨v, h1, _⟩, u, h3, _⟩ := he
    exact ⟨World.block_lt_of_cell? _ _ h1, World.block_lt_of_cell? _ _ h3⟩
  clear h hm he htab
  have hb1 : RowKit.Below w.heap.size w ((w.alloc (stBox l)).alloc (okBox true)) := ((Below.refl _ _).alloc (Nat.le_refl _) _).alloc (by simp) _
  have HB1 := Lib.hid hb1
  have HX1 := Lib.hid (show ((w.alloc (stBox l)).alloc (okBox true)).heap[w.heap.size]? = some (stBox l) from by
    rw [Below.heap_alloc _ _ _ (by simp)]; exact heap_alloc_new w _)
  have HX2 := Lib.hid (show ((w.alloc (stBox l)).alloc (okBox true)).heap[w.heap.size + 1]? = some (okBox true) from by
    have := heap_alloc_new (w.alloc (stBox l)) (okBox true)
    simpa using this)
  clear hb1
  go_enter Tryz.func32, Tryz.ntmps32
  go_upto_region 4 with fail
  clear hcv
  generalize (w.alloc (stBox l)).alloc (okBox true) = w1 at *
  have HL := Lib.hid (ckline4_any w1 w.heap.size (w.heap.size + 1) l true HX1.out HX2.out (by omega) (HM.out.up HB1.out) (HE.out.up HB1.out) (fun b hb => by rcases hb with rfl | rfl <;> omega))
  go_wp2_with fail
  with_reducible refine HL.out.mono ?_
  rintro r w4 ⟨g, rfl, ha1, ha2, hg, hgl, hk4⟩
  obtain ⟨x0, x1, x2, x3, hx⟩ : ∃ x0 x1 x2 x3, (lineD 4 l true).nums = [x0, x1, x2, x3] := by
    have hl4 := lineD_len 4 l true
    rcases hN : (lineD 4 l true).nums with _ | ⟨x0, _ | ⟨x1, _ | ⟨x2, _ | ⟨x3, t⟩⟩⟩⟩ <;> rw [hN] at hl4 <;> simp at hl4
    subst hl4; exact ⟨x0, x1, x2, x3, rfl⟩
  have HDC := Lib.hid (show decC l = if (runD (l.length + 1) ((lineD 4 l true).nums.getD 2 0) (lineD 4 l true).rest (headOk (lineD 4 l true)) []).1 && (encC (clkD (lineD 4 l true) (runD (l.length + 1) ((lineD 4 l true).nums.getD 2 0) (lineD 4 l true).rest (headOk (lineD 4 l true)) []).2) == l) && markB (clkD (lineD 4 l true) (runD (l.length + 1) ((lineD 4 l true).nums.getD 2 0) (lineD 4 l true).rest (headOk (lineD 4 l true)) []).2) then some (clkD (lineD 4 l true) (runD (l.length + 1) ((lineD 4 l true).nums.getD 2 0) (lineD 4 l true).rest (headOk (lineD 4 l true)) []).2) else none from rfl)
  have HCK := Lib.hid (fun m hh h => clk_of_run (b := l) (m := m) hh h)
  have hrest := (lineD_rest 4 l true).1
  have HHD := Lib.hid (show headOk (lineD 4 l true) = ((lineD 4 l true).ok && decide (0 ≤ x0) && decide (0 ≤ x1) && decide (0 ≤ x2)) from by unfold headOk; rw [hx]; rfl)
  rw [hx] at hg ⊢
  obtain ⟨d, hd⟩ : ∃ d, d = lineD 4 l true := ⟨_, rfl⟩
  rw [← hd] at HDC HCK hrest HHD ha1 ha2 hx ⊢
  clear hd
  generalize decC l = RR at *
  have HXX := Lib.hid hx
  have g0 : w4.cell? ⟨g, 0, none⟩ = some (.int .i64 x0) := (cell_of_row w4 g 0 _ _ (0, 0) hg).trans rfl
  have g1 : w4.cell? ⟨g, 1, none⟩ = some (.int .i64 x1) := (cell_of_row w4 g 1 _ _ (0, 0) hg).trans rfl
  have g2 : w4.cell? ⟨g, 2, none⟩ = some (.int .i64 x2) := (cell_of_row w4 g 2 _ _ (0, 0) hg).trans rfl
  have g3 : w4.cell? ⟨g, 3, none⟩ = some (.int .i64 x3) := (cell_of_row w4 g 3 _ _ (0, 0) hg).trans rfl
  have HA1 := Lib.hid ha1; have HA2 := Lib.hid ha2; have HK4 := Lib.hid hk4
  have hlt4 := heap_lt hg
  have hlt1 := heap_lt ha1
  have hlt2 := heap_lt ha2
  have hmm := @run_makeMap Tryz.prog
  have hne := World.new_ne w4
  clear hx ha1 ha2 hg hk4 HL
  go_wp2
  go_region_held3 (fun W => W.cell? ⟨g, 0, none⟩ = some (.int .i64 x0) ∧ W.cell? ⟨g, 1, none⟩ = some (.int .i64 x1) ∧ W.cell? ⟨g, 2, none⟩ = some (.int .i64 x2) ∧ W.cell? ⟨g, 3, none⟩ = some (.int .i64 x3)) (first | (with_reducible assumption) | exact ⟨g0, g1, g2, g3⟩ | go_keep) (fail)
  have hbA : RowKit.Below w4.heap.size w4 ((w4.alloc (.map #[] 0)).alloc (.cells #[.int .i64 x0, .int .i64 x1, .int .i64 x2, .int .i64 x3, .map (some w4.heap.size)] 106)).drew := below_drewN (((Below.refl _ _).alloc (Nat.le_refl _) _).alloc (by simp) _) 1
  have hcl0 : clkD d [] = ⟨x0, x1, x2, x3, []⟩ := by unfold clkD; rw [HXX.out]; rfl
  have HB4 := Lib.hid (show RowKit.Below w.heap.size w w4 from HB1.out.trans (HK4.out.below (Nat.le_of_lt (by have := heap_lt HX1.out; exact this)) fun b hb hg => by omega))
  have HCD := Lib.hid (show CdAt w ((w4.alloc (.map #[] 0)).alloc (.cells #[.int .i64 x0, .int .i64 x1, .int .i64 x2, .int .i64 x3, .map (some w4.heap.size)] 106)).drew w.heap.size (w.heap.size + 1) (w4.heap.size + 1) w4.heap.size d.rest d.ok (clkD d []) from by
    refine ⟨(hbA.block _ hlt1).trans HA1.out, (hbA.block _ hlt2).trans HA2.out, ?_, ?_, HB4.out.trans (hbA.mono HB4.out.size)⟩
    · rw [hcl0]
      have := heap_alloc_new (w4.alloc (.map #[] 0)) (clkObj ⟨x0, x1, x2, x3, []⟩ w4.heap.size)
      rw [show (w4.alloc (.map #[] 0)).heap.size = w4.heap.size + 1 by simp] at this
      exact this
    · rw [hcl0]
      exact (MapS.made w4).block (Below.heap_alloc _ _ w4.heap.size (by simp)))
  have HLT := Lib.hid (show w.heap.size < w4.heap.size ∧ w.heap.size + 1 < w4.heap.size from ⟨hlt1, hlt2⟩)
  have HSZ := Lib.hid (show w4.heap.size + 1 < (((w4.alloc (.map #[] 0)).alloc (.cells #[.int .i64 x0, .int .i64 x1, .int .i64 x2, .int .i64 x3, .map (some w4.heap.size)] 106)).drew).heap.size from by show w4.heap.size + 1 < ((w4.alloc (.map #[] 0)).alloc _).heap.size; simp)
  go_upto_region 6 with fail
  clear g0 g1 g2 g3 hne hbA hmm
  have hv0 : d.nums.getD 0 0 = x0 := by rw [HXX.out]; rfl
  have hv1 : d.nums.getD 1 0 = x1 := by rw [HXX.out]; rfl
  have hv2 : d.nums.getD 2 0 = x2 := by rw [HXX.out]; rfl
  have HV2 := Lib.hid hv2
  rw [hcl0] at HCD
  clear hv0 hv1 hv2 hcl0
  generalize ((w4.alloc (.map #[] 0)).alloc (.cells #[.int .i64 x0, .int .i64 x1, .int .i64 x2, .int .i64 x3, .map (some w4.heap.size)] 106)).drew = w5 at *
  have y2 : w5.cell? ⟨w.heap.size + 1, 0, none⟩ = some (.bool d.ok) := (cell_of_row w5 _ 0 _ _ (0, 0) HCD.out.ok_).trans rfl
  have y2f := frozen_of_row w5 _ 0 _ _ HCD.out.ok_
  have z0 : w5.cell? ⟨w4.heap.size + 1, 0, none⟩ = some (.int .i64 x0) := (cell_of_row w5 _ 0 _ _ (0, 0) HCD.out.clk).trans rfl
  have z1 : w5.cell? ⟨w4.heap.size + 1, 1, none⟩ = some (.int .i64 x1) := (cell_of_row w5 _ 1 _ _ (0, 0) HCD.out.clk).trans rfl
  have z2 : w5.cell? ⟨w4.heap.size + 1, 2, none⟩ = some (.int .i64 x2) := (cell_of_row w5 _ 2 _ _ (0, 0) HCD.out.clk).trans rfl
  go_cut [] (fun wc => wc = w5.setCell ⟨w.heap.size + 1, 0, none⟩ (.bool (headOk d)))
  case first =>
    generalize d.ok = dk at *
    cases dk
    · have HH := Lib.hid (show headOk d = false from by rw [HHD.out]; rfl)
      go_wp2
      go_meet
      rw [HH.out]
    · by_cases h0 : 0 ≤ x0
      · by_cases h1 : 0 ≤ x1
        · have HH := Lib.hid (show headOk d = decide (0 ≤ x2) from by rw [HHD.out, decide_eq_true h0, decide_eq_true h1]; rfl)
          go_wp2
          go_meet
          rw [HH.out]
        · have HH := Lib.hid (show headOk d = false from by rw [HHD.out, decide_eq_false h1]; simp)
          go_wp2
          go_meet
          rw [HH.out]
      · have HH := Lib.hid (show headOk d = false from by rw [HHD.out, decide_eq_false h0]; simp)
        go_wp2
        go_meet
        rw [HH.out]
  case rest =>
    subst hcut
    have HC6 := Lib.hid (HCD.out.setOk (by omega) (headOk d))
    clear y2 y2f z0 z1 z2
    have hsz6 : w4.heap.size + 1 < (w5.setCell ⟨w.heap.size + 1, 0, none⟩ (.bool (headOk d))).heap.size := by have := HSZ.out; simpa [World.setCell] using this
    generalize w5.setCell ⟨w.heap.size + 1, 0, none⟩ (.bool (headOk d)) = w6 at *
    have hcl0 : clkD d [] = ⟨x0, x1, x2, x3, []⟩ := by unfold clkD; rw [HXX.out]; rfl
    have HRL := Lib.hid (runD_ok (l.length + 1) (d.nums.getD 2 0) d.rest (headOk d) [] (RunI.nil _ _))
    obtain ⟨RU, hRU⟩ : ∃ RU, RU = runD (l.length + 1) (d.nums.getD 2 0) d.rest (headOk d) [] := ⟨_, rfl⟩
    rw [← hRU] at HDC HRL
    have HST := Lib.hid (show ∃ z, CdRel w w.heap.size (w.heap.size + 1) (w4.heap.size + 1) w4.heap.size l.length d RU w6 z from
      ⟨l.length + 1, d.rest, headOk d, [], by rw [hcl0]; exact HC6.out, hrest, by simp; omega, RunI.nil _ _, hRU.symm, fun _ => by omega⟩)
    have hb20 : w.heap.size ≤ w.heap.size + 1 := by omega
    have HLL := Lib.hid (show l.length ≤ 100000 from by omega)
    have hb4s := HB4.out.size
    clear hRU hcl0 HC6 hlt1 hlt2 hlt4 hgl hlen hrest HHD HCD HSZ HA1 HA2 HK4 HX1 HX2 HXX hsz6
    go_wp2
    go_loopw [10] (fun _ wr => ∃ z, CdRel w w.heap.size (w.heap.size + 1) (w4.heap.size + 1) w4.heap.size l.length d RU wr z) (fun _ wr => cdMs w.heap.size (w.heap.size + 1) wr)
    case atStart => exact HST.out
    case round =>
      obtain ⟨z, rest, ok, m, hat, hrl, hml2, hri, hrun, hz⟩ := hrel
      have HAT := Lib.hid hat; have HRI := Lib.hid hri; have HRUN := Lib.hid hrun
      obtain ⟨v1, v2, v2f, v3, v4, v5⟩ := hat.cells
      clear hat hri hrun HST
      cases ok
      · have HR1 := Lib.hid (show RU = (false, m) from by rw [← HRUN.out]; exact runD_stop _ _ _ _)
        have HF := Lib.hid (show ∀ q, CdOut w RR (.returned (.tuple #[.pointer none, .int .i64 2])) (wr.drewN q) from fun q => by
          rw [HDC.out, HR1.out]
          exact ⟨rfl, below_drewN HAT.out.bel q⟩)
        clear v1 v3 v4 v5
        go_wp2
        go_quiet (fail)
        go_wp2
        go_ret2
        exact HF.out _
      · have hz1 := hz rfl
        clear hz
        obtain ⟨z', rfl⟩ : ∃ z', z = z' + 1 := ⟨z - 1, by omega⟩
        by_cases hr0 : rest = []
        · subst hr0
          have HR1 := Lib.hid (show RU = (true, m) from by rw [← HRUN.out]; unfold runD; rfl)
          have hh1 : headOk d = true := HRL.out.2 (by rw [HR1.out])
          have hri2 : RunI (d.nums.getD 2 0) true m := HRI.out
          have HCO := Lib.hid (HCK.out m hh1 hri2)
          obtain ⟨c, hc⟩ : ∃ c, c = clkD d m := ⟨_, rfl⟩
          have HRR := Lib.hid (show RR = if (encC c == l) && markB c then some c else none from by rw [HDC.out, HR1.out, hc]; simp)
          rw [← hc] at HAT HCO
          have hcs : c.src = m := by rw [hc]; rfl
          have HCA := Lib.hid (show ∀ W, RowKit.Below wr.heap.size wr W → ClockAt W (w4.heap.size + 1) w4.heap.size c from fun W hW => ⟨(HAT.out.up hW).clk, (HAT.out.up hW).map, HCO.out⟩)
          have HEN := Lib.hid (show ∀ W, RowKit.Below wr.heap.size wr W → Calls Tryz.prog 45 #[.pointer (some ⟨w4.heap.size + 1, 0, none⟩)] W (CePost W (encC c)) from fun W hW =>
            clkenc_any W (w4.heap.size + 1) w4.heap.size c (HCA.out W hW) (by rw [hcs]; have := HLL.out; simp at hml2; omega) (tab_up HT.out (HAT.out.bel.trans (hW.mono HAT.out.bel.size))))
          have HSS := Lib.hid (show ∀ W, RowKit.Below wr.heap.size wr W → (convert 22 9 (.slice A n k)).run Tryz.prog W = .ok (.string ⟨l.toArray⟩) W ∧ W.cell? ⟨w.heap.size + 1, 0, none⟩ = some (.bool true) from fun W hW =>
            ⟨byt_str HB.out W (HAT.out.bel.trans (hW.mono HAT.out.bel.size)), (HAT.out.up hW).cells.2.1⟩)
          clear hc hcs hh1 hri2 v3 v4 v5 hml2 hrl
          go_upto_region 11 with fail
          clear v1 v2 v2f
          have HBD := Lib.hid (show RowKit.Below wr.heap.size wr wr.drew from below_drewN (Below.refl _ _) 1)
          refine wp_region_held_drew (S := fun W => (convert 22 9 (.slice A n k)).run Tryz.prog W = .ok (.string ⟨l.toArray⟩) W ∧ W.cell? ⟨w.heap.size + 1, 0, none⟩ = some (.bool true)) (by kernel_rfl) ?_ (fun hHeld => ?_)
          · exact HSS.out _ HBD.out
          refine tkY 0 108 rfl ?_
          refine tkY 1 109 rfl ?_
          refine tkY 2 110 rfl ?_
          refine tkY 3 111 rfl ?_
          refine tkY 6 114 rfl ?_
          refine tkY 7 115 rfl ?_
          refine wpAnyH_ready (rs := [4]) (by kernel_rfl) (by simp) ?_
          refine AllReadyH.cons (o := ⟨some 112, _, _, _, _, _⟩) rfl (fun K hK => ?_) AllReadyH.nil
          go_simp
          go_wp2_with ((go_at_call 45; (with_reducible refine (HEN.out _ HBD.out).mono ?_); rintro r9 w9 ⟨v9, rfl, ho9, hb9⟩; obtain ⟨A9, k9, hv9⟩ := ho9.form; subst hv9; have HB9 := Lib.hid (show RowKit.Below wr.heap.size wr w9 from HBD.out.trans hb9); have kc := ho9.byt.str (P := Tryz.prog) 22 5 9 Tryz.underlying22 Tryz.underlying5 Tryz.underlying9; clear ho9 hb9))
          refine hK.out _ _ ?_ (fun hHeld => ?_)
          · exact HSS.out _ HB9.out
          clear hK K
          refine wpAnyH_weak (S' := fun W => ((convert 22 9 (.slice A n k)).run Tryz.prog W = .ok (.string ⟨l.toArray⟩) W ∧ W.cell? ⟨w.heap.size + 1, 0, none⟩ = some (.bool true)) ∧ (convert 22 9 (.slice A9 (encC c).length k9)).run Tryz.prog W = .ok (.string ⟨(encC c).toArray⟩) W) (fun _ h => h.1) _ _ _ _ ?_
          have hHeld2 := And.intro hHeld kc
          refine tkY 5 113 rfl ?_
          refine tkY 8 116 rfl ?_
          refine tkY 9 117 rfl ?_
          refine wpAnyH_done (by kernel_rfl) ?_ _
          have HCB := Lib.hid (HCA.out w9 HB9.out)
          have HB9' := Lib.hid (HAT.out.bel.trans (HB9.out.mono HAT.out.bel.size))
          cases heq : (encC c == l)
          · have HF := Lib.hid (show CdOut w RR (.returned (.tuple #[.pointer none, .int .i64 2])) w9 from by
              rw [HRR.out, heq]
              exact ⟨rfl, HB9'.out⟩)
            have hne : ¬ encC c = l := by simpa using heq
            clear heq
            go_wp2
            go_ret2
            exact HF.out
          · have hee : encC c = l := by simpa using heq
            have HR3 := Lib.hid (show RR = if markB c then some c else none from by rw [HRR.out, heq]; simp)
            have HMB := Lib.hid (show markB c = match c.told with | none => true | some m => decide (m ≤ c.mark) from rfl)
            clear heq
            go_wp2_with fail
            with_reducible refine (told_any w9 _ _ c HCB.out).mono ?_
            rintro r w10 ⟨rfl, hb10⟩
            have HCC := Lib.hid (HCB.out.up hb10)
            have HB10 := Lib.hid (HB9'.out.trans (hb10.mono HB9'.out.size))
            have y3 := HCC.out.cells.c3
            clear hb10
            cases ht : c.told with
            | none =>
              have HF := Lib.hid (show CdOut w RR (.returned (.tuple #[.pointer (some ⟨w4.heap.size + 1, 0, none⟩), .int .i64 0])) w10 from by
                rw [HR3.out, HMB.out, ht]
                exact ⟨⟨_, _, rfl, HCC.out, by have := HLT.out; omega, by have := HLT.out; omega⟩, HB10.out⟩)
              simp only [Option.getD_none, Option.isSome_none]
              clear ht
              go_wp2
              go_ret2
              exact HF.out
            | some mk =>
              simp only [Option.getD_some, Option.isSome_some]
              by_cases hlt : c.mark < mk
              · have HF := Lib.hid (show CdOut w RR (.returned (.tuple #[.pointer none, .int .i64 2])) w10 from by
                  rw [HR3.out, HMB.out, ht]
                  simp only [show ¬ mk ≤ c.mark by omega, decide_false, Bool.false_eq_true, if_false]
                  exact ⟨rfl, HB10.out⟩)
                clear ht
                go_wp2
                go_ret2
                exact HF.out
              · have HF := Lib.hid (show CdOut w RR (.returned (.tuple #[.pointer (some ⟨w4.heap.size + 1, 0, none⟩), .int .i64 0])) w10 from by
                  rw [HR3.out, HMB.out, ht]
                  simp only [show mk ≤ c.mark by omega, decide_true, if_true]
                  exact ⟨⟨_, _, rfl, HCC.out, by have := HLT.out; omega, by have := HLT.out; omega⟩, HB10.out⟩)
                clear ht
                go_wp2
                go_ret2
                exact HF.out
        · have HS := Lib.hid (show runD z' (d.nums.getD 2 0) (lineD 2 rest true).rest (srcOk (d.nums.getD 2 0) (lineD 2 rest true)) (putB (lineD 2 rest true).word ((lineD 2 rest true).nums.getD 0 0, (lineD 2 rest true).nums.getD 1 0) m) = RU from by
            rw [← HRUN.out]
            have : (true && !rest.isEmpty) = true := by cases rest <;> simp_all
            conv => rhs; unfold runD
            rw [if_pos this])
          have HL2 := Lib.hid (ckline2_any wr w.heap.size (w.heap.size + 1) rest true HAT.out.rest_ HAT.out.ok_ (by have := HLL.out; omega) (HM.out.up HAT.out.bel) (HE.out.up HAT.out.bel) (fun b hb => by rcases hb with rfl | rfl <;> omega))
          have hdr := lineD_rest 2 rest true
          have HDR := Lib.hid hdr
          have hst := RunI.step HRI.out rest
          have HRI2 := Lib.hid hst
          obtain ⟨n0, n1, hnn⟩ : ∃ n0 n1, (lineD 2 rest true).nums = [n0, n1] := by
            have hl4 := lineD_len 2 rest true
            rcases hN : (lineD 2 rest true).nums with _ | ⟨x0, _ | ⟨x1, t⟩⟩ <;> rw [hN] at hl4 <;> simp at hl4
            subst hl4; exact ⟨x0, x1, rfl⟩
          have HWD := Lib.hid (lineD_word 2 rest true)
          have HSO := Lib.hid (show srcOk (d.nums.getD 2 0) (lineD 2 rest true) = ((lineD 2 rest true).ok && nameB (lineD 2 rest true).word && decide (0 ≤ n0) && decide (0 ≤ n1) && decide (n1 ≤ d.nums.getD 2 0)) from by unfold srcOk; rw [hnn]; rfl)
          rw [hnn] at HS HRI2
          simp only [List.getD_cons_zero, List.getD_cons_succ] at HS HRI2
          clear hdr hst
          generalize srcOk (d.nums.getD 2 0) (lineD 2 rest true) = so at *
          obtain ⟨D2, hD2⟩ : ∃ D2, D2 = lineD 2 rest true := ⟨_, rfl⟩
          rw [← hD2] at HL2 HDR HS HRI2 HSO HWD hnn
          have HNN := Lib.hid hnn
          clear hD2 hnn
          have t1 : rest.isEmpty = false := by cases rest <;> simp_all
          have t2 : (rest == []) = false := by cases rest <;> simp_all
          go_wp2_with fail
          with_reducible refine HL2.out.mono ?_
          rintro r w7 ⟨g2, rfl, ha1, ha2, hg2, hgl, hk7⟩
          rw [HNN.out] at hg2 ⊢
          have hlr := HAT.out.bel.size
          have hc7 : w7.heap[w4.heap.size + 1]? = _ := (hk7.block _ (heap_lt HAT.out.clk) (fun e => by have := HLT.out; rcases e with e | e <;> omega)).trans HAT.out.clk
          have hm7 : MapS w7 w4.heap.size (srcRow (clkD d m).src) := HAT.out.map.block (hk7.block _ HAT.out.map.lt (fun e => by have := HLT.out; rcases e with e | e <;> omega))
          have hb7 : RowKit.Below w.heap.size w w7 := HAT.out.bel.trans (hk7.below hlr fun b hb hg => by rcases hg with e | e <;> omega)
          have HC7 := Lib.hid (show CdAt w w7 w.heap.size (w.heap.size + 1) (w4.heap.size + 1) w4.heap.size D2.rest D2.ok (clkD d m) from ⟨ha1, ha2, hc7, hm7, hb7⟩)
          have HG2 := Lib.hid hg2
          have hg2b : w.heap.size + 1 < g2 := by have := heap_lt HAT.out.ok_; omega
          have HS9 := Lib.hid (show ∀ W, RowKit.Below w7.heap.size w7 W → W.cell? ⟨g2, 0, none⟩ = some (.int .i64 n0) ∧ W.cell? ⟨g2, 1, none⟩ = some (.int .i64 n1) ∧ W.cell? ⟨w4.heap.size + 1, 2, none⟩ = some (.int .i64 (d.nums.getD 2 0)) from fun W hW => by
            have h1 := (hW.block _ (heap_lt HG2.out)).trans HG2.out
            exact ⟨(cell_of_row W g2 0 _ _ (0, 0) h1).trans rfl, (cell_of_row W g2 1 _ _ (0, 0) h1).trans rfl, (HC7.out.up hW).cells.2.2.2.1⟩)
          have HS9B := Lib.hid (show ∀ W, RowKit.Below w7.heap.size w7 W → ∀ v, (W.setCell ⟨w.heap.size + 1, 0, none⟩ v).cell? ⟨g2, 0, none⟩ = some (.int .i64 n0) ∧ (W.setCell ⟨w.heap.size + 1, 0, none⟩ v).cell? ⟨g2, 1, none⟩ = some (.int .i64 n1) ∧ (W.setCell ⟨w.heap.size + 1, 0, none⟩ v).cell? ⟨w4.heap.size + 1, 2, none⟩ = some (.int .i64 (d.nums.getD 2 0)) from fun W hW v => by
            obtain ⟨h1, h2, h3⟩ := HS9.out W hW
            have := HLT.out
            refine ⟨?_, ?_, ?_⟩
            · rw [World.cell?_setCell_other _ _ _ _ (by intro e; injection e; omega)]; exact h1
            · rw [World.cell?_setCell_other _ _ _ _ (by intro e; injection e; omega)]; exact h2
            · rw [World.cell?_setCell_other _ _ _ _ (by intro e; injection e; omega)]; exact h3)
          clear ha1 ha2 hg2 hgl hk7 hc7 hm7 hb7 HL2 v1 v2 v2f v3 v4 v5 t1 t2
          have HFN := Lib.hid (show ∀ W, RowKit.Below w7.heap.size w7 W → ∀ v, CdAt w (W.setCell ⟨w.heap.size + 1, 0, none⟩ (.bool v)) w.heap.size (w.heap.size + 1) (w4.heap.size + 1) w4.heap.size D2.rest v (clkD d m) ∧ (W.setCell ⟨w.heap.size + 1, 0, none⟩ (.bool v)).heap[g2]? = some (.cells #[.int .i64 n0, .int .i64 n1] 3 (0, 0)) from fun W hW v =>
            ⟨(HC7.out.up hW).setOk (by omega) v, (Below.heap_setCell _ _ _ _ (by show g2 ≠ w.heap.size + 1; omega)).trans ((hW.block _ (heap_lt HG2.out)).trans HG2.out)⟩)
          have HFD := Lib.hid (show ∀ W, RowKit.Below w7.heap.size w7 W → ∀ v, CdAt w ((W.setCell ⟨w.heap.size + 1, 0, none⟩ (.bool v)).drew) w.heap.size (w.heap.size + 1) (w4.heap.size + 1) w4.heap.size D2.rest v (clkD d m) ∧ ((W.setCell ⟨w.heap.size + 1, 0, none⟩ (.bool v)).drew).heap[g2]? = some (.cells #[.int .i64 n0, .int .i64 n1] 3 (0, 0)) from fun W hW v =>
            ⟨(HFN.out W hW v).1.up (below_drewN (Below.refl _ _) 1), (HFN.out W hW v).2⟩)
          go_upto_region 9 with fail
          go_cut [] (fun wc => CdAt w wc w.heap.size (w.heap.size + 1) (w4.heap.size + 1) w4.heap.size D2.rest so (clkD d m) ∧ wc.heap[g2]? = some (.cells #[.int .i64 n0, .int .i64 n1] 3 (0, 0)))
          case first =>
            generalize D2.ok = dk at *
            generalize D2.word = wd at *
            have hx2 : w7.drew.cell? ⟨w.heap.size + 1, 0, none⟩ = some (.bool dk) := HC7.out.cells.2.1
            have HBD7 := Lib.hid (show RowKit.Below w7.heap.size w7 w7.drew from below_drewN (Below.refl _ _) 1)
            cases dk
            · have HSF := Lib.hid (show so = false from by rw [HSO.out]; rfl)
              refine wp_region_held_drew (S := fun W => W.cell? ⟨g2, 0, none⟩ = some (.int .i64 n0) ∧ W.cell? ⟨g2, 1, none⟩ = some (.int .i64 n1) ∧ W.cell? ⟨w4.heap.size + 1, 2, none⟩ = some (.int .i64 (d.nums.getD 2 0))) (by kernel_rfl) ?_ (fun hHeld => ?_)
              · exact HS9.out _ HBD7.out
              refine wpAnyH_ready (rs := [0]) (by kernel_rfl) (by simp) ?_
              refine AllReadyH.cons (o := ⟨some 69, _, _, _, _, _⟩) rfl (fun K hK => ?_) AllReadyH.nil
              go_simp
              go_wp2_with (fail)
              refine hK.out _ _ ?_ (fun hHeld => ?_)
              · exact HS9.out _ HBD7.out
              clear hK K
              refine tkY 1 70 rfl ?_
              refine tkN 2 71 rfl ?_
              refine tkN 3 72 rfl ?_
              refine tkY 4 73 rfl ?_
              refine tkY 5 74 rfl ?_
              refine tkN 6 75 rfl ?_
              refine tkN 7 76 rfl ?_
              refine tkN 8 77 rfl ?_
              refine tkN 9 78 rfl ?_
              refine tkY 10 79 rfl ?_
              refine tkY 11 80 rfl ?_
              refine tkN 12 81 rfl ?_
              refine tkN 13 82 rfl ?_
              refine tkN 14 83 rfl ?_
              refine tkN 15 84 rfl ?_
              refine tkY 16 85 rfl ?_
              refine tkY 17 86 rfl ?_
              refine tkN 18 87 rfl ?_
              refine tkN 19 88 rfl ?_
              refine tkN 20 89 rfl ?_
              refine tkN 21 90 rfl ?_
              refine tkN 22 91 rfl ?_
              refine tkN 23 92 rfl ?_
              refine tkN 24 93 rfl ?_
              refine tkN 25 94 rfl ?_
              refine tkY 26 95 rfl ?_
              have HBW := HBD7
              obtain ⟨q1, q2, q2f, _, _, _⟩ := (HC7.out.up HBW.out).cells
              refine wpAnyH_ready (rs := [27]) (by kernel_rfl) (by simp) ?_
              refine AllReadyH.cons (o := ⟨none, _, _, _, _, _⟩) rfl (fun K hK => ?_) AllReadyH.nil
              go_simp
              go_wp2_with (fail)
              refine hK.out _ _ ?_ (fun hHeld => ?_)
              · exact HS9B.out _ HBW.out _
              clear hK K
              refine wpAnyH_done (by kernel_rfl) ?_ _
              go_wp2_with fail
              go_meet
              rw [HSF.out]
              exact HFD.out w7 (Below.refl _ _) false
            · cases hnmb : nameB wd
              · have HNM := Lib.hid hnmb
                have HSF := Lib.hid (show so = false from by rw [HSO.out, hnmb]; rfl)
                clear hnmb
                refine wp_region_held_drew (S := fun W => W.cell? ⟨g2, 0, none⟩ = some (.int .i64 n0) ∧ W.cell? ⟨g2, 1, none⟩ = some (.int .i64 n1) ∧ W.cell? ⟨w4.heap.size + 1, 2, none⟩ = some (.int .i64 (d.nums.getD 2 0))) (by kernel_rfl) ?_ (fun hHeld => ?_)
                · exact HS9.out _ HBD7.out
                refine wpAnyH_ready (rs := [0]) (by kernel_rfl) (by simp) ?_
                refine AllReadyH.cons (o := ⟨some 69, _, _, _, _, _⟩) rfl (fun K hK => ?_) AllReadyH.nil
                go_simp
                go_wp2_with (fail)
                refine hK.out _ _ ?_ (fun hHeld => ?_)
                · exact HS9.out _ HBD7.out
                clear hK K
                refine tkY 1 70 rfl ?_
                refine tkY 2 71 rfl ?_
                refine wpAnyH_ready (rs := [3]) (by kernel_rfl) (by simp) ?_
                refine AllReadyH.cons (o := ⟨some 72, _, _, _, _, _⟩) rfl (fun K hK => ?_) AllReadyH.nil
                go_simp
                go_wp2_with ((go_at_call 69; (with_reducible refine (cname_any _ wd).mono ?_); rintro r9 w9 ⟨rfl, hb9⟩; have HB9 := Lib.hid (show RowKit.Below w7.heap.size w7 w9 from HBD7.out.trans hb9); clear hb9; rw [HNM.out]))
                refine hK.out _ _ ?_ (fun hHeld => ?_)
                · exact HS9.out _ HB9.out
                clear hK K
                refine tkY 4 73 rfl ?_
                refine tkY 5 74 rfl ?_
                refine tkN 6 75 rfl ?_
                refine tkN 7 76 rfl ?_
                refine tkN 8 77 rfl ?_
                refine tkN 9 78 rfl ?_
                refine tkY 10 79 rfl ?_
                refine tkY 11 80 rfl ?_
                refine tkN 12 81 rfl ?_
                refine tkN 13 82 rfl ?_
                refine tkN 14 83 rfl ?_
                refine tkN 15 84 rfl ?_
                refine tkY 16 85 rfl ?_
                refine tkY 17 86 rfl ?_
                refine tkN 18 87 rfl ?_
                refine tkN 19 88 rfl ?_
                refine tkN 20 89 rfl ?_
                refine tkN 21 90 rfl ?_
                refine tkN 22 91 rfl ?_
                refine tkN 23 92 rfl ?_
                refine tkN 24 93 rfl ?_
                refine tkN 25 94 rfl ?_
                refine tkY 26 95 rfl ?_
                have HBW := Lib.hid HB9.out
                obtain ⟨q1, q2, q2f, _, _, _⟩ := (HC7.out.up HBW.out).cells
                refine wpAnyH_ready (rs := [27]) (by kernel_rfl) (by simp) ?_
                refine AllReadyH.cons (o := ⟨none, _, _, _, _, _⟩) rfl (fun K hK => ?_) AllReadyH.nil
                go_simp
                go_wp2_with (fail)
                refine hK.out _ _ ?_ (fun hHeld => ?_)
                · exact HS9B.out _ HBW.out _
                clear hK K
                refine wpAnyH_done (by kernel_rfl) ?_ _
                go_wp2_with fail
                go_meet
                rw [HSF.out]
                first | exact HFN.out w9 HBW.out false | exact HFD.out w9 HBW.out false
              · have HNM := Lib.hid hnmb
                by_cases h0 : 0 ≤ n0
                · have h0d : decide (0 ≤ n0) = true := decide_eq_true h0
                  by_cases h1 : 0 ≤ n1
                  · have h1d : decide (0 ≤ n1) = true := decide_eq_true h1
                    have HSF := Lib.hid (show so = decide (n1 ≤ d.nums.getD 2 0) from by rw [HSO.out, hnmb, h0d, h1d]; rfl)
                    clear hnmb
                    refine wp_region_held_drew (S := fun W => W.cell? ⟨g2, 0, none⟩ = some (.int .i64 n0) ∧ W.cell? ⟨g2, 1, none⟩ = some (.int .i64 n1) ∧ W.cell? ⟨w4.heap.size + 1, 2, none⟩ = some (.int .i64 (d.nums.getD 2 0))) (by kernel_rfl) ?_ (fun hHeld => ?_)
                    · exact HS9.out _ HBD7.out
                    refine wpAnyH_ready (rs := [0]) (by kernel_rfl) (by simp) ?_
                    refine AllReadyH.cons (o := ⟨some 69, _, _, _, _, _⟩) rfl (fun K hK => ?_) AllReadyH.nil
                    go_simp
                    go_wp2_with (fail)
                    refine hK.out _ _ ?_ (fun hHeld => ?_)
                    · exact HS9.out _ HBD7.out
                    clear hK K
                    refine tkY 1 70 rfl ?_
                    refine tkY 2 71 rfl ?_
                    refine wpAnyH_ready (rs := [3]) (by kernel_rfl) (by simp) ?_
                    refine AllReadyH.cons (o := ⟨some 72, _, _, _, _, _⟩) rfl (fun K hK => ?_) AllReadyH.nil
                    go_simp
                    go_wp2_with ((go_at_call 69; (with_reducible refine (cname_any _ wd).mono ?_); rintro r9 w9 ⟨rfl, hb9⟩; have HB9 := Lib.hid (show RowKit.Below w7.heap.size w7 w9 from HBD7.out.trans hb9); clear hb9; rw [HNM.out]))
                    refine hK.out _ _ ?_ (fun hHeld => ?_)
                    · exact HS9.out _ HB9.out
                    clear hK K
                    refine tkY 4 73 rfl ?_
                    refine tkY 5 74 rfl ?_
                    refine tkY 6 75 rfl ?_
                    refine tkY 7 76 rfl ?_
                    refine tkY 8 77 rfl ?_
                    refine tkY 9 78 rfl ?_
                    refine tkY 10 79 rfl ?_
                    refine tkY 11 80 rfl ?_
                    refine tkY 12 81 rfl ?_
                    refine tkY 13 82 rfl ?_
                    refine tkY 14 83 rfl ?_
                    refine tkY 15 84 rfl ?_
                    refine tkY 16 85 rfl ?_
                    refine tkY 17 86 rfl ?_
                    refine tkY 18 87 rfl ?_
                    refine tkY 19 88 rfl ?_
                    refine tkY 20 89 rfl ?_
                    refine tkY 21 90 rfl ?_
                    refine tkY 22 91 rfl ?_
                    refine tkY 23 92 rfl ?_
                    refine tkY 24 93 rfl ?_
                    refine tkY 25 94 rfl ?_
                    refine tkY 26 95 rfl ?_
                    have HBW := Lib.hid HB9.out
                    obtain ⟨q1, q2, q2f, _, _, _⟩ := (HC7.out.up HBW.out).cells
                    refine wpAnyH_ready (rs := [27]) (by kernel_rfl) (by simp) ?_
                    refine AllReadyH.cons (o := ⟨none, _, _, _, _, _⟩) rfl (fun K hK => ?_) AllReadyH.nil
                    go_simp
                    go_wp2_with (fail)
                    refine hK.out _ _ ?_ (fun hHeld => ?_)
                    · exact HS9B.out _ HBW.out _
                    clear hK K
                    refine wpAnyH_done (by kernel_rfl) ?_ _
                    go_wp2_with fail
                    go_meet
                    rw [HSF.out]
                    first | exact HFN.out w9 HBW.out _ | exact HFD.out w9 HBW.out _
                  · have h1d : decide (0 ≤ n1) = false := decide_eq_false h1
                    have HSF := Lib.hid (show so = false from by rw [HSO.out, hnmb, h0d, h1d]; rfl)
                    clear hnmb
                    refine wp_region_held_drew (S := fun W => W.cell? ⟨g2, 0, none⟩ = some (.int .i64 n0) ∧ W.cell? ⟨g2, 1, none⟩ = some (.int .i64 n1) ∧ W.cell? ⟨w4.heap.size + 1, 2, none⟩ = some (.int .i64 (d.nums.getD 2 0))) (by kernel_rfl) ?_ (fun hHeld => ?_)
                    · exact HS9.out _ HBD7.out
                    refine wpAnyH_ready (rs := [0]) (by kernel_rfl) (by simp) ?_
                    refine AllReadyH.cons (o := ⟨some 69, _, _, _, _, _⟩) rfl (fun K hK => ?_) AllReadyH.nil
                    go_simp
                    go_wp2_with (fail)
                    refine hK.out _ _ ?_ (fun hHeld => ?_)
                    · exact HS9.out _ HBD7.out
                    clear hK K
                    refine tkY 1 70 rfl ?_
                    refine tkY 2 71 rfl ?_
                    refine wpAnyH_ready (rs := [3]) (by kernel_rfl) (by simp) ?_
                    refine AllReadyH.cons (o := ⟨some 72, _, _, _, _, _⟩) rfl (fun K hK => ?_) AllReadyH.nil
                    go_simp
                    go_wp2_with ((go_at_call 69; (with_reducible refine (cname_any _ wd).mono ?_); rintro r9 w9 ⟨rfl, hb9⟩; have HB9 := Lib.hid (show RowKit.Below w7.heap.size w7 w9 from HBD7.out.trans hb9); clear hb9; rw [HNM.out]))
                    refine hK.out _ _ ?_ (fun hHeld => ?_)
                    · exact HS9.out _ HB9.out
                    clear hK K
                    refine tkY 4 73 rfl ?_
                    refine tkY 5 74 rfl ?_
                    refine tkY 6 75 rfl ?_
                    refine tkY 7 76 rfl ?_
                    refine tkY 8 77 rfl ?_
                    refine tkY 9 78 rfl ?_
                    refine tkY 10 79 rfl ?_
                    refine tkY 11 80 rfl ?_
                    refine tkY 12 81 rfl ?_
                    refine tkY 13 82 rfl ?_
                    refine tkY 14 83 rfl ?_
                    refine tkY 15 84 rfl ?_
                    refine tkY 16 85 rfl ?_
                    refine tkY 17 86 rfl ?_
                    refine tkN 18 87 rfl ?_
                    refine tkN 19 88 rfl ?_
                    refine tkN 20 89 rfl ?_
                    refine tkN 21 90 rfl ?_
                    refine tkN 22 91 rfl ?_
                    refine tkN 23 92 rfl ?_
                    refine tkN 24 93 rfl ?_
                    refine tkN 25 94 rfl ?_
                    refine tkY 26 95 rfl ?_
                    have HBW := Lib.hid HB9.out
                    obtain ⟨q1, q2, q2f, _, _, _⟩ := (HC7.out.up HBW.out).cells
                    refine wpAnyH_ready (rs := [27]) (by kernel_rfl) (by simp) ?_
                    refine AllReadyH.cons (o := ⟨none, _, _, _, _, _⟩) rfl (fun K hK => ?_) AllReadyH.nil
                    go_simp
                    go_wp2_with (fail)
                    refine hK.out _ _ ?_ (fun hHeld => ?_)
                    · exact HS9B.out _ HBW.out _
                    clear hK K
                    refine wpAnyH_done (by kernel_rfl) ?_ _
                    go_wp2_with fail
                    go_meet
                    rw [HSF.out]
                    first | exact HFN.out w9 HBW.out false | exact HFD.out w9 HBW.out false
                · have h0d : decide (0 ≤ n0) = false := decide_eq_false h0
                  have HSF := Lib.hid (show so = false from by rw [HSO.out, hnmb, h0d]; rfl)
                  clear hnmb
                  refine wp_region_held_drew (S := fun W => W.cell? ⟨g2, 0, none⟩ = some (.int .i64 n0) ∧ W.cell? ⟨g2, 1, none⟩ = some (.int .i64 n1) ∧ W.cell? ⟨w4.heap.size + 1, 2, none⟩ = some (.int .i64 (d.nums.getD 2 0))) (by kernel_rfl) ?_ (fun hHeld => ?_)
                  · exact HS9.out _ HBD7.out
                  refine wpAnyH_ready (rs := [0]) (by kernel_rfl) (by simp) ?_
                  refine AllReadyH.cons (o := ⟨some 69, _, _, _, _, _⟩) rfl (fun K hK => ?_) AllReadyH.nil
                  go_simp
                  go_wp2_with (fail)
                  refine hK.out _ _ ?_ (fun hHeld => ?_)
                  · exact HS9.out _ HBD7.out
                  clear hK K
                  refine tkY 1 70 rfl ?_
                  refine tkY 2 71 rfl ?_
                  refine wpAnyH_ready (rs := [3]) (by kernel_rfl) (by simp) ?_
                  refine AllReadyH.cons (o := ⟨some 72, _, _, _, _, _⟩) rfl (fun K hK => ?_) AllReadyH.nil
                  go_simp
                  go_wp2_with ((go_at_call 69; (with_reducible refine (cname_any _ wd).mono ?_); rintro r9 w9 ⟨rfl, hb9⟩; have HB9 := Lib.hid (show RowKit.Below w7.heap.size w7 w9 from HBD7.out.trans hb9); clear hb9; rw [HNM.out]))
                  refine hK.out _ _ ?_ (fun hHeld => ?_)
                  · exact HS9.out _ HB9.out
                  clear hK K
                  refine tkY 4 73 rfl ?_
                  refine tkY 5 74 rfl ?_
                  refine tkY 6 75 rfl ?_
                  refine tkY 7 76 rfl ?_
                  refine tkY 8 77 rfl ?_
                  refine tkY 9 78 rfl ?_
                  refine tkY 10 79 rfl ?_
                  refine tkY 11 80 rfl ?_
                  refine tkN 12 81 rfl ?_
                  refine tkN 13 82 rfl ?_
                  refine tkN 14 83 rfl ?_
                  refine tkN 15 84 rfl ?_
                  refine tkY 16 85 rfl ?_
                  refine tkY 17 86 rfl ?_
                  refine tkN 18 87 rfl ?_
                  refine tkN 19 88 rfl ?_
                  refine tkN 20 89 rfl ?_
                  refine tkN 21 90 rfl ?_
                  refine tkN 22 91 rfl ?_
                  refine tkN 23 92 rfl ?_
                  refine tkN 24 93 rfl ?_
                  refine tkN 25 94 rfl ?_
                  refine tkY 26 95 rfl ?_
                  have HBW := Lib.hid HB9.out
                  obtain ⟨q1, q2, q2f, _, _, _⟩ := (HC7.out.up HBW.out).cells
                  refine wpAnyH_ready (rs := [27]) (by kernel_rfl) (by simp) ?_
                  refine AllReadyH.cons (o := ⟨none, _, _, _, _, _⟩) rfl (fun K hK => ?_) AllReadyH.nil
                  go_simp
                  go_wp2_with (fail)
                  refine hK.out _ _ ?_ (fun hHeld => ?_)
                  · exact HS9B.out _ HBW.out _
                  clear hK K
                  refine wpAnyH_done (by kernel_rfl) ?_ _
                  go_wp2_with fail
                  go_meet
                  rw [HSF.out]
                  first | exact HFN.out w9 HBW.out false | exact HFD.out w9 HBW.out false
          case rest =>
            obtain ⟨hat8, hg8⟩ := hcut
            have HAT8 := Lib.hid hat8; have HG8 := Lib.hid hg8
            clear hat8 hg8 HFN HFD HS9 HS9B
            obtain ⟨_, _, _, _, _, v5⟩ := HAT8.out.cells
            have g0 : wc.cell? ⟨g2, 0, none⟩ = some (.int .i64 n0) := (cell_of_row wc g2 0 _ _ (0, 0) HG8.out).trans rfl
            have g1 : wc.cell? ⟨g2, 1, none⟩ = some (.int .i64 n1) := (cell_of_row wc g2 1 _ _ (0, 0) HG8.out).trans rfl
            have hwd := HWD.out
            have hll := HLL.out
            have HAT9 := Lib.hid (show CdAt w (wc.drewN 1) w.heap.size (w.heap.size + 1) (w4.heap.size + 1) w4.heap.size D2.rest so (clkD d m) from HAT8.out.up (below_drewN (Below.refl _ _) 1))
            have HMP := Lib.hid (show MapS (wc.drewN 1) w4.heap.size (srcRow m) from HAT9.out.map)
            have hmll : m.length ≤ 100001 := by simp only [if_true] at hml2; omega
            go_wp2
            go_still_tail 12, (by kernel_rfl)
            change wpList _ _ _ _ _ (wc.drewN 1)
            refine wpList_mapS_put rfl (.tmp 99) (.tmp 100) (.tmp 107) 104 127 rfl Tryz.underlying104 w4.heap.size (srcRow m) rfl HMP.out (by unfold maxLen srcRow; simp; omega) D2.word rfl (by unfold maxLen; omega) _ rfl ?_
            intro w8 hm8 hg8
            have HAT10 := Lib.hid (show CdAt w w8 w.heap.size (w.heap.size + 1) (w4.heap.size + 1) w4.heap.size D2.rest so (clkD d (putB D2.word (n0, n1) m)) from by
              have hk : ∀ b, b < (wc.drewN 1).heap.size → b ≠ w4.heap.size → w8.heap[b]? = (wc.drewN 1).heap[b]? := fun b hb hne => hg8.block b hb (fun e => hne (by injection e))
              have hl4 := HLT.out
              refine ⟨(hk _ (heap_lt HAT9.out.rest_) (by omega)).trans HAT9.out.rest_, (hk _ (heap_lt HAT9.out.ok_) (by omega)).trans HAT9.out.ok_, (hk _ (heap_lt HAT9.out.clk) (by omega)).trans HAT9.out.clk, ?_, Below.grown HAT9.out.bel hg8 HAT9.out.bel.size (fun k' hk' => by injection hk' with hk'; omega)⟩
              have hrow : putB D2.word (Value.agg #[Value.int IntKind.i64 n0, Value.int IntKind.i64 n1]) (srcRow m) = srcRow (putB D2.word (n0, n1) m) := (putB_map encSrc D2.word (n0, n1) m).symm
              show MapS w8 w4.heap.size (srcRow (putB D2.word (n0, n1) m))
              rw [← hrow]
              exact hm8)
            have hpl := putB_length_le m D2.word (n0, n1)
            have hdr1 := HDR.out.1
            have HDX := Lib.hid (show so = true → D2.rest.length < rest.length from fun h => by
              rw [HSO.out] at h
              simp only [Bool.and_eq_true] at h
              exact (HDR.out.2 h.1.1.1.1).1)
            have HREL := Lib.hid (show ∃ z, CdRel w w.heap.size (w.heap.size + 1) (w4.heap.size + 1) w4.heap.size l.length d RU w8 z from
              ⟨z', D2.rest, so, putB D2.word (n0, n1) m, HAT10.out, by omega, by
                simp only [if_true] at hml2
                cases so
                · simp only [Bool.false_eq_true, if_false]; omega
                · have := HDX.out rfl; simp only [if_true]; omega, HRI2.out, HS.out, fun h => by have := HDX.out h; omega⟩)
            have HMS := Lib.hid (show cdMs w.heap.size (w.heap.size + 1) w8 < cdMs w.heap.size (w.heap.size + 1) wr from by
              rw [HAT10.out.ms, HAT.out.ms]
              cases so
              · simp; omega
              · have := HDX.out rfl; simp; omega)
            clear hm8 hg8 g0 g1 v5
            go_wp2
            go_roundw
            case rel => first | exact HREL.out | ((repeat apply Exists.intro); exact ⟨HREL.out, rfl⟩)
            case measure => exact HMS.out
end Go.Proofs.YtdjoaboalknlkaaGreatDoor
