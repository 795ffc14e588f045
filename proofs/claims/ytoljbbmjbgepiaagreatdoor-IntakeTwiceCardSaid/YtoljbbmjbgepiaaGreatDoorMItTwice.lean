/-
  The law IntakeTwice, walked.
-/
import Derived.Test.YtoljbbmjbgepiaaGreatDoorMGrown2
namespace Go.Proofs.YtoljbbmjbgepiaaGreatDoor
open Go.RowKit Go.Maps Go.Sort Go.Shelf

def TcRel (w : World) (bi bm bc n0 : Nat) (S : Nat → Prop) (x : Itk) (i : Value) (wr : World) : Prop := ∃ (k : Nat) (F : Nat → Prop), i = .int .i64 k ∧ k ≤ x.taken.length ∧ BothN w w.heap.size F bi bm bc S (n0 + 6 * k) x wr


set_option maxRecDepth 100000 in
set_option maxHeartbeats 4000000 in
theorem twice_any (w : World) (slack idle : Int) (A : Option Addr) (n c : Nat) (ds : List Dd) (h : Dds w w.heap.size A n c ds) (hn : n ≤ 140737488355328) (hkd : ∀ d ∈ ds, 0 ≤ d.kind ∧ d.kind ≤ 255) (other : Int) (hmx : MaxAt w) :
    Calls Tryz.prog 6 #[.int .i64 slack, .int .i64 idle, .slice A n c, .int .i64 other] w (Says true w) := by
  have HH := Lib.hid h; clear h
  have HKD := Lib.hid hkd; clear hkd
  have HMX := Lib.hid hmx
  have hmlt := hmx.lt
  clear hmx
  go_enter Tryz.func6, Tryz.ntmps6
  go_wp2_with fail
  refine (lives_any w HMX.out).mono ?_
  rintro r w1 ⟨rfl, hb1⟩
  have hs1 := hb1.size
  have hHH1 : Dds w1 w1.heap.size A n c ds := Cel.more (Cel.below HH.out hb1) hs1
  go_wp2_with fail
  refine (heavy_any w1 A n c ds hHH1 hn 20).mono ?_
  rintro r w2 ⟨rfl, hb2⟩
  have hbw2 : Below w.heap.size w w2 := hb1.trans (hb2.mono hs1)
  clear hb2 hb1 hHH1
  cases hhv : heavyB ds 20
  case true =>
    clear hhv
    go_wp2
    go_ret
    exact ⟨rfl, hbw2⟩
  obtain ⟨hl, hsm⟩ := heavy_smallN (m := 20) hhv
  have HSM := Lib.hid hsm
  have hlen := HH.out.len
  have hn20 : n ≤ 20 := by omega
  have HH2 := Lib.hid (show Dds w2 w2.heap.size A n c ds from Cel.more (Cel.below HH.out hbw2) hbw2.size)
  clear hhv hsm hlen hl
  by_cases ho0 : other < 0
  · go_wp2
    go_ret
    exact ⟨rfl, hbw2⟩
  by_cases ho1 : 1099511627776 < other
  · go_wp2
    go_ret
    exact ⟨rfl, hbw2⟩
  go_wp2_with fail
  refine (grown_any w2 slack idle A n c ds HH2.out (by omega) HSM.out HKD.out (HMX.out.up hbw2)).mono ?_
  rintro r w3 ⟨F3, S, bi, bm, bc, rfl, hB⟩
  have HPI := Lib.hid (PlayInv.grown slack idle ds)
  have HSI := Lib.hid (small_grown slack idle ds HSM.out)
  generalize Itk.grown slack idle ds = x at *
  have hs2 := hbw2.size
  have htl : x.taken.length ≤ 3 * n := hB.both.ref.tl
  have HB3 := Lib.hid (show TcRel w2 bi bm bc (3 * n) S x (.int .i64 ((0 : Nat) : Int)) w3 from ⟨0, F3, rfl, Nat.zero_le _, hB⟩)
  clear hB HH2 HH HSM HKD
  go_wp2
  go_loopw [12] (fun i wr => TcRel w2 bi bm bc (3 * n) S x i wr) (fun i _ => x.taken.length - (intOf i).toNat)
  case atStart => exact HB3.out
  case round =>
    obtain ⟨k, F, rfl, hk, hB⟩ := hrel
    have HB := Lib.hid hB
    have hbm := hB.both.ref.lt; have hbc := hB.both.ref.clk.lt
    have hbel := hB.bel
    obtain ⟨vh, vt, vl, vg, hic, hp, _⟩ := hB.both.ref.cells
    obtain ⟨At, ct, rfl, het, _⟩ := hp.taken
    obtain ⟨Ag, cg, gs, rfl, hgs, _, hgr, hgl⟩ := hp.gone
    obtain ⟨c0, c1, c2, c3, c4⟩ := hic
    have HGS := Lib.hid hgs; have HGR := Lib.hid hgr
    have HC := Lib.hid (show wr.cell? ⟨bm, 0, none⟩ = some (.pointer (some ⟨bc, 0, none⟩)) ∧ wr.cell? ⟨bm, 4, none⟩ = some (.slice Ag gs.length cg) from ⟨c0, c4⟩)
    clear hB hp hgs hgr
    by_cases hkn : k < x.taken.length
    · obtain ⟨b, off, rfl, hb, hev⟩ := het.ev k hkn
      have hmem : x.taken[k] ∈ x.taken := List.getElem_mem hkn
      have HTW := Lib.hid (HPI.out.twice (by omega) hmem)
      have HTA := Lib.hid (HPI.out.twice_at (by omega) hmem (o := other) (by omega) (by omega))
      have HSY := Lib.hid (HPI.out.inv.stay _ (.inl hmem))
      have HSE := Lib.hid (HSI.out.taken _ hmem)
      obtain ⟨e0, e1, e2, e3, e4, e5, e6, e7⟩ := hev
      have t1 : (k : Int) < x.taken.length := by omega
      generalize x.taken[k] = y at *
      clear c0 c1 c3 c4 hmem het
      have HE4 := Lib.hid (EvB.new wr y)
      have hb4 : Below wr.heap.size wr (wr.alloc (evObj y)) := (Below.refl _ _).alloc (Nat.le_refl _) _
      have hs4 : (wr.alloc (evObj y)).heap.size = wr.heap.size + 1 := by simp
      have HB4 := Lib.hid (HB.out.up hb4)
      have HGS4 := Lib.hid (strs_below HGS.out hb4)
      have hc4 : (wr.alloc (evObj y)).cell? ⟨bm, 4, none⟩ = some (.slice Ag gs.length cg) := (hb4.cell (p := ⟨bm, 4, none⟩) hbm).trans HC.out.2
      have HC4 := Lib.hid hc4
      have HOF := Lib.hid (HB.out.offNew (Nat.le_refl _))
      clear hc4 hb4 HB HC HGS
      go_upto_region 12 with fail
      generalize wr.alloc (evObj y) = w4 at *
      clear e0 e1 e2 e3 e4 e5 e6 e7 c2
      obtain ⟨e0, e1, e2, e3, e4, e5, e6, e7⟩ := HE4.out.in_
      have hc4 := HC4.out
      cases hin : decide (y.per ∈ gs)
      · go_wp2
        go_quiet ((go_at_call 29; exact Calls.quiet_of_same (rin_same _ _ _ _ _ gs (HGS4.out.drewN _) (by omega) y.per hin)))
        have HB5 := Lib.hid (HB4.out.up (w2 := w4.drewN nq) (below_drewN (Below.refl _ _) nq))
        have HE5 := Lib.hid (HE4.out.up (w' := w4.drewN nq) (below_drewN (Below.refl _ _) nq))
        have hs5 : (w4.drewN nq).heap.size = w4.heap.size := rfl
        clear e0 e1 e2 e3 e4 e5 e6 e7 hc4 hin HB4 HE4 HGS4 HC4 HSY HGR
        generalize w4.drewN nq = w5 at *
        obtain ⟨e0, e1, e2, e3, e4, e5, e6, e7⟩ := HE5.out.in_
        go_wp2_with fail
        refine (offer_any w5 F bi (3 * n + 6 * k) x HB5.out.both.itk (by omega) y HSE.out 0 ((HMX.out.up hbw2).up HB5.out.bel) (fun hf => by have := HB5.out.newF _ hf; omega)).mono ?_
        rintro r w6 ⟨rfl, hd6⟩
        rw [HTW.out.1.1] at hd6
        rw [HTW.out.1.2]
        obtain ⟨F6, hB6, hk6, hF6⟩ := HB5.out.own2 (M := 3 * n + 6 * k + 2) (by omega) hd6
        have HB6 := Lib.hid hB6
        have HE6 := Lib.hid (HE5.out.keep hk6 HOF.out.1)
        have HOF6 := Lib.hid (HOF.out.next hF6 HE5.out.lt)
        clear hd6 hB6 hk6 hF6 e0 e1 e2 e3 e4 e5 e6 e7 HB5 HE5 HOF
        obtain ⟨e0, e1, e2, e3, e4, e5, e6, e7⟩ := HE6.out.in_
        go_wp2_with fail
        refine (admit_any w6 F6 bi (3 * n + 6 * k + 2) x HB6.out.both.itk (by omega) y HSE.out ((HMX.out.up hbw2).up HB6.out.bel)).mono ?_
        rintro r w7 ⟨rfl, hd7⟩
        rw [HTW.out.2.1] at hd7
        rw [HTW.out.2.2]
        obtain ⟨F7, hB7, hk7, hF7⟩ := HB6.out.own2 (M := 3 * n + 6 * k + 4) (by omega) hd7
        have HB7 := Lib.hid hB7
        have HE7 := Lib.hid (HE6.out.keep hk7 HOF6.out.1)
        have HOF7 := Lib.hid (HOF6.out.next hF7 HE6.out.lt)
        clear hd7 hB7 hk7 hF7 e0 e1 e2 e3 e4 e5 e6 e7 HB6 HE6 HOF6
        obtain ⟨e0, e1, e2, e3, e4, e5, e6, e7⟩ := HE7.out.in_
        have hfz := HE7.out.frozen 2
        have HB8 := Lib.hid (HB7.out.set 2 (.int .i64 other) HOF7.out (by have := hbel.size; omega))
        have HE8 := Lib.hid (HE7.out.setAt other)
        go_upto_region 17 with fail
        clear e0 e1 e2 e3 e4 e5 e6 e7 hfz HB7 HE7
        generalize w7.setCell ⟨wr.heap.size, 2, none⟩ (.int .i64 other) = w8 at *
        have HSE' := Lib.hid (show ({ y with at_ := other } : Ev).small from HSE.out)
        generalize ({ y with at_ := other } : Ev) = y' at *
        obtain ⟨e0, e1, e2, e3, e4, e5, e6, e7⟩ := HE8.out.in_
        go_wp2_with fail
        refine (offer_any w8 F7 bi (3 * n + 6 * k + 4) x HB8.out.both.itk (by omega) y' HSE'.out 0 ((HMX.out.up hbw2).up HB8.out.bel) (fun hf => by have := HB8.out.newF _ hf; omega)).mono ?_
        rintro r w9 ⟨rfl, hd9⟩
        rw [HTA.out.1] at hd9
        rw [HTA.out.2]
        obtain ⟨F9, hB9, hk9, hF9⟩ := HB8.out.own2 (M := 3 * n + 6 * k + 4 + 2) (by omega) hd9
        have HREL := Lib.hid (show TcRel w2 bi bm bc (3 * n) S x (.int .i64 ((k + 1 : Nat) : Int)) w9 from ⟨k + 1, F9, rfl, hkn, by rw [show 3 * n + 6 * (k + 1) = 3 * n + 6 * k + 4 + 2 by omega]; exact hB9⟩)
        clear hd9 hB9 hk9 hF9 e0 e1 e2 e3 e4 e5 e6 e7
        go_wp2
        go_roundw
        case rel => exact HREL.out
        case measure => simp [intOf]; omega
      · have hkd : y.kind = 14 := HSY.out ((HGR.out.2 _).1 (of_decide_eq_true hin))
        have k14 : (y.kind != 14) = false := by simp [hkd]
        have k15 : (y.kind == 14) = true := by simp [hkd]
        clear hkd
        go_wp2
        go_quiet ((go_at_call 29; exact Calls.quiet_of_same (rin_same _ _ _ _ _ gs (HGS4.out.drewN _) (by omega) y.per hin)))
        clear k14 k15
        have HB5 := Lib.hid (HB4.out.up (w2 := w4.drewN nq) (below_drewN (Below.refl _ _) nq))
        have HE5 := Lib.hid (HE4.out.up (w' := w4.drewN nq) (below_drewN (Below.refl _ _) nq))
        have hs5 : (w4.drewN nq).heap.size = w4.heap.size := rfl
        clear e0 e1 e2 e3 e4 e5 e6 e7 hc4 hin HB4 HE4 HGS4 HC4 HSY HGR
        generalize w4.drewN nq = w5 at *
        obtain ⟨e0, e1, e2, e3, e4, e5, e6, e7⟩ := HE5.out.in_
        go_wp2_with fail
        refine (offer_any w5 F bi (3 * n + 6 * k) x HB5.out.both.itk (by omega) y HSE.out 0 ((HMX.out.up hbw2).up HB5.out.bel) (fun hf => by have := HB5.out.newF _ hf; omega)).mono ?_
        rintro r w6 ⟨rfl, hd6⟩
        rw [HTW.out.1.1] at hd6
        rw [HTW.out.1.2]
        obtain ⟨F6, hB6, hk6, hF6⟩ := HB5.out.own2 (M := 3 * n + 6 * k + 2) (by omega) hd6
        have HB6 := Lib.hid hB6
        have HE6 := Lib.hid (HE5.out.keep hk6 HOF.out.1)
        have HOF6 := Lib.hid (HOF.out.next hF6 HE5.out.lt)
        clear hd6 hB6 hk6 hF6 e0 e1 e2 e3 e4 e5 e6 e7 HB5 HE5 HOF
        obtain ⟨e0, e1, e2, e3, e4, e5, e6, e7⟩ := HE6.out.in_
        go_wp2_with fail
        refine (admit_any w6 F6 bi (3 * n + 6 * k + 2) x HB6.out.both.itk (by omega) y HSE.out ((HMX.out.up hbw2).up HB6.out.bel)).mono ?_
        rintro r w7 ⟨rfl, hd7⟩
        rw [HTW.out.2.1] at hd7
        rw [HTW.out.2.2]
        obtain ⟨F7, hB7, hk7, hF7⟩ := HB6.out.own2 (M := 3 * n + 6 * k + 4) (by omega) hd7
        have HB7 := Lib.hid hB7
        have HE7 := Lib.hid (HE6.out.keep hk7 HOF6.out.1)
        have HOF7 := Lib.hid (HOF6.out.next hF7 HE6.out.lt)
        clear hd7 hB7 hk7 hF7 e0 e1 e2 e3 e4 e5 e6 e7 HB6 HE6 HOF6
        obtain ⟨e0, e1, e2, e3, e4, e5, e6, e7⟩ := HE7.out.in_
        have hfz := HE7.out.frozen 2
        have HB8 := Lib.hid (HB7.out.set 2 (.int .i64 other) HOF7.out (by have := hbel.size; omega))
        have HE8 := Lib.hid (HE7.out.setAt other)
        go_upto_region 17 with fail
        clear e0 e1 e2 e3 e4 e5 e6 e7 hfz HB7 HE7
        generalize w7.setCell ⟨wr.heap.size, 2, none⟩ (.int .i64 other) = w8 at *
        have HSE' := Lib.hid (show ({ y with at_ := other } : Ev).small from HSE.out)
        generalize ({ y with at_ := other } : Ev) = y' at *
        obtain ⟨e0, e1, e2, e3, e4, e5, e6, e7⟩ := HE8.out.in_
        go_wp2_with fail
        refine (offer_any w8 F7 bi (3 * n + 6 * k + 4) x HB8.out.both.itk (by omega) y' HSE'.out 0 ((HMX.out.up hbw2).up HB8.out.bel) (fun hf => by have := HB8.out.newF _ hf; omega)).mono ?_
        rintro r w9 ⟨rfl, hd9⟩
        rw [HTA.out.1] at hd9
        rw [HTA.out.2]
        obtain ⟨F9, hB9, hk9, hF9⟩ := HB8.out.own2 (M := 3 * n + 6 * k + 4 + 2) (by omega) hd9
        have HREL := Lib.hid (show TcRel w2 bi bm bc (3 * n) S x (.int .i64 ((k + 1 : Nat) : Int)) w9 from ⟨k + 1, F9, rfl, hkn, by rw [show 3 * n + 6 * (k + 1) = 3 * n + 6 * k + 4 + 2 by omega]; exact hB9⟩)
        clear hd9 hB9 hk9 hF9 e0 e1 e2 e3 e4 e5 e6 e7
        go_wp2
        go_roundw
        case rel => exact HREL.out
        case measure => simp [intOf]; omega
    · have t1 : ¬ (k : Int) < x.taken.length := by omega
      have c0 := HC.out.1
      have HRT := Lib.hid (rtick_any wr bc S (3 * n + 6 * k) x.clk HB.out.both.ref.clk (by omega) 0)
      clear c1 c3 c4
      go_wp2_with fail
      refine HRT.out.mono ?_
      rintro r w4 ⟨rfl, hc4, hk4⟩
      have hrd := HB.out.both.ref.ticked hc4 hk4 (Nat.le_refl _)
      have hI4 := HB.out.both.itk1 hrd
      have HBW := Lib.hid (hbw2.trans ((HB.out.bel.trans (hk4.below HB.out.bel.size (fun b hb e => by have := HB.out.bc0; omega))).mono hbw2.size))
      obtain ⟨S4, hR4, _, _⟩ := hrd
      have HP4 := Lib.hid (show Pair w4 F bi bm bc S4 (3 * n + 6 * k) x from ⟨hI4, by have h0 := HPI.out.tick0; unfold Itk.tick at h0; rw [h0] at hR4; exact hR4⟩)
      clear hc4 hk4 hI4 hR4 c0 c2
      go_wp2_with fail
      refine (even_any w4 F bi bm bc S4 _ x HP4.out (by omega)).mono ?_
      rintro r w5 ⟨rfl, hb5⟩
      have HFI := Lib.hid (HBW.out.trans (hb5.mono HBW.out.size))
      clear hb5
      go_wp2
      go_ret
      exact ⟨rfl, HFI.out⟩
end Go.Proofs.YtoljbbmjbgepiaaGreatDoor
