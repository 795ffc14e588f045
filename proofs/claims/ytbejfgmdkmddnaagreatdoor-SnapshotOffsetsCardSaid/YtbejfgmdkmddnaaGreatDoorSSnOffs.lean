/-
  The law SnapshotOffsets, walked.
-/
import Derived.Test.YtbejfgmdkmddnaaGreatDoorSSnHelp
import Derived.Test.YtbejfgmdkmddnaaGreatDoorSPtSame3
namespace Go.Proofs.YtbejfgmdkmddnaaGreatDoor
open Go.RowKit Go.Maps Go.Sort Go.Shelf

set_option maxRecDepth 100000 in
set_option maxHeartbeats 8000000 in
theorem snoffs_any (w : World) (slack : Int) (A : Option Addr) (n c : Nat) (ds : List Ev) (h : Evs w w.heap.size A n c ds) (hn : n ≤ 140737488355328) (a b : Int) (hmx : MaxAt w) (hee : ErrsAt w) (htab : Lib.TabBelow Tryz.prog w.heap.size w "internal/strconv.uint64pow10" .u64 Lib.pow10Tab) :
    Calls Tryz.prog 4 #[.int .i64 slack, .slice A n c, .int .i64 a, .int .i64 b] w (Says true w) := by
  have HH := Lib.hid h; clear h
  have HMX := Lib.hid hmx; have HEE := Lib.hid hee; have HT := Lib.hid htab
  have hml := hmx.lt
  clear hmx hee htab
  have HW0 := Lib.hid (show ∀ W, RowKit.Below w.heap.size w W → Says true w (.returned (.bool true)) W from fun W hW => ⟨rfl, hW⟩)
  have HEV := Lib.hid (show ∀ W, RowKit.Below w.heap.size w W → Evs W W.heap.size A n c ds from fun W hW => Cel.more (Cel.below HH.out hW) hW.size)
  go_enter Tryz.func4, Tryz.ntmps4
  go_wp2_with fail
  refine (lives30_any w HMX.out HEE.out HT.out).mono ?_
  rintro r w1 ⟨rfl, hb1⟩
  have HR1 := Lib.hid (HW0.out w1 hb1)
  by_cases hn30 : (30 : Int) < n
  · go_wp2
    go_ret
    exact HR1.out
  clear HR1
  have hbig : n ≤ 30 := by omega
  have HEV1 := Lib.hid (HEV.out w1 hb1)
  go_wp2_with fail
  refine (some_any w1 A n c ds HEV1.out hn 300).mono ?_
  rintro r w2 ⟨rfl, hb2⟩
  have HB2 := Lib.hid (hb1.trans (hb2.mono hb1.size))
  clear hb1 hb2 HEV1
  cases hsm : ds.any (fun d => bigB d 300)
  case true =>
    clear hsm
    have HR2 := Lib.hid (HW0.out w2 HB2.out)
    go_wp2
    go_ret
    exact HR2.out
  have HSM := Lib.hid (sn_small hsm)
  clear hsm
  by_cases ha0 : a < 0
  · have HR2 := Lib.hid (HW0.out w2 HB2.out)
    go_wp2
    go_ret
    exact HR2.out
  by_cases hb0 : b < 0
  · have HR2 := Lib.hid (HW0.out w2 HB2.out)
    go_wp2
    go_ret
    exact HR2.out
  by_cases ha1 : 1048576 < a
  · have HR2 := Lib.hid (HW0.out w2 HB2.out)
    go_wp2
    go_ret
    exact HR2.out
  by_cases hb1 : 1048576 < b
  · have HR2 := Lib.hid (HW0.out w2 HB2.out)
    go_wp2
    go_ret
    exact HR2.out
  have hlen := HH.out.len
  have HLE := Lib.hid hlen
  go_wp2_with fail
  refine (itknew_any w2 slack 0).mono ?_
  rintro r w3 ⟨bi, F3, rfl, hI3, hb3, hF3⟩
  have HB3 := Lib.hid (HB2.out.trans (hb3.mono HB2.out.size))
  have HST := Lib.hid (show OfR w bi slack ds (.int .i64 ((0 : Nat) : Int)) w3 from ⟨0, F3, rfl, Nat.zero_le _, hI3, HB3.out, fun b hb => by have := hF3 b hb; have := HB2.out.size; omega⟩)
  clear hI3 hb3 hF3 hlen
  go_wp2
  go_loopw [10] (fun i W => OfR w bi slack ds i W) (fun i _ => n - (intOf i).toNat)
  case atStart => exact HST.out
  case round =>
    obtain ⟨k, F, rfl, hk, hI, hbel, hF⟩ := hrel
    have HI := Lib.hid hI; have HB := Lib.hid hbel; have HF := Lib.hid hF
    clear hI hbel hF HST
    by_cases hkn : k < n
    · have hkd : k < ds.length := by rw [HLE.out]; exact hkn
      have HEW := Lib.hid (HEV.out wr HB.out)
      obtain ⟨bA, off, hA, hb, hev⟩ := HEW.out.ev k hkd
      have HSK := Lib.hid (HSM.out _ (List.getElem_mem hkd))
      have HYN := Lib.hid (offX_take slack ds k hkd)
      subst hA
      obtain ⟨e0, e1, e2, e3, e4, e5, e6, e7⟩ := hev
      have t1 : (k : Int) < n := by omega
      generalize ds[k] = e at *
      generalize offX slack (ds.take k) = x at *
      clear hb
      go_wp2_with fail
      refine (offer_any wr F bi (2 * k) x HI.out (by omega) e HSK.out 0 (HMX.out.up HB.out) (fun hf => by have := HF.out _ hf; omega)).mono ?_
      rintro r w4 ⟨rfl, F4, hI4, hK4, hF4⟩
      have HREL := Lib.hid (show OfR w bi slack ds (.int .i64 ((k : Int) + 1)) w4 from ⟨k + 1, F4, rfl, hkd, by rw [HYN.out, show 2 * (k + 1) = 2 * k + 2 by omega]; exact hI4, HB.out.trans (hK4.below HB.out.size (fun b hb hf => by have := HF.out b hf; omega)), fun b hb => by
        rcases hF4 b hb with h | h
        · exact HF.out b h
        · have := HB.out.size; omega⟩)
      clear hI4 hK4 hF4 e0 e1 e2 e3 e4 e5 e6 e7
      go_wp2
      go_roundw
      case rel => exact HREL.out
      case measure => simp [intOf]; omega
    · have hke : ds.take k = ds := List.take_of_length_le (by have := HLE.out; omega)
      have t1 : ¬ (k : Int) < n := by omega
      rw [hke] at HI
      have HG := Lib.hid (HI.out.offGood (by have := HLE.out; omega))
      have hk60 : 2 * k ≤ 60 := by have := HLE.out; omega
      generalize offX slack ds = x at *
      have hs0 := HB.out.size
      have HP := Lib.hid (fun W (hW : RowKit.Below wr.heap.size wr W) => parts_any W F bi (2 * k) x (HI.out.up hW) (by omega) (HMX.out.up (HB.out.trans (hW.mono hs0))) (tab_up HT.out (HB.out.trans (hW.mono hs0))))
      unfold PtsPost at HP
      go_wp2_with fail
      with_reducible refine (HP.out wr (Below.refl _ _)).mono ?_
      rintro r w5 ⟨vc, vh, vt, vl, vg, rs, rfl, hV, hb5⟩
      obtain ⟨Ac, kc, rfl⟩ := hV.clk.form
      obtain ⟨Ah, kh, rfl⟩ := hV.had.form
      obtain ⟨At, kt, rfl⟩ := ownsRow_form hV.taken
      obtain ⟨Al, kl, rfl⟩ := ownsRow_form hV.late
      obtain ⟨Ag, kg, rfl⟩ := ownsRow_form hV.gone
      have hbP : RowKit.Below w5.heap.size w5 (w5.alloc (ptsObj x.clk.slack x.clk.idle (.slice Ac (encC x.clk).length kc) (.slice Ah (encH x.had).length kh) (.slice At x.taken.length kt) (.slice Al x.late.length kl) (.slice Ag rs.length kg))) := (Below.refl _ _).alloc (Nat.le_refl _) _
      have HB5 := Lib.hid (hb5.trans (hbP.mono hb5.size))
      have HV5 := Lib.hid (hV.up hbP)
      have HP5 := Lib.hid (show (w5.alloc (ptsObj x.clk.slack x.clk.idle (.slice Ac (encC x.clk).length kc) (.slice Ah (encH x.had).length kh) (.slice At x.taken.length kt) (.slice Al x.late.length kl) (.slice Ag rs.length kg))).heap[w5.heap.size]? = some (ptsObj x.clk.slack x.clk.idle (.slice Ac (encC x.clk).length kc) (.slice Ah (encH x.had).length kh) (.slice At x.taken.length kt) (.slice Al x.late.length kl) (.slice Ag rs.length kg)) from heap_alloc_new w5 _)
      go_upto_region 13 with fail
      have hs5 := hb5.size
      clear hV hbP hb5
      generalize (w5.alloc (ptsObj x.clk.slack x.clk.idle (.slice Ac (encC x.clk).length kc) (.slice Ah (encH x.had).length kh) (.slice At x.taken.length kt) (.slice Al x.late.length kl) (.slice Ag rs.length kg))) = w6 at *
      generalize w5.heap.size = t at *
      have HB6 := Lib.hid (HB.out.trans (HB5.out.mono hs0))
      have hs6 := HB6.out.size
      have hs56 := HB5.out.size
      have HSV := Lib.hid (fun W (hW : RowKit.Below w6.heap.size w6 W) (o : Int) (o0 : 0 ≤ o) (o1 : o ≤ 1048576) => snsave_any W F bi (2 * k) x (HI.out.up (HB5.out.trans (hW.mono hs56))) HG.out (by omega) o o0 o1 (HMX.out.up (HB6.out.trans (hW.mono hs6))) (tab_up HT.out (HB6.out.trans (hW.mono hs6))))
      unfold SvPost at HSV
      have HLD := Lib.hid (fun W (hW : RowKit.Below w6.heap.size w6 W) (o : Int) (o0 : 0 ≤ o) (o1 : o ≤ 1048576) A1 n1 c1 (hB : Byt W W.heap.size A1 n1 c1 (piecesB (snX o x))) => snload_good W A1 n1 c1 x o (2 * k) hB HG.out (by omega) o0 o1 (HMX.out.up (HB6.out.trans (hW.mono hs6))) (HEE.out.up (HB6.out.trans (hW.mono hs6))) (tab_up HT.out (HB6.out.trans (hW.mono hs6))))
      unfold LdPost at HLD
      have HINJ := Lib.hid (show piecesB (snX a x) = piecesB (snX b x) → a = b from fun h => by
        have h1 := piecesB_inj h
        exact (snT_inj (HG.out.snFit (by omega) (n := a) (by omega) (by omega)) (HG.out.snFit (by omega) (n := b) (by omega) (by omega)) h1).1)
      have HQ1 := Lib.hid (show 0 ≤ a ∧ a ≤ 1048576 ∧ 0 ≤ b ∧ b ≤ 1048576 by omega)
      have hx1 : x.taken.length ≤ 100000 := by have := HG.out.ok.taken; omega
      have hx2 : x.late.length ≤ 100000 := by have := HG.out.ok.late; omega
      have hx3 : x.gone.length ≤ 100000 := by have := HG.out.gone; omega
      have HSA := Lib.hid (fun W B1 B2 vc1 vh1 vt1 vl1 vg1 vc2 vh2 vt2 vl2 vg2 r1 r2 h1 h2 => psame30_any W B1 B2 x x.clk.slack x.clk.idle vc1 vh1 vt1 vl1 vg1 vc2 vh2 vt2 vl2 vg2 r1 r2 h1 h2 hx1 hx2 hx3)
      clear hx1 hx2 hx3
      go_wp2_with fail
      with_reducible refine (HSV.out w6 (Below.refl _ _) a HQ1.out.1 HQ1.out.2.1).mono ?_
      rintro r w7 ⟨v7, rfl, ho7, hb7⟩
      obtain ⟨A7, c7, rfl⟩ := ho7.form
      have HB7 := Lib.hid hb7; have HO7 := Lib.hid ho7
      clear ho7
      go_wp2_with fail
      with_reducible refine (HSV.out w7 hb7 b HQ1.out.2.2.1 HQ1.out.2.2.2).mono ?_
      rintro r w8 ⟨v8, rfl, ho8, hb8⟩
      obtain ⟨A8, c8, rfl⟩ := ho8.form
      have HB8 := Lib.hid (hb7.trans (hb8.mono hb7.size))
      have HY7 := Lib.hid ((HO7.out.byt.more (Nat.le_refl _)).below hb8)
      have HY8 := Lib.hid ho8.byt
      have hs8 := hb8.size
      clear ho8 hb8 hb7
      go_wp2_with fail
      with_reducible refine (HLD.out w8 HB8.out a HQ1.out.1 HQ1.out.2.1 _ _ _ (HY7.out.more hs8)).mono ?_
      rintro r w9 ⟨b9, F9, rfl, hI9, hb9, hF9⟩
      have HB9 := Lib.hid (HB8.out.trans (hb9.mono HB8.out.size))
      have HI9 := Lib.hid hI9
      have HZ7 := Lib.hid ((HY7.out.more hs8).below hb9)
      have HZ8 := Lib.hid (HY8.out.below hb9)
      have hs9 := hb9.size
      clear hI9 hb9 hF9
      go_wp2_with fail
      with_reducible refine (HLD.out w9 HB9.out b HQ1.out.2.2.1 HQ1.out.2.2.2 _ _ _ (HZ8.out.more hs9)).mono ?_
      rintro r w10 ⟨b10, F10, rfl, hI10, hb10, hF10⟩
      have HB10 := Lib.hid (HB9.out.trans (hb10.mono HB9.out.size))
      have HI10 := Lib.hid hI10
      have HI9b := Lib.hid (HI9.out.up hb10)
      have HX7 := Lib.hid ((HZ7.out.more hs9).below hb10)
      have HX8 := Lib.hid ((HZ8.out.more hs9).below hb10)
      have hs10 := hb10.size
      clear hI10 hb10 hF10
      have HBW := Lib.hid (HB6.out.trans (HB10.out.mono hs6))
      have hsW := HB10.out.size
      have HP10 := Lib.hid ((HB10.out.block _ (heap_lt HP5.out)).trans HP5.out)
      have HV10 := Lib.hid (HV5.out.up HB10.out)
      have HBZ := Lib.hid (below_drew (Below.refl w10.heap.size w10))
      have HSS := Lib.hid (show ∀ W, RowKit.Below w10.heap.size w10 W → W.cell? ⟨t, 0, none⟩ = some (.int .i64 x.clk.slack) ∧ W.cell? ⟨t, 1, none⟩ = some (.int .i64 x.clk.idle) ∧ W.cell? ⟨t, 2, none⟩ = some (.slice Ac (encC x.clk).length kc) ∧ W.cell? ⟨t, 3, none⟩ = some (.slice Ah (encH x.had).length kh) ∧ W.cell? ⟨t, 4, none⟩ = some (.slice At x.taken.length kt) ∧ W.cell? ⟨t, 5, none⟩ = some (.slice Al x.late.length kl) ∧ W.cell? ⟨t, 6, none⟩ = some (.slice Ag rs.length kg) ∧ (convert 32 9 (.slice A7 (piecesB (snX a x)).length c7)).run Tryz.prog W = .ok (.string ⟨(piecesB (snX a x)).toArray⟩) W ∧ (convert 32 9 (.slice A8 (piecesB (snX b x)).length c8)).run Tryz.prog W = .ok (.string ⟨(piecesB (snX b x)).toArray⟩) W from fun W hW => by
        obtain ⟨z0, z1, z2, z3, z4, z5, z6, _⟩ := pts_cells ((hW.block _ (heap_lt HP10.out)).trans HP10.out)
        exact ⟨z0, z1, z2, z3, z4, z5, z6, ((HX7.out.more hs10).below hW).str (P := Tryz.prog) 32 5 9 Tryz.underlying32 Tryz.underlying5 Tryz.underlying9, ((HX8.out.more hs10).below hW).str (P := Tryz.prog) 32 5 9 Tryz.underlying32 Tryz.underlying5 Tryz.underlying9⟩)
      have HPA := Lib.hid (fun W (hW : RowKit.Below w10.heap.size w10 W) => HP.out W (HB5.out.trans (HB10.out.trans (hW.mono hsW) |>.mono hs56)))
      have HPC := Lib.hid (fun W (hW : RowKit.Below w10.heap.size w10 W) => parts_any W F9 b9 (2 * k) x (HI9b.out.up hW) (by omega) (HMX.out.up (HBW.out.trans (hW.mono HBW.out.size))) (tab_up HT.out (HBW.out.trans (hW.mono HBW.out.size))))
      have HPD := Lib.hid (fun W (hW : RowKit.Below w10.heap.size w10 W) => parts_any W F10 b10 (2 * k) x (HI10.out.up hW) (by omega) (HMX.out.up (HBW.out.trans (hW.mono HBW.out.size))) (tab_up HT.out (HBW.out.trans (hW.mono HBW.out.size))))
      have HV0 := Lib.hid (fun W (hW : RowKit.Below w10.heap.size w10 W) => HV10.out.up hW)
      unfold PtsPost at HPC HPD
      clear HP HSV HLD HI HI9 HI9b HI10 HX7 HX8 HZ7 HZ8 HY7 HY8 HO7 HB7 HB8 HB9 HV5 HG
      have HR := Lib.hid (show ∀ W, RowKit.Below w10.heap.size w10 W → Says true w (.returned (.bool true)) W from fun W hW => HW0.out W (HBW.out.trans (hW.mono HBW.out.size)))
      by_cases hab : a = b
      · subst hab
        generalize piecesB (snX a x) = la at *
        go_upto_region 19 with fail
        have hS := HSS.out _ HBZ.out
        go_region_held3 (fun W => W.cell? ⟨t, 0, none⟩ = some (.int .i64 x.clk.slack) ∧ W.cell? ⟨t, 1, none⟩ = some (.int .i64 x.clk.idle) ∧ W.cell? ⟨t, 2, none⟩ = some (.slice Ac (encC x.clk).length kc) ∧ W.cell? ⟨t, 3, none⟩ = some (.slice Ah (encH x.had).length kh) ∧ W.cell? ⟨t, 4, none⟩ = some (.slice At x.taken.length kt) ∧ W.cell? ⟨t, 5, none⟩ = some (.slice Al x.late.length kl) ∧ W.cell? ⟨t, 6, none⟩ = some (.slice Ag rs.length kg) ∧ (convert 32 9 (.slice A7 la.length c7)).run Tryz.prog W = .ok (.string ⟨la.toArray⟩) W ∧ (convert 32 9 (.slice A8 la.length c8)).run Tryz.prog W = .ok (.string ⟨la.toArray⟩) W) (first | with_reducible assumption | with_reducible exact HSS.out _ HBZ.out) (first | (go_at_call 17; (with_reducible refine (HPA.out _ HBZ.out).mono ?_); rintro r wx ⟨vc2, vh2, vt2, vl2, vg2, r2, rfl, hV2, hb⟩; have HVA := Lib.hid hV2; clear hV2; have HBX2 := Lib.hid (HBZ.out.trans (hb.mono HBZ.out.size)); clear HBZ; have HBZ := HBX2; clear HBX2 hS; have hS := HSS.out _ HBZ.out; clear hb) | (go_at_call 18; (with_reducible refine (HSA.out _ _ _ _ _ _ _ _ _ _ _ _ _ _ _ (HV0.out _ HBZ.out) (HVA.out)).mono ?_); rintro r wx ⟨rfl, hb⟩; clear HVA; have HBX2 := Lib.hid (HBZ.out.trans (hb.mono HBZ.out.size)); clear HBZ; have HBZ := HBX2; clear HBX2 hS; have hS := HSS.out _ HBZ.out; clear hb) | (go_at_call 17; (with_reducible refine (HPD.out _ HBZ.out).mono ?_); rintro r wx ⟨vc4, vh4, vt4, vl4, vg4, r4, rfl, hV4, hb⟩; have HVD := Lib.hid hV4; clear hV4; have HVE := Lib.hid (HVC.out.up hb); clear HVC; have HBX2 := Lib.hid (HBZ.out.trans (hb.mono HBZ.out.size)); clear HBZ; have HBZ := HBX2; clear HBX2 hS; have hS := HSS.out _ HBZ.out; clear hb) | (go_at_call 17; (with_reducible refine (HPC.out _ HBZ.out).mono ?_); rintro r wx ⟨vc3, vh3, vt3, vl3, vg3, r3, rfl, hV3, hb⟩; have HVC := Lib.hid hV3; clear hV3; have HBX2 := Lib.hid (HBZ.out.trans (hb.mono HBZ.out.size)); clear HBZ; have HBZ := HBX2; clear HBX2 hS; have hS := HSS.out _ HBZ.out; clear hb) | (go_at_call 18; (with_reducible refine (HSA.out _ _ _ _ _ _ _ _ _ _ _ _ _ _ _ (HVE.out) (HVD.out)).mono ?_); rintro r wx ⟨rfl, hb⟩; clear HVE HVD; have HBX2 := Lib.hid (HBZ.out.trans (hb.mono HBZ.out.size)); clear HBZ; have HBZ := HBX2; clear HBX2 hS; have hS := HSS.out _ HBZ.out; clear hb) | (go_at_call 18; (with_reducible refine (HSA.out _ _ _ _ _ _ _ _ _ _ _ _ _ _ _ (HVC.out) (HV0.out _ HBZ.out)).mono ?_); rintro r wx ⟨rfl, hb⟩; clear HVC; have HBX2 := Lib.hid (HBZ.out.trans (hb.mono HBZ.out.size)); clear HBZ; have HBZ := HBX2; clear HBX2 hS; have hS := HSS.out _ HBZ.out; clear hb))
        all_goals
          have HRR := Lib.hid (HR.out _ HBZ.out)
          go_wp2
          go_ret
          exact HRR.out
      · have hla : ¬ piecesB (snX a x) = piecesB (snX b x) := fun h => hab (HINJ.out h)
        generalize piecesB (snX a x) = la at *
        generalize piecesB (snX b x) = lb at *
        have hab1 : (a == b) = false := by simp [hab]
        have hla1 : (la == lb) = false := by simp [hla]
        have hab2 : decide (a = b) = false := by simp [hab]
        have hla2 : decide (la = lb) = false := by simp [hla]
        go_upto_region 19 with fail
        have hS := HSS.out _ HBZ.out
        go_region_held3 (fun W => W.cell? ⟨t, 0, none⟩ = some (.int .i64 x.clk.slack) ∧ W.cell? ⟨t, 1, none⟩ = some (.int .i64 x.clk.idle) ∧ W.cell? ⟨t, 2, none⟩ = some (.slice Ac (encC x.clk).length kc) ∧ W.cell? ⟨t, 3, none⟩ = some (.slice Ah (encH x.had).length kh) ∧ W.cell? ⟨t, 4, none⟩ = some (.slice At x.taken.length kt) ∧ W.cell? ⟨t, 5, none⟩ = some (.slice Al x.late.length kl) ∧ W.cell? ⟨t, 6, none⟩ = some (.slice Ag rs.length kg) ∧ (convert 32 9 (.slice A7 la.length c7)).run Tryz.prog W = .ok (.string ⟨la.toArray⟩) W ∧ (convert 32 9 (.slice A8 lb.length c8)).run Tryz.prog W = .ok (.string ⟨lb.toArray⟩) W) (first | with_reducible assumption | with_reducible exact HSS.out _ HBZ.out) (first | (go_at_call 17; (with_reducible refine (HPA.out _ HBZ.out).mono ?_); rintro r wx ⟨vc2, vh2, vt2, vl2, vg2, r2, rfl, hV2, hb⟩; have HVA := Lib.hid hV2; clear hV2; have HBX2 := Lib.hid (HBZ.out.trans (hb.mono HBZ.out.size)); clear HBZ; have HBZ := HBX2; clear HBX2 hS; have hS := HSS.out _ HBZ.out; clear hb) | (go_at_call 18; (with_reducible refine (HSA.out _ _ _ _ _ _ _ _ _ _ _ _ _ _ _ (HV0.out _ HBZ.out) (HVA.out)).mono ?_); rintro r wx ⟨rfl, hb⟩; clear HVA; have HBX2 := Lib.hid (HBZ.out.trans (hb.mono HBZ.out.size)); clear HBZ; have HBZ := HBX2; clear HBX2 hS; have hS := HSS.out _ HBZ.out; clear hb) | (go_at_call 17; (with_reducible refine (HPD.out _ HBZ.out).mono ?_); rintro r wx ⟨vc4, vh4, vt4, vl4, vg4, r4, rfl, hV4, hb⟩; have HVD := Lib.hid hV4; clear hV4; have HVE := Lib.hid (HVC.out.up hb); clear HVC; have HBX2 := Lib.hid (HBZ.out.trans (hb.mono HBZ.out.size)); clear HBZ; have HBZ := HBX2; clear HBX2 hS; have hS := HSS.out _ HBZ.out; clear hb) | (go_at_call 17; (with_reducible refine (HPC.out _ HBZ.out).mono ?_); rintro r wx ⟨vc3, vh3, vt3, vl3, vg3, r3, rfl, hV3, hb⟩; have HVC := Lib.hid hV3; clear hV3; have HBX2 := Lib.hid (HBZ.out.trans (hb.mono HBZ.out.size)); clear HBZ; have HBZ := HBX2; clear HBX2 hS; have hS := HSS.out _ HBZ.out; clear hb) | (go_at_call 18; (with_reducible refine (HSA.out _ _ _ _ _ _ _ _ _ _ _ _ _ _ _ (HVE.out) (HVD.out)).mono ?_); rintro r wx ⟨rfl, hb⟩; clear HVE HVD; have HBX2 := Lib.hid (HBZ.out.trans (hb.mono HBZ.out.size)); clear HBZ; have HBZ := HBX2; clear HBX2 hS; have hS := HSS.out _ HBZ.out; clear hb) | (go_at_call 18; (with_reducible refine (HSA.out _ _ _ _ _ _ _ _ _ _ _ _ _ _ _ (HVC.out) (HV0.out _ HBZ.out)).mono ?_); rintro r wx ⟨rfl, hb⟩; clear HVC; have HBX2 := Lib.hid (HBZ.out.trans (hb.mono HBZ.out.size)); clear HBZ; have HBZ := HBX2; clear HBX2 hS; have hS := HSS.out _ HBZ.out; clear hb))
        all_goals
          have HRR := Lib.hid (HR.out _ HBZ.out)
          go_wp2
          go_ret
          exact HRR.out
end Go.Proofs.YtbejfgmdkmddnaaGreatDoor
