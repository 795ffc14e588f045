/-
  The laws': whether two intakes' parts are the same.
-/
import Derived.Test.YtbejfgmdkmddnaaGreatDoorSPtQ
import Derived.Test.YtbejfgmdkmddnaaGreatDoorSSnHelp
namespace Go.Proofs.YtbejfgmdkmddnaaGreatDoor
open Go.RowKit Go.Maps Go.Sort Go.Shelf

set_option maxRecDepth 100000 in
set_option maxHeartbeats 4000000 in
theorem psame30_any (w : World) (B1 B2 : Nat) (x : Itk) (a b : Int) (vc vh vt vl vg vc' vh' vt' vl' vg' : Value) (r r' : List (List UInt8)) (h1 : PtsV w B1 x vc vh vt vl vg r) (h2 : PtsV w B2 x vc' vh' vt' vl' vg' r') (ht : x.taken.length ≤ 100000) (hl : x.late.length ≤ 100000) (hg : x.gone.length ≤ 100000) :
    Calls Tryz.prog 18 #[ptsAgg a b vc vh vt vl vg, ptsAgg a b vc' vh' vt' vl' vg'] w (Says true w) := by
  obtain rfl := rising_unique h1.rise h2.rise
  obtain ⟨Ac, kc, rfl⟩ := h1.clk.form
  obtain ⟨Ah, kh, rfl⟩ := h1.had.form
  obtain ⟨At, kt, rfl⟩ := ownsRow_form h1.taken
  obtain ⟨Al, kl, rfl⟩ := ownsRow_form h1.late
  obtain ⟨Ag, kg, rfl⟩ := ownsRow_form h1.gone
  obtain ⟨Ac', kc', rfl⟩ := h2.clk.form
  obtain ⟨Ah', kh', rfl⟩ := h2.had.form
  obtain ⟨At', kt', rfl⟩ := ownsRow_form h2.taken
  obtain ⟨Al', kl', rfl⟩ := ownsRow_form h2.late
  obtain ⟨Ag', kg', rfl⟩ := ownsRow_form h2.gone
  have hr := rising_lenO h1.rise
  have hs1 : (w.alloc (ptsObj a b (.slice Ac (encC x.clk).length kc) (.slice Ah (encH x.had).length kh) (.slice At x.taken.length kt) (.slice Al x.late.length kl) (.slice Ag r.length kg))).heap.size = w.heap.size + 1 := by simp
  have HB2 := Lib.hid (show RowKit.Below w.heap.size w ((w.alloc (ptsObj a b (.slice Ac (encC x.clk).length kc) (.slice Ah (encH x.had).length kh) (.slice At x.taken.length kt) (.slice Al x.late.length kl) (.slice Ag r.length kg))).alloc (ptsObj a b (.slice Ac' (encC x.clk).length kc') (.slice Ah' (encH x.had).length kh') (.slice At' x.taken.length kt') (.slice Al' x.late.length kl') (.slice Ag' r.length kg'))) from ((Below.refl _ _).alloc (Nat.le_refl _) _).alloc (by simp) _)
  have HX2 := Lib.hid (show ((w.alloc (ptsObj a b (.slice Ac (encC x.clk).length kc) (.slice Ah (encH x.had).length kh) (.slice At x.taken.length kt) (.slice Al x.late.length kl) (.slice Ag r.length kg))).alloc (ptsObj a b (.slice Ac' (encC x.clk).length kc') (.slice Ah' (encH x.had).length kh') (.slice At' x.taken.length kt') (.slice Al' x.late.length kl') (.slice Ag' r.length kg'))).heap[w.heap.size + 1]? = some (ptsObj a b (.slice Ac' (encC x.clk).length kc') (.slice Ah' (encH x.had).length kh') (.slice At' x.taken.length kt') (.slice Al' x.late.length kl') (.slice Ag' r.length kg')) from by rw [← hs1]; exact heap_alloc_new _ _)
  have HY2 := Lib.hid (show ((w.alloc (ptsObj a b (.slice Ac (encC x.clk).length kc) (.slice Ah (encH x.had).length kh) (.slice At x.taken.length kt) (.slice Al x.late.length kl) (.slice Ag r.length kg))).alloc (ptsObj a b (.slice Ac' (encC x.clk).length kc') (.slice Ah' (encH x.had).length kh') (.slice At' x.taken.length kt') (.slice Al' x.late.length kl') (.slice Ag' r.length kg'))).heap[w.heap.size]? = some (ptsObj a b (.slice Ac (encC x.clk).length kc) (.slice Ah (encH x.had).length kh) (.slice At x.taken.length kt) (.slice Al x.late.length kl) (.slice Ag r.length kg)) from by rw [Below.heap_alloc _ _ _ (by rw [hs1]; omega)]; exact heap_alloc_new w _)
  clear hs1
  go_enter Tryz.func18, Tryz.ntmps18
  go_upto_region 1 with fail
  generalize ((w.alloc (ptsObj a b (.slice Ac (encC x.clk).length kc) (.slice Ah (encH x.had).length kh) (.slice At x.taken.length kt) (.slice Al x.late.length kl) (.slice Ag r.length kg))).alloc (ptsObj a b (.slice Ac' (encC x.clk).length kc') (.slice Ah' (encH x.had).length kh') (.slice At' x.taken.length kt') (.slice Al' x.late.length kl') (.slice Ag' r.length kg'))) = w2 at *
  have HV1 := Lib.hid (h1.up HB2.out); have HV2 := Lib.hid (h2.up HB2.out)
  have kc1 := HV1.out.clk.byt.str (P := Tryz.prog) 32 5 9 Tryz.underlying32 Tryz.underlying5 Tryz.underlying9
  have kc2 := HV2.out.clk.byt.str (P := Tryz.prog) 32 5 9 Tryz.underlying32 Tryz.underlying5 Tryz.underlying9
  have kc3 := HV1.out.had.byt.str (P := Tryz.prog) 32 5 9 Tryz.underlying32 Tryz.underlying5 Tryz.underlying9
  have kc4 := HV2.out.had.byt.str (P := Tryz.prog) 32 5 9 Tryz.underlying32 Tryz.underlying5 Tryz.underlying9
  obtain ⟨y0, y1, y2, y3, y4, y5, y6, _⟩ := pts_cells HY2.out
  obtain ⟨z0, z1, z2, z3, z4, z5, z6, _⟩ := pts_cells HX2.out
  have HXX := Lib.hid HX2.out; have HYY := Lib.hid HY2.out
  have HT := Lib.hid ht; have HLL := Lib.hid hl; have HRR := Lib.hid (show r.length ≤ 100000 by omega)
  clear h1 h2 hg hr ht hl
  go_wp2_with fail
  clear y0 y1 y2 y3 y4 y5 y6 z0 z1 z2 z3 z4 z5 z6 kc1 kc2 kc3 kc4
  have E1 : Evs w2 w2.heap.size At x.taken.length kt x.taken := Cel.of_own HV1.out.taken
  have E2 : Evs w2 w2.heap.size At' x.taken.length kt' x.taken := Cel.of_own HV2.out.taken
  with_reducible refine (same02_any w2 _ _ At At' _ kt kt' x.taken E1 E2 HT.out).mono ?_
  clear E1 E2
  rintro e w3 ⟨rfl, q, rfl⟩
  have hb3 := below_drewN (Below.refl w2.heap.size w2) q
  have HB3 := Lib.hid (below_drewN HB2.out q)
  have HV13 := Lib.hid (HV1.out.up hb3); have HV23 := Lib.hid (HV2.out.up hb3)
  obtain ⟨y0, y1, y2, y3, y4, y5, y6, _⟩ := pts_cells ((hb3.block _ (heap_lt HYY.out)).trans HYY.out)
  obtain ⟨z0, z1, z2, z3, z4, z5, z6, _⟩ := pts_cells ((hb3.block _ (heap_lt HXX.out)).trans HXX.out)
  have HX3 := Lib.hid ((hb3.block _ (heap_lt HXX.out)).trans HXX.out); have HY3 := Lib.hid ((hb3.block _ (heap_lt HYY.out)).trans HYY.out)
  clear hb3 HV1 HV2 HB2
  generalize w2.drewN q = w3 at *
  go_wp2_with fail
  clear y0 y1 y2 y3 y4 y5 y6 z0 z1 z2 z3 z4 z5 z6
  have E1 : Evs w3 w3.heap.size Al x.late.length kl x.late := Cel.of_own HV13.out.late
  have E2 : Evs w3 w3.heap.size Al' x.late.length kl' x.late := Cel.of_own HV23.out.late
  with_reducible refine (same02_any w3 _ _ Al Al' _ kl kl' x.late E1 E2 HLL.out).mono ?_
  clear E1 E2
  rintro e w4 ⟨rfl, q, rfl⟩
  have hb4 := below_drewN (Below.refl w3.heap.size w3) q
  have HB4 := Lib.hid (below_drewN HB3.out q)
  have HV14 := Lib.hid (HV13.out.up hb4); have HV24 := Lib.hid (HV23.out.up hb4)
  obtain ⟨y0, y1, y2, y3, y4, y5, y6, _⟩ := pts_cells ((hb4.block _ (heap_lt HY3.out)).trans HY3.out)
  obtain ⟨z0, z1, z2, z3, z4, z5, z6, _⟩ := pts_cells ((hb4.block _ (heap_lt HX3.out)).trans HX3.out)
  clear hb4 HV13 HV23 HB3
  generalize w3.drewN q = w4 at *
  go_wp2_with fail
  clear y0 y1 y2 y3 y4 y5 y6 z0 z1 z2 z3 z4 z5 z6
  have E1 : Strs w4 w4.heap.size Ag r.length kg r := Cel.of_own HV14.out.gone
  have E2 : Strs w4 w4.heap.size Ag' r.length kg' r := Cel.of_own HV24.out.gone
  with_reducible refine (texts_any w4 _ _ Ag Ag' _ kg kg' r E1 E2 HRR.out).mono ?_
  clear E1 E2
  rintro e w5 ⟨rfl, q, rfl⟩
  have HB5 := Lib.hid (below_drewN HB4.out q)
  go_wp2
  go_ret
  exact ⟨rfl, HB5.out⟩
end Go.Proofs.YtbejfgmdkmddnaaGreatDoor
