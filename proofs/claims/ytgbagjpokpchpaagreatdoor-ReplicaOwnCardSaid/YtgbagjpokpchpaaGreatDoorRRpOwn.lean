/-
  The law ReplicaOwn, walked.
-/
import Derived.Test.YtgbagjpokpchpaaGreatDoorRRpMore
namespace Go.Proofs.YtgbagjpokpchpaaGreatDoor
open Go.RowKit Go.Maps Go.Sort Go.Shelf

set_option maxRecDepth 100000 in
set_option maxHeartbeats 8000000 in
theorem rpown_any (w : World) (A : Option Addr) (n c : Nat) (ds : List Ev) (h : Evs w w.heap.size A n c ds) (hn : n ≤ 140737488355328) (z : Int) (e : Ev) (hmx : MaxAt w) (he : ErrsAt w) (ht : Lib.TabBelow Tryz.prog w.heap.size w "internal/strconv.uint64pow10" .u64 Lib.pow10Tab) :
    Calls Tryz.prog 5 #[.slice A n c, .int .i64 z, e.agg] w (Says true w) := by
  have HL := Lib.hid h.len
  have hbx : RowKit.Below w.heap.size w (w.alloc (evObj e)) := (Below.refl _ _).alloc (Nat.le_refl _) _
  have HBX := Lib.hid hbx
  have HH := Lib.hid (show Evs (w.alloc (evObj e)) (w.alloc (evObj e)).heap.size A n c ds from Cel.more (Cel.below h hbx) hbx.size)
  have HMX := Lib.hid (hmx.up hbx); have HE := Lib.hid (he.up hbx); have HT := Lib.hid (tab_up ht hbx)
  have HEV := Lib.hid (EvIn.new w e)
  have hs0 : (w.alloc (evObj e)).heap.size = w.heap.size + 1 := by simp
  have HEA := Lib.hid (show ∀ X : Value, X = e.agg → X = e.agg from fun _ h => h)
  clear h hmx he ht hbx
  unfold Ev.agg
  go_enter Tryz.func5, Tryz.ntmps5
  go_upto_region 1 with fail
  generalize w.alloc (evObj e) = w0 at *
  go_wp2_with fail
  with_reducible refine (rplives_any w0 HMX.out).mono ?_
  rintro r w1 ⟨rfl, hb1⟩
  have HB1 := Lib.hid hb1
  have HH1 := Lib.hid (show Evs w1 w1.heap.size A n c ds from Cel.more (Cel.below HH.out hb1) hb1.size)
  clear hb1
  go_wp2_with fail
  with_reducible refine (rpfew_any w1 A n c ds HH1.out hn).mono ?_
  rintro r w2 ⟨rfl, hb2⟩
  have HB2 := Lib.hid (HB1.out.trans (hb2.mono HB1.out.size))
  have HH2 := Lib.hid (show Evs w2 w2.heap.size A n c ds from Cel.more (Cel.below HH1.out hb2) hb2.size)
  have HFIN := Lib.hid (show ∀ W, RowKit.Below w0.heap.size w0 W → Says true w (.returned (.bool true)) W from fun W hW => ⟨rfl, HBX.out.trans (hW.mono HBX.out.size)⟩)
  clear hb2 HH1
  cases hfw : fewB ds
  case false =>
    clear hfw
    go_wp2
    go_ret
    exact HFIN.out _ HB2.out
  have hfw2 : (ds.length ≤ 30 ∧ ds.any (fun d => bigB d 300) = false) ∧ ds.all mayB = true := by
    unfold fewB at hfw
    simpa using hfw
  have HAL := Lib.hid hfw2.2
  have hn30 : n ≤ 30 := by have := HL.out; omega
  clear hfw hfw2
  obtain ⟨e0, e1, e2, e3, e4, e5, e6, e7⟩ := HEV.out.below HB2.out (by omega)
  have HBG := Lib.hid (big_any w2 e 300)
  unfold Ev.agg at HBG
  go_wp2_with fail
  clear e0 e1 e2 e3 e4 e5 e6 e7
  with_reducible refine HBG.out.mono ?_
  rintro r w3 ⟨rfl, hb3⟩
  have HB3 := Lib.hid (HB2.out.trans (hb3.mono HB2.out.size))
  have HH3 := Lib.hid (show Evs w3 w3.heap.size A n c ds from Cel.more (Cel.below HH2.out hb3) hb3.size)
  clear hb3 HH2 HBG
  cases hbg : bigB e 300
  case true =>
    clear hbg
    go_wp2
    go_ret
    exact HFIN.out _ HB3.out
  have HSM := Lib.hid (big_small33 (ds := [e]) (by simp [hbg]) e (by simp))
  clear hbg
  have HLG := Lib.hid (show Calls Tryz.prog 10 #[.int .i64 7, .slice A n c] w3 (LogPost33 w3 ds) from rplog_any w3 A n c ds HH3.out (by omega) HAL.out 7 (by omega) (by omega) (HMX.out.up HB3.out))
  go_wp2_with fail
  with_reducible refine HLG.out.mono ?_
  rintro r w4 ⟨bd, bj, G, F, j, rfl, hj, hGF, hb4, hes⟩
  have HJ := Lib.hid hj; have HES := Lib.hid hes; have HGF := Lib.hid hGF
  have HB4 := Lib.hid (HB3.out.trans (hb4.mono HB3.out.size))
  have hs3 := HB3.out.size
  have hs4 := hb4.size
  have HGL := Lib.hid (show ∀ b, G b ∨ F b → b < w4.heap.size from hj.lt)
  clear hj hGF hb4 hes HH3 HLG
  go_wp2_with fail
  with_reducible refine (rpnew_any w4 G F bj bd j HJ.out 0 0 (HMX.out.up HB4.out)).mono ?_
  rintro r w5 ⟨br, bi, R, rfl, hr5, hb5, hR, hbr⟩
  have HR5 := Lib.hid hr5
  have HB5 := Lib.hid (HB4.out.trans (hb5.mono HB4.out.size))
  have hs5 := hb5.size
  have HN5 := Lib.hid (show (∀ b, R b → w4.heap.size ≤ b ∧ b < w5.heap.size) ∧ w4.heap.size ≤ br ∧ br < w5.heap.size from ⟨fun b hb => ⟨hR b hb, hr5.rlt b hb⟩, hbr, hr5.blt⟩)
  clear hr5 hb5 hR hbr HJ
  go_wp2_with fail
  with_reducible refine (rpnew_any w5 G F bj bd j HR5.out.jl 0 0 (HMX.out.up HB5.out)).mono ?_
  rintro r w6 ⟨br2, bi2, R2, rfl, hr6, hb6, hR2, hbr2⟩
  have HO6 := Lib.hid hr6
  have HR6 := Lib.hid (HR5.out.up hb6)
  have HB6 := Lib.hid (HB5.out.trans (hb6.mono HB5.out.size))
  have hs6 := hb6.size
  have HN6 := Lib.hid (show (∀ b, R2 b → w5.heap.size ≤ b ∧ b < w6.heap.size) ∧ w5.heap.size ≤ br2 ∧ br2 < w6.heap.size from ⟨fun b hb => ⟨hR2 b hb, hr6.rlt b hb⟩, hbr2, hr6.blt⟩)
  clear hr6 hb6 hR2 hbr2 HR5
  obtain ⟨m, hm⟩ : ∃ m : Nat, m = (min (max z 0) (n : Int)).toNat := ⟨_, rfl⟩
  have hmn : m ≤ n := by omega
  have HM := Lib.hid hm
  clear hm
  go_wp2_with fail
  with_reducible refine (rppull_any w6 G F R br bj bd bi 0 j _ 0 HR6.out ds HES.out z m (by rw [HL.out]; have := HM.out; omega) (by omega) (by rw [HL.out]; omega) (by omega) (HMX.out.up HB6.out)).mono ?_
  rintro r w7 ⟨rfl, R7, hr7, hk7, hR7⟩
  have HR7 := Lib.hid (show RpAt w7 G F R7 br bj bd bi (2 * 30) j (admAll (Itk.new 0 0) (ds.take m)) m from by
    rw [List.drop_zero, Nat.zero_add, Nat.zero_add] at hr7
    exact hr7.more (by omega))
  have HO7 := Lib.hid (HO6.out.apart hk7 (fun b hb hg hc => by
    have hlo : w4.heap.size ≤ b ∧ b < w5.heap.size := by
      rcases hg with h | h
      · exact HN5.out.1 b h
      · rw [h]; exact HN5.out.2
    rcases hc with h1 | h1 | h1 | h1
    · have := HGL.out b (.inl h1); omega
    · have := HGL.out b (.inr h1); omega
    · have := HN6.out.1 b h1; omega
    · have := HN6.out.2; omega))
  have HB7 := Lib.hid (show RowKit.Below w0.heap.size w0 w7 from HB6.out.trans (hk7.below HB6.out.size (fun b hb hg => by
    rcases hg with h | h
    · have := HN5.out.1 b h; omega
    · have := HN5.out.2; omega)))
  have hs7 := hk7.size
  have HN7 := Lib.hid (show ∀ b, R7 b ∨ b = br → ((w4.heap.size ≤ b ∧ b < w5.heap.size) ∨ w6.heap.size ≤ b) ∧ b < w7.heap.size from fun b hb => by
    rcases hb with h | h
    · refine ⟨?_, hr7.rlt b h⟩
      rcases hR7 b h with h2 | h2
      · exact .inl (HN5.out.1 b h2)
      · exact .inr h2
    · have := HN5.out.2; rw [h]; omega)
  clear hr7 hk7 hR7 HR6 HO6
  go_wp2_with fail
  with_reducible refine (rppull_any w7 G F R2 br2 bj bd bi2 0 j _ 0 HO7.out ds HES.out z m (by rw [HL.out]; have := HM.out; omega) (by omega) (by rw [HL.out]; omega) (by omega) (HMX.out.up HB7.out)).mono ?_
  rintro r w8 ⟨rfl, R8, hr8, hk8, hR8⟩
  have HO8 := Lib.hid (show RpAt w8 G F R8 br2 bj bd bi2 (2 * 30) j (admAll (Itk.new 0 0) (ds.take m)) m from by
    rw [List.drop_zero, Nat.zero_add, Nat.zero_add] at hr8
    exact hr8.more (by omega))
  have HR8 := Lib.hid (HR7.out.apart hk8 (fun b hb hg hc => by
    have hlo : w5.heap.size ≤ b ∧ b < w6.heap.size := by
      rcases hg with h | h
      · exact HN6.out.1 b h
      · rw [h]; exact HN6.out.2
    rcases hc with h1 | h1 | h1 | h1
    · have := HGL.out b (.inl h1); omega
    · have := HGL.out b (.inr h1); omega
    · have := HN7.out b (.inl h1); omega
    · have := HN7.out b (.inr h1); omega))
  have HB8 := Lib.hid (show RowKit.Below w0.heap.size w0 w8 from HB7.out.trans (hk8.below HB7.out.size (fun b hb hg => by
    rcases hg with h | h
    · have := HN6.out.1 b h; omega
    · have := HN6.out.2; omega)))
  have hs8 := hk8.size
  have HN8 := Lib.hid (show ∀ b, R8 b ∨ b = br2 → ((w5.heap.size ≤ b ∧ b < w6.heap.size) ∨ w7.heap.size ≤ b) ∧ b < w8.heap.size from fun b hb => by
    rcases hb with h | h
    · refine ⟨?_, hr8.rlt b h⟩
      rcases hR8 b h with h2 | h2
      · exact .inl (HN6.out.1 b h2)
      · exact .inr h2
    · have := HN6.out.2; rw [h]; omega)
  have HPG := Lib.hid (show PtGood (2 * 30) (admAll (Itk.new 0 0) (ds.take m)) from by
    obtain ⟨h1, h2⟩ := itkAt_clk HR8.out.it
    exact PtGood.adm rfl h1 h2 (by rw [List.length_take, HL.out]; omega))
  clear hr8 hk8 hR8 HR7 HO7
  go_wp2_with fail
  with_reducible refine (rpint_any w8 G F R7 br bj bd bi (2 * 30) j _ m HR8.out HPG.out (by omega) (HMX.out.up HB8.out) (HE.out.up HB8.out) (tab_up HT.out HB8.out)).mono ?_
  rintro r w9 ⟨b1, F1, rfl, hx, hb9, hF1⟩
  have HX9 := Lib.hid hx
  have HR9 := Lib.hid (HR8.out.up hb9)
  have HO9 := Lib.hid (HO8.out.up hb9)
  have HB9 := Lib.hid (HB8.out.trans (hb9.mono HB8.out.size))
  have hs9 := hb9.size
  have HN9 := Lib.hid hF1
  have HLR8 := Lib.hid (show ∀ b, G b ∨ F b ∨ R7 b ∨ b = br → b < w8.heap.size from fun b hb => by
    rcases hb with h1 | h1 | h1 | h1
    · exact HR8.out.jl.lt b (.inl h1)
    · exact HR8.out.jl.lt b (.inr h1)
    · exact HR8.out.rlt b h1
    · rw [h1]; exact HR8.out.blt)
  have HLO8 := Lib.hid (show ∀ b, G b ∨ F b ∨ R8 b ∨ b = br2 → b < w8.heap.size from fun b hb => by
    rcases hb with h1 | h1 | h1 | h1
    · exact HO8.out.jl.lt b (.inl h1)
    · exact HO8.out.jl.lt b (.inr h1)
    · exact HO8.out.rlt b h1
    · rw [h1]; exact HO8.out.blt)
  clear hx hb9 hF1 HR8 HO8 HPG
  obtain ⟨e0, e1, e2, e3, e4, e5, e6, e7⟩ := HEV.out.below HB9.out (by omega)
  have HAD := Lib.hid (admit_any w9 F1 b1 (2 * 30) _ HX9.out (by omega) e HSM.out (HMX.out.up HB9.out))
  unfold Ev.agg at HAD
  go_wp2_with fail
  clear e0 e1 e2 e3 e4 e5 e6 e7
  with_reducible refine HAD.out.mono ?_
  rintro r w10 ⟨rfl, F10, hx10, hk10, hF10⟩
  have HX10 := Lib.hid hx10
  have HR10 := Lib.hid (HR9.out.apart hk10 (fun b hb hg hc => by have := HN9.out b hg; have := HLR8.out b hc; omega))
  have HO10 := Lib.hid (HO9.out.apart hk10 (fun b hb hg hc => by have := HN9.out b hg; have := HLO8.out b hc; omega))
  have HB10 := Lib.hid (show RowKit.Below w0.heap.size w0 w10 from HB9.out.trans (hk10.below HB9.out.size (fun b hb hg => by have := HN9.out b hg; omega)))
  have hs10 := hk10.size
  have HN10 := Lib.hid (show ∀ b, F10 b → w8.heap.size ≤ b from fun b hb => by
    rcases hF10 b hb with h | h
    · exact HN9.out b h
    · omega)
  clear hx10 hk10 hF10 HX9 HR9 HO9 HAD
  generalize (admAll (Itk.new 0 0) (ds.take m)).admits e = xa at *
  generalize (admAll (Itk.new 0 0) (ds.take m)).admitted e = xv at *
  go_wp2_with fail
  with_reducible refine (itick_any w10 F10 b1 _ xa HX10.out 1073741824).mono ?_
  rintro r w11 ⟨rfl, F11, _, hk11, _⟩
  have HR11 := Lib.hid (HR10.out.apart hk11 (fun b hb hg hc => by have := HN10.out b hg; have := HLR8.out b hc; omega))
  have HO11 := Lib.hid (HO10.out.apart hk11 (fun b hb hg hc => by have := HN10.out b hg; have := HLO8.out b hc; omega))
  have HB11 := Lib.hid (show RowKit.Below w0.heap.size w0 w11 from HB10.out.trans (hk11.below HB10.out.size (fun b hb hg => by have := HN10.out b hg; omega)))
  have hs11 := hk11.size
  clear hk11 HX10 HR10 HO10 HN10 HN9
  generalize (xa.tick 1073741824).clk.mark = xm at *
  go_wp2_with fail
  with_reducible refine (rppull_any w11 G F R7 br bj bd bi (2 * 30) j _ m HR11.out ds HES.out n (n - m) (by rw [HL.out]; omega) (by rw [HL.out]; omega) (by rw [HL.out]; omega) (by omega) (HMX.out.up HB11.out)).mono ?_
  rintro r w12 ⟨rfl, R12, hr12, hk12, hR12⟩
  have HADM := Lib.hid (show admAll (admAll (Itk.new 0 0) (ds.take m)) ((ds.drop m).take (n - m)) = admAll (Itk.new 0 0) ds from by
    rw [← adm_app, ← List.take_add, List.take_of_length_le (by rw [HL.out]; omega)])
  have HR12 := Lib.hid (show RpAt w12 G F R12 br bj bd bi (2 * 90) j (admAll (Itk.new 0 0) ds) n from by
    rw [HADM.out, show m + (n - m) = n by omega] at hr12
    exact hr12.more (by omega))
  have HO12 := Lib.hid (HO11.out.apart hk12 (fun b hb hg hc => by
    have hlo := HN7.out b hg
    rcases hc with h1 | h1 | h1 | h1
    · rcases hg with h | h
      · exact HR11.out.rj b h (.inl h1)
      · exact HR11.out.nr (.inl (h ▸ h1))
    · rcases hg with h | h
      · exact HR11.out.rj b h (.inr h1)
      · exact HR11.out.nr (.inr (.inl (h ▸ h1)))
    · have := HN8.out b (.inl h1); omega
    · have := HN8.out b (.inr h1); omega))
  have HB12 := Lib.hid (show RowKit.Below w0.heap.size w0 w12 from HB11.out.trans (hk12.below HB11.out.size (fun b hb hg => by have := HN7.out b hg; omega)))
  have hs12 := hk12.size
  have HN12 := Lib.hid (show ∀ b, R12 b ∨ b = br → (((w4.heap.size ≤ b ∧ b < w5.heap.size) ∨ w6.heap.size ≤ b) ∧ b < w7.heap.size) ∨ w11.heap.size ≤ b from fun b hb => by
    rcases hb with h | h
    · rcases hR12 b h with h2 | h2
      · exact .inl (HN7.out b (.inl h2))
      · exact .inr h2
    · exact .inl (HN7.out b (.inr h)))
  clear hr12 hk12 hR12 HR11 HO11
  go_wp2_with fail
  with_reducible refine (rppull_any w12 G F R8 br2 bj bd bi2 (2 * 30) j _ m HO12.out ds HES.out n (n - m) (by rw [HL.out]; omega) (by rw [HL.out]; omega) (by rw [HL.out]; omega) (by omega) (HMX.out.up HB12.out)).mono ?_
  rintro r w13 ⟨rfl, R13, hr13, hk13, hR13⟩
  have HO13 := Lib.hid (show RpAt w13 G F R13 br2 bj bd bi2 (2 * 90) j (admAll (Itk.new 0 0) ds) n from by
    rw [HADM.out, show m + (n - m) = n by omega] at hr13
    exact hr13.more (by omega))
  have HR13 := Lib.hid (HR12.out.apart hk13 (fun b hb hg hc => by
    have hlo := HN8.out b hg
    rcases hc with h1 | h1 | h1 | h1
    · rcases hg with h | h
      · exact HO12.out.rj b h (.inl h1)
      · exact HO12.out.nr (.inl (h ▸ h1))
    · rcases hg with h | h
      · exact HO12.out.rj b h (.inr h1)
      · exact HO12.out.nr (.inr (.inl (h ▸ h1)))
    · have := HN12.out b (.inl h1); omega
    · have := HN12.out b (.inr h1); omega))
  have HB13 := Lib.hid (show RowKit.Below w0.heap.size w0 w13 from HB12.out.trans (hk13.below HB12.out.size (fun b hb hg => by have := HN8.out b hg; omega)))
  have HPG := Lib.hid (show PtGood (2 * 90) (admAll (Itk.new 0 0) ds) from by
    obtain ⟨h1, h2⟩ := itkAt_clk HR13.out.it
    exact PtGood.adm rfl h1 h2 (by rw [HL.out]; omega))
  clear hr13 hk13 hR13 HR12 HO12 HN12 HN8 HN7 HN6 HN5 HLR8 HLO8 HGL HGF HADM
  generalize admAll (Itk.new 0 0) ds = x at *
  go_wp2_with fail
  with_reducible refine (rpint_any w13 G F R12 br bj bd bi (2 * 90) j x n HR13.out HPG.out (by omega) (HMX.out.up HB13.out) (HE.out.up HB13.out) (tab_up HT.out HB13.out)).mono ?_
  rintro r w14 ⟨b3, F3, rfl, hy, hb14, _⟩
  have HY14 := Lib.hid hy
  have HR14 := Lib.hid (HR13.out.up hb14)
  have HO14 := Lib.hid (HO13.out.up hb14)
  have HB14 := Lib.hid (HB13.out.trans (hb14.mono HB13.out.size))
  clear hy hb14 HR13 HO13
  go_wp2_with fail
  with_reducible refine (rpint_any w14 G F R13 br2 bj bd bi2 (2 * 90) j x n HO14.out HPG.out (by omega) (HMX.out.up HB14.out) (HE.out.up HB14.out) (tab_up HT.out HB14.out)).mono ?_
  rintro r w15 ⟨b4, F4, rfl, hz, hb15, _⟩
  have HZ15 := Lib.hid hz
  have HY15 := Lib.hid (HY14.out.up hb15)
  have HR15 := Lib.hid (HR14.out.up hb15)
  have HB15 := Lib.hid (HB14.out.trans (hb15.mono HB14.out.size))
  clear hz hb15 HY14 HR14 HO14
  go_wp2_with fail
  with_reducible refine (rpsame_any w15 F3 F4 b3 b4 (2 * 90) x HY15.out HZ15.out HPG.out (by omega)).mono ?_
  rintro r w16 ⟨rfl, hb16⟩
  have HY16 := Lib.hid (HY15.out.up hb16)
  have HZ16 := Lib.hid (HZ15.out.up hb16)
  have HR16 := Lib.hid (HR15.out.up hb16)
  have HB16 := Lib.hid (HB15.out.trans (hb16.mono HB15.out.size))
  clear hb16 HY15 HZ15 HR15
  go_wp2_with fail
  with_reducible refine (imark_any w16 F3 b3 (2 * 90) x HY16.out).mono ?_
  rintro r w17 ⟨rfl, rfl⟩
  go_wp2_with fail
  with_reducible refine (imark_any w16 F4 b4 (2 * 90) x HZ16.out).mono ?_
  rintro r w17 ⟨rfl, rfl⟩
  go_wp2_with fail
  with_reducible refine (rpoff_any w16 G F R12 br bj bd bi (2 * 90) j x n HR16.out).mono ?_
  rintro r w17 ⟨rfl, rfl⟩
  go_wp2
  go_ret
  exact HFIN.out _ HB16.out
end Go.Proofs.YtgbagjpokpchpaaGreatDoor
