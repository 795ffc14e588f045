/-
  The law ReplicaMore, walked.
-/
import Derived.Test.YtgbagjpokpchpaaGreatDoorRRpAsLaw
import Derived.Test.YtgbagjpokpchpaaGreatDoorRSets
namespace Go.Proofs.YtgbagjpokpchpaaGreatDoor
open Go.RowKit Go.Maps Go.Sort Go.Shelf

theorem RpAt.more {w : World} {G F R : Nat → Prop} {br bj bd bi N M : Nat} {j : Jl} {x : Itk} {off : Nat} (h : RpAt w G F R br bj bd bi N j x off) (hN : N ≤ M) : RpAt w G F R br bj bd bi M j x off :=
  ⟨h.jl, h.it.more hN, h.blk, h.nr, h.rj, h.ml⟩
/-- another replica reads on -/
theorem RpAt.apart {w w' : World} {G F R K : Nat → Prop} {br bj bd bi N : Nat} {j : Jl} {x : Itk} {off : Nat} (h : RpAt w G F R br bj bd bi N j x off) (hk : Keep K w w') (hK : ∀ b, b < w.heap.size → K b → ¬ (G b ∨ F b ∨ R b ∨ b = br)) : RpAt w' G F R br bj bd bi N j x off :=
  h.keep hk.size fun b hb => by
    have hlt : b < w.heap.size := by
      rcases hb with h1 | h1 | h1 | h1
      · exact h.jl.lt b (.inl h1)
      · exact h.jl.lt b (.inr h1)
      · exact h.rlt b h1
      · rw [h1]; exact h.blt
    exact hk.block b hlt (fun hg => hK b hlt hg hb)
/-- its journal has grown -/
theorem RpAt.grew {w w' : World} {G F G' F' R : Nat → Prop} {br bj bd bi N : Nat} {j j' : Jl} {x : Itk} {off : Nat} (h : RpAt w G F R br bj bd bi N j x off) (hj : JlIn w' G' F' bj bd j') (hG : ∀ b, G' b → G b ∨ w.heap.size ≤ b) (hF : ∀ b, F' b → F b ∨ w.heap.size ≤ b) (hk : Keep (fun b => G b ∨ F b) w w') : RpAt w' G' F' R br bj bd bi N j' x off := by
  have hb := h.blt
  refine ⟨hj, h.it.keep hk.size (fun b hb => hk.block b (h.rlt b hb) (h.rj b hb)), (hk.block br h.blt (fun hg => h.nr (hg.elim .inl fun h => .inr (.inl h)))).trans h.blk, fun hc => ?_, fun b hb hc => ?_, h.ml⟩
  · rcases hc with h1 | h1 | h1
    · rcases hG _ h1 with h2 | h2
      · exact h.nr (.inl h2)
      · omega
    · rcases hF _ h1 with h2 | h2
      · exact h.nr (.inr (.inl h2))
      · omega
    · exact h.nr (.inr (.inr h1))
  · have hl := h.rlt b hb
    rcases hc with h1 | h1
    · rcases hG _ h1 with h2 | h2
      · exact h.rj b hb (.inl h2)
      · omega
    · rcases hF _ h1 with h2 | h2
      · exact h.rj b hb (.inr h2)
      · omega
set_option maxRecDepth 100000 in
set_option maxHeartbeats 8000000 in
theorem rpmore_any (w : World) (per : Int) (A : Option Addr) (n c : Nat) (ds : List Ev) (h : Evs w w.heap.size A n c ds) (hn : n ≤ 140737488355328) (cut pull : Int) (hmx : MaxAt w) (he : ErrsAt w) (ht : Lib.TabBelow Tryz.prog w.heap.size w "internal/strconv.uint64pow10" .u64 Lib.pow10Tab) :
    Calls Tryz.prog 4 #[.int .i64 per, .slice A n c, .int .i64 cut, .int .i64 pull] w (Says true w) := by
  have HH := Lib.hid h; have HMX := Lib.hid hmx; have HE := Lib.hid he; have HT := Lib.hid ht
  have HL := Lib.hid h.len
  clear h hmx he ht
  go_enter Tryz.func4, Tryz.ntmps4
  go_wp2_with fail
  with_reducible refine (rplives_any w HMX.out).mono ?_
  rintro r w1 ⟨rfl, hb1⟩
  have HB1 := Lib.hid hb1
  have HH1 := Lib.hid (show Evs w1 w1.heap.size A n c ds from Cel.more (Cel.below HH.out hb1) hb1.size)
  clear hb1
  go_wp2_with fail
  with_reducible refine (rpfew_any w1 A n c ds HH1.out hn).mono ?_
  rintro r w2 ⟨rfl, hb2⟩
  have HB2 := Lib.hid (HB1.out.trans (hb2.mono HB1.out.size))
  have HH2 := Lib.hid (show Evs w2 w2.heap.size A n c ds from Cel.more (Cel.below HH1.out hb2) hb2.size)
  clear hb2 HH1
  cases hfw : fewB ds
  case false =>
    clear hfw
    go_wp2
    go_ret
    exact ⟨rfl, HB2.out⟩
  have hfw2 : (ds.length ≤ 30 ∧ ds.any (fun d => bigB d 300) = false) ∧ ds.all mayB = true := by
    unfold fewB at hfw
    simpa using hfw
  have HAL := Lib.hid hfw2.2
  have hn30 : n ≤ 30 := by have := HL.out; omega
  clear hfw hfw2
  by_cases hp1 : per < 1
  · go_wp2
    go_ret
    exact ⟨rfl, HB2.out⟩
  by_cases hp2 : 4096 < per
  · go_wp2
    go_ret
    exact ⟨rfl, HB2.out⟩
  by_cases hc0 : cut < 0
  · go_wp2
    go_ret
    exact ⟨rfl, HB2.out⟩
  by_cases hc1 : (n : Int) < cut
  · go_wp2
    go_ret
    exact ⟨rfl, HB2.out⟩
  obtain ⟨p, rfl⟩ := Int.eq_ofNat_of_zero_le (show 0 ≤ per by omega)
  obtain ⟨t, rfl⟩ := Int.eq_ofNat_of_zero_le (show 0 ≤ cut by omega)
  have hs2 := HB2.out.size
  have htn : t ≤ n := by omega
  have hcap : n ≤ c := Cel.cap HH.out
  have htc : t ≤ c := by omega
  have HE1 := Lib.hid (show Evs w2 w2.heap.size A t c (ds.take t) from by
    have := Cel.upto HH2.out t htn
    unfold Evs; rw [← evCells_takeN]; exact this)
  have HE2 := Lib.hid (show Evs w w.heap.size (if c = t then A else A.map (·.add (t * 8))) (n - t) (c - t) (ds.drop t) from by
    have := Cel.from_ HH.out t htn
    unfold Evs; rw [← evCells_dropN]; exact this)
  have HLT := Lib.hid (show (ds.take t).length = t by rw [List.length_take, HL.out]; omega)
  have HLD := Lib.hid (show (ds.drop t).length = n - t by rw [List.length_drop, HL.out])
  have HA1 := Lib.hid (show (ds.take t).all mayB = true from List.all_eq_true.2 fun e he => List.all_eq_true.1 HAL.out e (List.mem_of_mem_take he))
  have HA2 := Lib.hid (show (ds.drop t).all mayB = true from List.all_eq_true.2 fun e he => List.all_eq_true.1 HAL.out e (List.mem_of_mem_drop he))
  clear hcap
  go_wp2_with fail
  with_reducible refine (rplogF_any w2 A t c (ds.take t) HE1.out (by omega) HA1.out p (by omega) (by omega) (HMX.out.up HB2.out)).mono ?_
  rintro r w3 ⟨bd, bj, G, F, j, rfl, hj, hGF, hb3, hes, hjf⟩
  have HJ := Lib.hid hj; have HES := Lib.hid hes; have HJF := Lib.hid hjf; have HGF := Lib.hid hGF
  have HB3 := Lib.hid (HB2.out.trans (hb3.mono HB2.out.size))
  have hs3 := hb3.size
  clear hj hGF hb3 hes hjf hp1 hp2 HE1 HH2
  go_wp2_with fail
  with_reducible refine (rpnew_any w3 G F bj bd j HJ.out 0 0 (HMX.out.up HB3.out)).mono ?_
  rintro r w4 ⟨br, bi, R, rfl, hr4, hb4, hR, hbr⟩
  have HR4 := Lib.hid hr4
  have HB4 := Lib.hid (HB3.out.trans (hb4.mono HB3.out.size))
  have hs4 := hb4.size
  have HNW := Lib.hid (show (∀ b, R b → w3.heap.size ≤ b) ∧ w3.heap.size ≤ br from ⟨hR, hbr⟩)
  clear hr4 hb4 hR hbr HJ
  obtain ⟨m, hm⟩ : ∃ m : Nat, m = (min (max pull 0) (t : Int)).toNat := ⟨_, rfl⟩
  have hm2 : min (max pull 0) (t : Int) = (m : Int) := by omega
  have hmt : m ≤ t := by omega
  go_wp2_with fail
  with_reducible refine (rppull_any w4 G F R br bj bd bi 0 j _ 0 HR4.out (ds.take t) HES.out pull m (by rw [HLT.out]; omega) (by omega) (by rw [HLT.out]; omega) (by omega) (HMX.out.up HB4.out)).mono ?_
  rintro r w5 ⟨rfl, R5, hr5, hk5, hR5⟩
  have HR5 := Lib.hid (show RpAt w5 G F R5 br bj bd bi (2 * m) j (admAll (Itk.new 0 0) (ds.take m)) m from by
    have e1 : ((ds.take t).drop 0).take m = ds.take m := by rw [List.drop_zero, List.take_take, Nat.min_eq_left hmt]
    rw [e1, Nat.zero_add, Nat.zero_add] at hr5
    exact hr5)
  have HB5 := Lib.hid (show RowKit.Below w.heap.size w w5 from HB4.out.trans (hk5.below HB4.out.size (fun b hb hg => by
    rcases hg with h | h
    · have := HNW.out.1 b h; omega
    · have := HNW.out.2; omega)))
  have HNR := Lib.hid (show ∀ b, R5 b → w.heap.size ≤ b from fun b hb => by
    rcases hR5 b hb with h | h
    · have := HNW.out.1 b h; omega
    · omega)
  have hs5 := HB5.out.size
  have hbrw : w.heap.size ≤ br := by have := HNW.out.2; omega
  clear hr5 hk5 hR5 HR4 HNW hm
  have HAF := Lib.hid (app_fine HJF.out (es := ds.drop t) (by rw [HES.out, List.length_map, HLT.out, HLD.out]; omega) HA2.out)
  have HAPP := Lib.hid (show ∀ A' n' c', Evs w w.heap.size A' n' c' (ds.drop t) → Calls Tryz.prog 18 #[.pointer (some ⟨bj, 0, none⟩), .slice A' n' c'] w5 (AppPost w5 G F bj bd (j.app (ds.drop t)) (j.appN (ds.drop t)) (j.appE (ds.drop t))) from fun A' n' c' hev =>
    jlapp_any w5 G F bj bd j HR5.out.jl A' n' c' (ds.drop t) (Cel.more (Cel.below hev HB5.out) HB5.out.size) (fun b off e h0 hg => by
      obtain ⟨b', off', e', hb', _⟩ := Cel.cell hev h0
      rw [e'] at e; injection e with e; injection e with e
      have := HGF.out b hg; omega) (fun e he => mayB_small33 (List.all_eq_true.1 HA2.out e he)) (by rw [HES.out, List.length_map, HLT.out, HLD.out]; omega) (HMX.out.up HB5.out) ⟨fun hg => by have := HMX.out.lt; have := HGF.out _ (.inl hg); omega, fun hg => by have := HMX.out.lt; have := HGF.out _ (.inr hg); omega⟩)
  rw [HAF.out.2.1, HAF.out.2.2.1] at HAPP
  have HAP := Lib.hid (HAPP.out _ _ _ HE2.out)
  clear HAPP HE2
  have HNN := Lib.hid (show n = t → n - t = 0 by omega)
  by_cases hct : c = t
  case' pos =>
    rw [if_pos hct] at HAP
    have z2 : c - t = 0 := by omega
    rw [z2] at HAP
    clear z2
  case' neg => rw [if_neg hct] at HAP
  all_goals
    go_wp2_with fail
    with_reducible refine HAP.out.mono ?_
    rintro r w6 ⟨rfl, G6, F6, hj6, hG6, hF6, hk6⟩
    have HR6 := Lib.hid (HR5.out.grew hj6 hG6 hF6 hk6)
    have HES6 := Lib.hid (show (j.app (ds.drop t)).es = ds.map some from by rw [HAF.out.2.2.2, HES.out, ← List.map_append, List.take_append_drop])
    have HB6 := Lib.hid (show RowKit.Below w.heap.size w w6 from HB5.out.trans (hk6.below HB5.out.size (fun b hb hg => by have := HGF.out b hg; omega)))
    have hs6 := HB6.out.size
    clear hj6 hG6 hF6 hk6 HR5 HAP HAF
    generalize j.app (ds.drop t) = j6 at *
    go_wp2_with fail
    with_reducible refine (rpoff_any w6 G6 F6 R5 br bj bd bi (2 * m) j6 _ m HR6.out).mono ?_
    rintro r w7 ⟨rfl, rfl⟩
    have hnm : (n : Int) - m = ((n - m : Nat) : Int) := by omega
    go_wp2_with fail
    with_reducible refine (rpnew_any w6 G6 F6 bj bd j6 HR6.out.jl 0 0 (HMX.out.up HB6.out)).mono ?_
    rintro r w7 ⟨br2, bi2, R2, rfl, hr7, hb7, hR2, hbr2⟩
    have HR7 := Lib.hid (HR6.out.up hb7)
    have HO7 := Lib.hid hr7
    have HB7 := Lib.hid (HB6.out.trans (hb7.mono HB6.out.size))
    have hs7 := hb7.size
    have HN7 := Lib.hid (show (∀ b, R2 b → w6.heap.size ≤ b) ∧ w6.heap.size ≤ br2 from ⟨hR2, hbr2⟩)
    have HLO := Lib.hid (show ∀ b, G6 b ∨ F6 b ∨ R5 b ∨ b = br → b < w6.heap.size from fun b hb => by
      rcases hb with h1 | h1 | h1 | h1
      · exact HR6.out.jl.lt b (.inl h1)
      · exact HR6.out.jl.lt b (.inr h1)
      · exact HR6.out.rlt b h1
      · rw [h1]; exact HR6.out.blt)
    clear hr7 hb7 hR2 hbr2 HR6
    go_wp2_with fail
    with_reducible refine (rppull_any w7 G6 F6 R5 br bj bd bi (2 * m) j6 _ m HR7.out ds HES6.out 1099511627776 (n - m) (by rw [HL.out]; omega) (by rw [HL.out]; omega) (by rw [HL.out]; omega) (by omega) (HMX.out.up HB7.out)).mono ?_
    rintro r w8 ⟨rfl, R8, hr8, hk8, hR8⟩
    have HR8 := Lib.hid (show RpAt w8 G6 F6 R8 br bj bd bi (2 * 30) j6 (admAll (Itk.new 0 0) ds) n from by
      have e1 : admAll (admAll (Itk.new 0 0) (ds.take m)) ((ds.drop m).take (n - m)) = admAll (Itk.new 0 0) ds := by
        rw [← adm_app, ← List.take_add, List.take_of_length_le (by rw [HL.out]; omega)]
      rw [e1, show m + (n - m) = n by omega] at hr8
      exact hr8.more (by omega))
    have HO8 := Lib.hid (HO7.out.apart hk8 (fun b hb hg hc => by
      have hlo : b < w6.heap.size := HLO.out b (hg.elim (fun h => .inr (.inr (.inl h))) (fun h => .inr (.inr (.inr h))))
      rcases hc with h1 | h1 | h1 | h1
      · rcases hg with h | h
        · exact HR7.out.rj b h (.inl h1)
        · exact HR7.out.nr (.inl (h ▸ h1))
      · rcases hg with h | h
        · exact HR7.out.rj b h (.inr h1)
        · exact HR7.out.nr (.inr (.inl (h ▸ h1)))
      · have := HN7.out.1 b h1; omega
      · have := HN7.out.2; omega))
    have HB8 := Lib.hid (show RowKit.Below w.heap.size w w8 from HB7.out.trans (hk8.below HB7.out.size (fun b hb hg => by
      rcases hg with h | h
      · have := HNR.out b h; omega
      · omega)))
    have HLR8 := Lib.hid (show ∀ b, R8 b → (b < w6.heap.size ∧ w.heap.size ≤ b) ∨ w7.heap.size ≤ b from fun b hb => by
      rcases hR8 b hb with h | h
      · exact .inl ⟨HLO.out b (.inr (.inr (.inl h))), HNR.out b h⟩
      · exact .inr h)
    have HO7L := Lib.hid (show (∀ b, R2 b → b < w7.heap.size) ∧ br2 < w7.heap.size from ⟨HO7.out.rlt, HO7.out.blt⟩)
    have HBL := Lib.hid (HLO.out br (.inr (.inr (.inr rfl))))
    have hs8 := hk8.size
    clear hr8 hk8 hR8 HR7 HO7
    go_wp2_with fail
    with_reducible refine (rppull_any w8 G6 F6 R2 br2 bj bd bi2 0 j6 _ 0 HO8.out ds HES6.out n n (by rw [HL.out]; omega) (by omega) (by rw [HL.out]; omega) (by omega) (HMX.out.up HB8.out)).mono ?_
    rintro r w9 ⟨rfl, R9, hr9, hk9, hR9⟩
    have HO9 := Lib.hid (show RpAt w9 G6 F6 R9 br2 bj bd bi2 (2 * 30) j6 (admAll (Itk.new 0 0) ds) n from by
      have e1 : ((ds.drop 0).take n) = ds := by rw [List.drop_zero, List.take_of_length_le (by rw [HL.out]; omega)]
      rw [e1, Nat.zero_add, Nat.zero_add] at hr9
      exact hr9.more (by omega))
    have HR9 := Lib.hid (HR8.out.apart hk9 (fun b hb hg hc => by
      have hlo : w6.heap.size ≤ b ∧ b < w7.heap.size := by
        rcases hg with h | h
        · exact ⟨HN7.out.1 b h, HO7L.out.1 b h⟩
        · rw [h]; exact ⟨HN7.out.2, HO7L.out.2⟩
      rcases hc with h1 | h1 | h1 | h1
      · have := HLO.out b (.inl h1); omega
      · have := HLO.out b (.inr (.inl h1)); omega
      · have := HLR8.out b h1; omega
      · have := HBL.out; omega))
    have HB9 := Lib.hid (show RowKit.Below w.heap.size w w9 from HB8.out.trans (hk9.below HB8.out.size (fun b hb hg => by
      rcases hg with h | h
      · have := HN7.out.1 b h; omega
      · have := HN7.out.2; omega)))
    have HRN := Lib.hid (show ∀ b, R9 b ∨ b = br2 → (w6.heap.size ≤ b ∧ b < w7.heap.size) ∨ w8.heap.size ≤ b from fun b hb => by
      rcases hb with h | h
      · rcases hR9 b h with h2 | h2
        · exact .inl ⟨HN7.out.1 b h2, HO7L.out.1 b h2⟩
        · exact .inr h2
      · rw [h]; exact .inl ⟨HN7.out.2, HO7L.out.2⟩)
    have HR8L := Lib.hid (show ∀ b, R8 b → b < w8.heap.size from HR8.out.rlt)
    clear hr9 hk9 hR9 HR8 HO8
    go_wp2_with fail
    with_reducible refine (rppull_any w9 G6 F6 R8 br bj bd bi (2 * 30) j6 _ n HR9.out ds HES6.out 5 0 (by rw [HL.out]; omega) (by rw [HL.out]; omega) (by rw [HL.out]; omega) (by omega) (HMX.out.up HB9.out)).mono ?_
    rintro r w10 ⟨rfl, R10, hr10, hk10, hR10⟩
    have HR10 := Lib.hid (show RpAt w10 G6 F6 R10 br bj bd bi (2 * 30) j6 (admAll (Itk.new 0 0) ds) n from hr10)
    have HO10 := Lib.hid (HO9.out.apart hk10 (fun b hb hg hc => by
      have hlo : (b < w6.heap.size ∨ w7.heap.size ≤ b) ∧ b < w8.heap.size := by
        rcases hg with h | h
        · have := HLR8.out b h; have := HR8L.out b h; omega
        · have := HBL.out; omega
      rcases hc with h1 | h1 | h1 | h1
      · rcases hg with h | h
        · exact HR9.out.rj b h (.inl h1)
        · exact HR9.out.nr (.inl (h ▸ h1))
      · rcases hg with h | h
        · exact HR9.out.rj b h (.inr h1)
        · exact HR9.out.nr (.inr (.inl (h ▸ h1)))
      · have := HRN.out b (.inl h1); omega
      · have := HRN.out b (.inr h1); omega))
    have HB10 := Lib.hid (show RowKit.Below w.heap.size w w10 from HB9.out.trans (hk10.below HB9.out.size (fun b hb hg => by
      rcases hg with h | h
      · have := HLR8.out b h; omega
      · omega)))
    have HPG := Lib.hid (show PtGood (2 * 30) (admAll (Itk.new 0 0) ds) from by
      obtain ⟨h1, h2⟩ := itkAt_clk HR10.out.it
      exact PtGood.adm rfl h1 h2 (by rw [HL.out]; omega))
    clear hr10 hk10 hR10 HR9 HO9 HRN HR8L HLR8 HBL HO7L HLO HN7 HNR
    generalize admAll (Itk.new 0 0) ds = x at *
    go_wp2_with fail
    with_reducible refine (rpint_any w10 G6 F6 R10 br bj bd bi (2 * 30) j6 x n HR10.out HPG.out (by omega) (HMX.out.up HB10.out) (HE.out.up HB10.out) (tab_up HT.out HB10.out)).mono ?_
    rintro r w11 ⟨b1, F1, rfl, hx, hb11, hF1⟩
    have HX11 := Lib.hid hx
    have HO11 := Lib.hid (HO10.out.up hb11)
    have HB11 := Lib.hid (HB10.out.trans (hb11.mono HB10.out.size))
    clear hx hb11 hF1 HR10 HO10
    go_wp2_with fail
    with_reducible refine (rpint_any w11 G6 F6 R9 br2 bj bd bi2 (2 * 30) j6 x n HO11.out HPG.out (by omega) (HMX.out.up HB11.out) (HE.out.up HB11.out) (tab_up HT.out HB11.out)).mono ?_
    rintro r w12 ⟨b2, F2, rfl, hy, hb12, hF2⟩
    have HY12 := Lib.hid hy
    have HX12 := Lib.hid (HX11.out.up hb12)
    have HB12 := Lib.hid (HB11.out.trans (hb12.mono HB11.out.size))
    clear hy hb12 hF2 HO11 HX11
    go_wp2_with fail
    with_reducible refine (rpsame_any w12 F1 F2 b1 b2 (2 * 30) x HX12.out HY12.out HPG.out (by omega)).mono ?_
    rintro r w13 ⟨rfl, hb13⟩
    have HX13 := Lib.hid (HX12.out.up hb13)
    have HY13 := Lib.hid (HY12.out.up hb13)
    have HB13 := Lib.hid (HB12.out.trans (hb13.mono HB12.out.size))
    clear hb13 HX12 HY12
    go_wp2_with fail
    with_reducible refine (imark_any w13 F1 b1 (2 * 30) x HX13.out).mono ?_
    rintro r w14 ⟨rfl, rfl⟩
    go_wp2_with fail
    with_reducible refine (imark_any w13 F2 b2 (2 * 30) x HY13.out).mono ?_
    rintro r w14 ⟨rfl, rfl⟩
    go_wp2
    go_ret
    exact ⟨rfl, HB13.out⟩
end Go.Proofs.YtgbagjpokpchpaaGreatDoor
