/-
  The law ReplicaAsOf, walked.
-/
import Derived.Test.YtgbagjpokpchpaaGreatDoorRRpSame
namespace Go.Proofs.YtgbagjpokpchpaaGreatDoor
open Go.RowKit Go.Maps Go.Sort Go.Shelf

theorem adm_app (x : Itk) (a b : List Ev) : admAll x (a ++ b) = admAll (admAll x a) b := by unfold admAll; rw [List.foldl_append]
theorem set_uniq {l : List Ev} {m : Int} {k k' : Nat} (h : SetAt l m k) (h' : SetAt l m k') : k = k' := by
  rcases Nat.lt_trichotomy k k' with hlt | rfl | hlt
  · have h1 := h'.2.1 k (by have := h'.1; omega) hlt
    have h2 := h.2.2 k (by have := h'.1; omega) (Nat.le_refl _)
    omega
  · rfl
  · have h1 := h.2.1 k' (by have := h.1; omega) hlt
    have h2 := h'.2.2 k' (by have := h.1; omega) (Nat.le_refl _)
    omega
/-- an offset that isn't there -/
theorem rpasof_bad (w : World) (G F : Nat → Prop) (bj bd : Nat) (j : Jl) (hj : JlIn w G F bj bd j) (slack idle off : Int) (ho : off < 0 ∨ (j.es.length : Int) < off) :
    Calls Tryz.prog 11 #[.pointer (some ⟨bj, 0, none⟩), .int .i64 slack, .int .i64 idle, .int .i64 off] w (fun e w' => e = .returned (.tuple #[.pointer none, .int .i64 9]) ∧ RowKit.Below w.heap.size w w') := by
  have HLN := Lib.hid (jllen_any w G F bj bd j hj)
  clear hj
  go_enter Tryz.func11, Tryz.ntmps11
  by_cases h0 : off < 0
  · go_wp2
    go_ret2
    exact ⟨rfl, Below.refl _ _⟩
  · have h1 : (j.es.length : Int) < off := by omega
    go_wp2_with fail
    refine HLN.out.mono ?_
    rintro r w1 ⟨rfl, rfl⟩
    go_wp2
    go_ret2
    exact ⟨rfl, Below.refl _ _⟩
def AsRel (w w6 : World) (G F R0 : Nat → Prop) (br bj bd bi : Nat) (j : Jl) (ds : List Ev) (slack idle : Int) (off : Nat) (i : Value) (wr : World) : Prop :=
  ∃ (k : Nat) (R : Nat → Prop), i = .int .i64 k ∧ k ≤ off ∧ RpAt wr G F R br bj bd bi (2 * k) j (admAll (Itk.new slack idle) (ds.take k)) k ∧ Keep (fun b => R0 b ∨ b = br) w6 wr ∧ (∀ b, R b → R0 b ∨ w6.heap.size ≤ b) ∧ RowKit.Below w.heap.size w wr
theorem itkAt_clk {w : World} {F : Nat → Prop} {bi N : Nat} {x : Itk} (h : ItkAt w F bi N x) : ItkOk N x ∧ ClkOk x.clk := by
  obtain ⟨A, hM, hO, _⟩ := h
  exact ⟨hO, hM.clk.ok⟩
set_option maxRecDepth 100000 in
set_option maxHeartbeats 8000000 in
theorem rpaslaw_any (w : World) (per : Int) (A : Option Addr) (n c : Nat) (ds : List Ev) (h : Evs w w.heap.size A n c ds) (hn : n ≤ 140737488355328) (slack idle off : Int) (hmx : MaxAt w) (he : ErrsAt w) (ht : Lib.TabBelow Tryz.prog w.heap.size w "internal/strconv.uint64pow10" .u64 Lib.pow10Tab) :
    Calls Tryz.prog 6 #[.int .i64 per, .slice A n c, .int .i64 slack, .int .i64 idle, .int .i64 off] w (Says true w) := by
  have HH := Lib.hid h; have HMX := Lib.hid hmx; have HE := Lib.hid he; have HT := Lib.hid ht
  have HL := Lib.hid h.len
  clear h hmx he ht
  go_enter Tryz.func6, Tryz.ntmps6
  go_wp2_with fail
  refine (rplives_any w HMX.out).mono ?_
  rintro r w1 ⟨rfl, hb1⟩
  have HB1 := Lib.hid hb1
  have HH1 := Lib.hid (show Evs w1 w1.heap.size A n c ds from Cel.more (Cel.below HH.out hb1) hb1.size)
  clear hb1
  go_wp2_with fail
  refine (rpfew_any w1 A n c ds HH1.out hn).mono ?_
  rintro r w2 ⟨rfl, hb2⟩
  have HB2 := Lib.hid (HB1.out.trans (hb2.mono HB1.out.size))
  have HH2 := Lib.hid (show Evs w2 w2.heap.size A n c ds from Cel.more (Cel.below HH1.out hb2) hb2.size)
  clear hb2 HH1
  cases hfw : fewB ds
  case false =>
    clear hfw
    go_wp2
    go_ret
    exact ⟨rfl, HB2.out⟩
  have hfw2 : (ds.length ≤ 30 ∧ ds.any (fun d => bigB d 300) = false) ∧ ds.all mayB = true := by
    unfold fewB at hfw
    simpa using hfw
  have HAL := Lib.hid hfw2.2
  have hn30 : n ≤ 30 := by have := HL.out; omega
  have hdl : ds.length ≤ 30 := hfw2.1.1
  clear hfw hfw2
  by_cases hp1 : per < 1
  · go_wp2
    go_ret
    exact ⟨rfl, HB2.out⟩
  by_cases hp2 : 4096 < per
  · go_wp2
    go_ret
    exact ⟨rfl, HB2.out⟩
  obtain ⟨p, rfl⟩ := Int.eq_ofNat_of_zero_le (show 0 ≤ per by omega)
  have hs2 := HB2.out.size
  go_wp2_with fail
  refine (rplog_any w2 A n c ds HH2.out (by omega) HAL.out p (by omega) (by omega) (HMX.out.up HB2.out)).mono ?_
  rintro r w3 ⟨bd, bj, G, F, j, rfl, hj, hGF, hb3, hes⟩
  have HJ := Lib.hid hj; have HES := Lib.hid hes
  have HB3 := Lib.hid (HB2.out.trans (hb3.mono HB2.out.size))
  have hlj : j.es.length = ds.length := by rw [hes, List.length_map]
  have hs3 := hb3.size
  clear hj hGF hb3 hes HH2 hp1 hp2
  have hln := HL.out
  by_cases hoff : off < 0 ∨ (ds.length : Int) < off
  · have HBAD := Lib.hid (rpasof_bad w3 G F bj bd j HJ.out slack idle off (by rw [hlj]; exact hoff))
    go_wp2_with fail
    refine HBAD.out.mono ?_
    rintro r w4 ⟨rfl, hb4⟩
    have HB4 := Lib.hid (HB3.out.trans (hb4.mono HB3.out.size))
    clear hb4 HBAD hlj
    by_cases h0 : off < 0
    · go_wp2
      go_ret
      exact ⟨rfl, HB4.out⟩
    · have h1 : (n : Int) < off := by omega
      clear hoff
      go_wp2
      go_ret
      exact ⟨rfl, HB4.out⟩
  have ho0 : ¬ off < 0 := fun h => hoff (.inl h)
  have ho1 : ¬ (ds.length : Int) < off := fun h => hoff (.inr h)
  have ho2 : ¬ (n : Int) < off := by omega
  obtain ⟨m, rfl⟩ := Int.eq_ofNat_of_zero_le (show 0 ≤ off by omega)
  have hmd : m ≤ ds.length := by omega
  have hm30 : m ≤ 30 := by omega
  clear hoff hln
  go_wp2_with fail
  refine (rpasof_any w3 G F bj bd j HJ.out ds HES.out slack idle m hmd (by omega) (HMX.out.up HB3.out)).mono ?_
  rintro r w4 ⟨b1, F1, rfl, hx, hb4, hF1⟩
  have HX := Lib.hid hx
  have HB4 := Lib.hid (HB3.out.trans (hb4.mono HB3.out.size))
  have HJ4 := Lib.hid (HJ.out.keep hb4.size (fun b hb => hb4.block b (HJ.out.lt b hb)))
  have hs4 := hb4.size
  have HF1 := Lib.hid hF1
  clear hx hb4 HJ hF1
  go_wp2_with fail
  refine (rpnew_any w4 G F bj bd j HJ4.out slack idle (HMX.out.up HB4.out)).mono ?_
  rintro r w5 ⟨br, bi, R0, rfl, hr5, hb5, hR0, hbr⟩
  have HB5 := Lib.hid (HB4.out.trans (hb5.mono HB4.out.size))
  have HX5 := Lib.hid (HX.out.up hb5)
  have HR0 := Lib.hid (show (∀ b, R0 b → w4.heap.size ≤ b) ∧ w4.heap.size ≤ br from ⟨hR0, hbr⟩)
  have HXL := Lib.hid (show ∀ b, F1 b → b < w4.heap.size from by obtain ⟨A', _, _, _, _, _, h6⟩ := HX.out; exact h6)
  have hs5 := hb5.size
  have HST := Lib.hid (show AsRel w w5 G F R0 br bj bd bi j ds slack idle m (.int .i64 0) w5 from ⟨0, R0, rfl, Nat.zero_le _, hr5, Keep.refl _ _, fun b hb => .inl hb, HB5.out⟩)
  clear hr5 hb5 hR0 hbr HX
  go_wp2
  go_loopw [15] (fun i wr => AsRel w w5 G F R0 br bj bd bi j ds slack idle m i wr) (fun i _ => m - (intOf i).toNat)
  case atStart => exact HST.out
  case round =>
    obtain ⟨k, R, rfl, hk, hr, hkp, hRR, hbel⟩ := hrel
    have HR := Lib.hid hr; have HK := Lib.hid hkp; have HRR := Lib.hid hRR; have HB := Lib.hid hbel
    have hsr := hkp.size
    clear hr hkp hRR HST
    by_cases hkm : k < m
    · have t1 : (k : Int) < m := by omega
      go_wp2_with fail
      refine (rppull_any wr G F R br bj bd bi (2 * k) j _ k HR.out ds HES.out 1 1 (by omega) (by omega) (by omega) (by omega) (HMX.out.up HB.out)).mono ?_
      rintro r w6 ⟨rfl, R', hr6, hk6, hR6⟩
      have HREL := Lib.hid (show AsRel w w5 G F R0 br bj bd bi j ds slack idle m (.int .i64 ((k + 1 : Nat) : Int)) w6 from by
        refine ⟨k + 1, R', rfl, by omega, ?_, ?_, ?_, ?_⟩
        · have e1 : admAll (admAll (Itk.new slack idle) (ds.take k)) ((ds.drop k).take 1) = admAll (Itk.new slack idle) (ds.take (k + 1)) := by rw [← adm_app, ← List.take_add]
          rw [e1] at hr6
          exact hr6
        · refine HK.out.trans hk6 fun b hb hg => ?_
          rcases hg with h | h
          · rcases HRR.out b h with h2 | h2
            · exact .inl h2
            · omega
          · exact .inr h
        · intro b hb
          rcases hR6 b hb with h | h
          · exact HRR.out b h
          · exact .inr (by omega)
        · refine HB.out.trans (hk6.below HB.out.size fun b hb hg => ?_)
          rcases hg with h | h
          · rcases HRR.out b h with h2 | h2
            · have := HR0.out.1 b h2; omega
            · omega
          · have := HR0.out.2; omega)
      clear hr6 hk6 hR6
      go_wp2
      go_roundw
      case rel => exact HREL.out
      case measure => simp [intOf]; omega
    · have hkk : k = m := by omega
      have t1 : ¬ (k : Int) < m := by omega
      subst hkk
      have HXR := Lib.hid (HX5.out.keep hsr (fun b hb => HK.out.block b (by have := HXL.out b hb; omega) (fun hg => by
        have h1 := HXL.out b hb
        rcases hg with h | h
        · have := HR0.out.1 b h; omega
        · have := HR0.out.2; omega)))
      have HPG := Lib.hid (show PtGood (2 * 30) (admAll (Itk.new slack idle) (ds.take k)) from by
        obtain ⟨h1, h2⟩ := itkAt_clk HXR.out
        exact PtGood.adm rfl (h1.more (by omega)) h2 (by rw [List.length_take]; omega))
      have HRM := Lib.hid (show RpAt wr G F R br bj bd bi (2 * 30) j (admAll (Itk.new slack idle) (ds.take k)) k from ⟨HR.out.jl, HR.out.it.more (by omega), HR.out.blk, HR.out.nr, HR.out.rj, HR.out.ml⟩)
      have HXM := Lib.hid (HXR.out.more (show 2 * k ≤ 2 * 30 by omega))
      clear HR HXR HX5
      generalize admAll (Itk.new slack idle) (ds.take k) = x at *
      go_wp2_with fail
      refine (rpint_any wr G F R br bj bd bi (2 * 30) j x k HRM.out HPG.out (by omega) (HMX.out.up HB.out) (HE.out.up HB.out) (tab_up HT.out HB.out)).mono ?_
      rintro r w7 ⟨b2, F2, rfl, hy, hb7, hF2⟩
      have HY := Lib.hid hy
      have HX7 := Lib.hid (HXM.out.up hb7)
      have HB7 := Lib.hid (HB.out.trans (hb7.mono HB.out.size))
      clear hy hb7 hF2 HRM HXM
      go_wp2_with fail
      refine (rpsame_any w7 F1 F2 b1 b2 (2 * 30) x HX7.out HY.out HPG.out (by omega)).mono ?_
      rintro r w8 ⟨rfl, hb8⟩
      have HX8 := Lib.hid (HX7.out.up hb8)
      have HY8 := Lib.hid (HY.out.up hb8)
      have HB8 := Lib.hid (HB7.out.trans (hb8.mono HB7.out.size))
      clear hb8 HX7 HY
      go_wp2_with fail
      refine (imark_any w8 F1 b1 (2 * 30) x HX8.out).mono ?_
      rintro r w9 ⟨rfl, rfl⟩
      go_wp2_with fail
      refine (imark_any w8 F2 b2 (2 * 30) x HY8.out).mono ?_
      rintro r w9 ⟨rfl, rfl⟩
      go_wp2_with fail
      refine (settled_any w8 F1 b1 (2 * 30) x HX8.out (by omega)).mono ?_
      rintro r w9 ⟨k1, v1, hs1, rfl, ho1, hb9⟩
      obtain ⟨tk, htk⟩ : ∃ tk, tk = x.taken.take k1 := ⟨_, rfl⟩
      have HTK := Lib.hid htk
      have HLX := Lib.hid (show tk.length ≤ 100000 by have := HPG.out.ok.taken; rw [htk, List.length_take]; omega)
      rw [← htk] at ho1
      clear htk
      obtain ⟨A1, c1, rfl⟩ := ownsRow_form ho1
      have HE1 := Lib.hid (show Evs w9 w9.heap.size A1 tk.length c1 tk from Cel.of_own ho1)
      have HY9 := Lib.hid (HY8.out.up hb9)
      have HB9 := Lib.hid (HB8.out.trans (hb9.mono HB8.out.size))
      have HS1 := Lib.hid hs1
      clear ho1 hb9 hs1
      go_wp2_with fail
      refine (settled_any w9 F2 b2 (2 * 30) x HY9.out (by omega)).mono ?_
      rintro r w10 ⟨k2, v2, hs2, rfl, ho2, hb10⟩
      obtain rfl := set_uniq HS1.out hs2
      rw [← HTK.out] at ho2
      obtain ⟨A2, c2, rfl⟩ := ownsRow_form ho2
      have HE2 := Lib.hid (show Evs w10 w10.heap.size A2 tk.length c2 tk from Cel.of_own ho2)
      have HE12 := Lib.hid (show Evs w10 w10.heap.size A1 tk.length c1 tk from Cel.more (Cel.below HE1.out hb10) hb10.size)
      have HB10 := Lib.hid (HB9.out.trans (hb10.mono HB9.out.size))
      have hlx := HLX.out
      clear ho2 hb10 hs2
      go_wp2_with fail
      refine (same02_any w10 _ _ A1 A2 _ c1 c2 _ HE12.out HE2.out hlx).mono ?_
      rintro r w11 ⟨rfl, q, rfl⟩
      have HB11 := Lib.hid (below_drewN HB10.out q)
      go_wp2
      go_ret
      exact ⟨rfl, HB11.out⟩
end Go.Proofs.YtgbagjpokpchpaaGreatDoor
