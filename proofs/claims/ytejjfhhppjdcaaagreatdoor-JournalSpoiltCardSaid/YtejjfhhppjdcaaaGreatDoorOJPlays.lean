/-
  The law JournalPlays, walked.
-/
import Derived.Test.YtejjfhhppjdcaaaGreatDoorOJGrown
import Derived.Test.YtejjfhhppjdcaaaGreatDoorOJLives
import Derived.Test.YtejjfhhppjdcaaaGreatDoorORJl9
namespace Go.Proofs.YtejjfhhppjdcaaaGreatDoor
open Go.RowKit Go.Maps Go.Sort Go.Shelf

theorem some_small {ds : List Ev} (h : ds.any (fun d => bigB d 300) = false) : ∀ e ∈ ds, e.small := fun e he => by
  have := List.any_eq_false.1 h e he
  unfold bigB at this
  simp only [Bool.or_eq_true, decide_eq_true_eq, not_or, Int.not_lt] at this
  exact ⟨by omega, by omega, by omega, by omega⟩
theorem heavyB_no {ds : List Dj} (h : heavyB ds = false) : (∀ d ∈ ds, ∀ e ∈ d.l, e.small) ∧ sumL ds ≤ 60 := by
  unfold heavyB at h
  simp only [Bool.or_eq_false_iff, decide_eq_false_iff_not, Nat.not_lt] at h
  exact ⟨fun d hd => some_small (by have := List.any_eq_false.1 h.1 d hd; simpa [bigL] using this), h.2.2⟩
theorem nseg_few {n p : Nat} (hp : 1 ≤ p) : nseg n p ≤ n := by
  have h : nseg n p < n + 1 := by
    unfold nseg
    refine (Nat.div_lt_iff_lt_mul (by omega)).2 ?_
    have h1 : n * 1 ≤ n * p := Nat.mul_le_mul_left _ hp
    rw [Nat.succ_mul]; omega
  omega
theorem Djs.more {w : World} {B B' n c : Nat} {A : Option Addr} {ds : List Dj} (h : Djs w B A n c ds) (hB : B ≤ B') : Djs w B' A n c ds :=
  ⟨h.len, h.cap, h.max, fun k hk => by
    obtain ⟨b, off, e, hb, h0, ⟨A1, n1, c1, h1, h1', h1''⟩, h2, h3, h4⟩ := h.at_ k hk
    exact ⟨b, off, e, by omega, h0, ⟨A1, n1, c1, h1, Cel.more h1' hB, h1''⟩, h2, h3, h4⟩⟩
def PlRel (w5 : World) (m : Nat) (i : Value) (W : World) : Prop := ∃ k : Nat, i = .int .i64 k ∧ k ≤ m ∧ RowKit.Below w5.heap.size w5 W
set_option maxRecDepth 100000 in
set_option maxHeartbeats 4000000 in
theorem jplays_any (w : World) (p : Int) (A : Option Addr) (n c : Nat) (ds : List Dj) (h : Djs w w.heap.size A n c ds) (hn : n ≤ 140737488355328) (hmx : MaxAt w) :
    Calls Tryz.prog 7 #[.int .i64 p, .slice A n c] w (Says true w) := by
  have HH := Lib.hid h; clear h
  have HMX := Lib.hid hmx; clear hmx
  go_enter Tryz.func7, Tryz.ntmps7
  go_wp2_with fail
  refine (jlives_any w HMX.out).mono ?_
  rintro r w1 ⟨rfl, hb1⟩
  have hs1 := hb1.size
  by_cases h1 : p < 1
  · go_wp2
    go_ret
    exact ⟨rfl, hb1⟩
  by_cases h2 : 8 < p
  · go_wp2
    go_ret
    exact ⟨rfl, hb1⟩
  have hH1 : Djs w1 w1.heap.size A n c ds := Djs.more (HH.out.below hb1) hs1
  go_wp2_with fail
  refine (heavy05_any w1 A n c ds hH1 hn).mono ?_
  rintro r w2 ⟨rfl, hb2⟩
  have hbw2 : RowKit.Below w.heap.size w w2 := hb1.trans (hb2.mono hs1)
  clear hb2 hb1 hH1
  cases hhv : heavyB ds
  case true =>
    clear hhv
    go_wp2
    go_ret
    exact ⟨rfl, hbw2⟩
  obtain ⟨hsm, hsum⟩ := heavyB_no hhv
  have HSM := Lib.hid hsm
  have HB2 := Lib.hid hbw2
  obtain ⟨per, rfl⟩ := Int.eq_ofNat_of_zero_le (show 0 ≤ p by omega)
  have hs2 := hbw2.size
  clear hsm hhv hbw2
  go_wp2_with fail
  refine (dknew_any w2).mono ?_
  rintro r w3 ⟨bd, G0, rfl, hd3, hG3, hb3⟩
  have HD3 := Lib.hid hd3
  have HB3 := Lib.hid (HB2.out.trans (hb3.mono hs2))
  have hs3 := hb3.size
  have hG3' : ∀ b, G0 b → w.heap.size ≤ b := fun b hb => by have := hG3 b hb; omega
  have HGR := Lib.hid (grown_any w3 G0 bd w.heap.size HD3.out (by omega) hG3' A n c ds (HH.out.below HB3.out) per (by omega) (by omega) HSM.out hsum (HMX.out.up HB3.out) HMX.out.lt hn)
  have HJG := Lib.hid ((Jl.good_new [106] per (by simp) (by omega)).deeds rfl ds (by omega))
  have hpj : ((Jl.new Dk.new [106] per).deeds ds).per = per := HJG.out.2.2.2
  have hnj : ((Jl.new Dk.new [106] per).deeds ds).name = [106] := HJG.out.2.2.1
  generalize (Jl.new Dk.new [106] per).deeds ds = j at *
  clear hd3 hG3 hb3 hG3'
  go_wp2_with fail
  refine HGR.out.mono ?_
  rintro r w4 ⟨bj, z, cc, Av, G, F, rfl, hst, hlo, hb4⟩
  go_upto_region 7 with fail
  have hb45 : RowKit.Below w4.heap.size w4 (w4.alloc (stObj Av z cc j.lasts)) := (Below.refl _ _).alloc (Nat.le_refl _) _
  have hs4 := hb4.size
  have HB5 := Lib.hid (show RowKit.Below w.heap.size w (w4.alloc (stObj Av z cc j.lasts)) from (HB3.out.trans hb4).trans (hb45.mono (by omega)))
  have HST := Lib.hid (hst.up hb45)
  have HT5 := Lib.hid (heap_alloc_new w4 (stObj Av z cc j.lasts))
  have HS5 := Lib.hid (show (w4.alloc (stObj Av z cc j.lasts)).heap.size = w4.heap.size + 1 by simp)
  obtain ⟨b7, hb7⟩ : ∃ b7, b7 = w4.heap.size := ⟨_, rfl⟩
  obtain ⟨w5, hw5⟩ : ∃ w5, w5 = w4.alloc (stObj Av z cc j.lasts) := ⟨_, rfl⟩
  rw [← hw5] at HB5 HST HT5 HS5 ⊢
  rw [← hb7] at HT5 HS5 ⊢
  clear hw5 hb7 hb45 hst hb4 HGR hs4
  have hz : z = j.es.length := by
    obtain ⟨A2, c2, hv2⟩ := ownsRow_form HST.out.row
    injection hv2
  have HZ := Lib.hid hz
  have hz60 : z ≤ 60 := by have := HJG.out.2.1; omega
  have HEN := Lib.hid (show ∀ W, RowKit.Below w5.heap.size w5 W → Ents W W.heap.size Av z cc j.es from fun W hW => by
    have h1 := HST.out.row
    rw [hz] at h1 ⊢
    exact Cel.more (Cel.below (Cel.of_own h1) hW) hW.size)
  have HBX := Lib.hid (show ∀ W, RowKit.Below w5.heap.size w5 W → W.cell? ⟨b7, 0, none⟩ = some (.slice Av z cc) from fun W hW => cell_of_row W _ 0 _ _ (0, 0) ((hW.block _ (by have := HS5.out; omega)).trans HT5.out)
    )
  obtain ⟨ns, hns⟩ : ∃ ns, ns = j.dk.files.map (·.1) := ⟨_, rfl⟩
  obtain ⟨m, hm⟩ : ∃ m, m = nseg z per := ⟨_, rfl⟩
  have hm60 : m ≤ 60 := by rw [hm]; have := nseg_few (n := z) (show 1 ≤ per by omega); omega
  have HRI := Lib.hid (show Rising ns (fileNs [106] m) from by have := HJG.out.1.names; rw [hnj, hpj, ← hz, ← hm] at this; rw [hns]; exact this)
  have hnsl : ns.length ≤ 61 := by
    rw [hns, List.length_map]
    have := HJG.out.1.fine.fl
    omega
  have HNM := Lib.hid (show ∀ W, RowKit.Below w5.heap.size w5 W → Calls Tryz.prog 20 #[.pointer (some ⟨bd, 0, none⟩)] W (SrcPost W ns) from fun W hW => by rw [hns]; exact dknames_any W G bd j.dk (HST.out.jl.up hW).dk)
  have HFL := Lib.hid (show ∀ W, RowKit.Below w5.heap.size w5 W → Calls Tryz.prog 44 #[.string ⟨#[106]⟩, .int .i64 (z : Int), .int .i64 (per : Int)] W (RFlPost W [106] m) from fun W _ => by rw [hm]; exact rfiles_any W [106] z per (by simp) (by omega) (by omega) (by omega) (by rw [← hm]; omega))
  have HB0 := Lib.hid (show RowKit.Below w5.heap.size w5 w5.drew from below_drewN (Below.refl _ _) 1)
  have c70 := HBX.out w5 (Below.refl _ _)
  have HM := Lib.hid hm
  clear hm hns hz
  go_cut [45] (fun v wc => v = .bool false ∧ RowKit.Below w5.heap.size w5 wc)
  case first =>
    go_region_held3 (fun W => W.cell? ⟨b7, 0, none⟩ = some (.slice Av z cc)) (first | assumption | go_keep) (first
      | (go_at_call 21; (with_reducible refine (texts_any _ _ _ AN AF _ cN cF _ HSN.out HSF.out (by omega)).mono ?_); rintro r9 w9 ⟨rfl, q9, hw9⟩; have HB9 := Lib.hid (show RowKit.Below w5.heap.size w5 w9 from hw9 ▸ below_drewN HBC.out q9); have hS9 := HBX.out w9 HB9.out; clear hw9)
      | (go_at_call 20; (with_reducible refine (HNM.out _ HBF.out).mono ?_); rintro r9 w8 ⟨vN, rfl, hoN, hbN⟩; obtain ⟨AN, cN, hvN⟩ := ownsRow_form hoN; subst hvN; have HSN := Lib.hid (show Strs w8 w8.heap.size AN ns.length cN ns from Cel.of_own hoN); have HSX := Lib.hid (Cel.below HSF.out hbN); clear HSF; have HSF := Lib.hid (show Strs w8 _ AF ns.length cF ns from HSX.out); have HBC := Lib.hid (show RowKit.Below w5.heap.size w5 w8 from HBF.out.trans (hbN.mono HBF.out.size)); have hS8 := HBX.out w8 HBC.out; clear hoN hbN)
      | (go_at_call 20; (with_reducible refine (HNM.out _ HB0.out).mono ?_); rintro r9 w8 ⟨vN, rfl, hoN, hbN⟩; obtain ⟨AN, cN, hvN⟩ := ownsRow_form hoN; subst hvN; have HSN := Lib.hid (show Strs w8 w8.heap.size AN ns.length cN ns from Cel.of_own hoN); have HBN := Lib.hid (show RowKit.Below w5.heap.size w5 w8 from HB0.out.trans (hbN.mono HB0.out.size)); have hS8 := HBX.out w8 HBN.out; clear hoN hbN)
      | (go_at_call 44; (with_reducible refine (HFL.out _ HBN.out).mono ?_); rintro r9 w7 ⟨vF, L, rfl, hri, hoF, hbF⟩; obtain rfl : L = ns := rising_unique hri HRI.out; obtain ⟨AF, cF, hvF⟩ := ownsRow_form hoF; subst hvF; have HSF := Lib.hid (show Strs w7 w7.heap.size AF L.length cF L from Cel.of_own hoF); have HSX := Lib.hid (Cel.below HSN.out hbF); clear HSN; have HSN := Lib.hid (show Strs w7 _ AN L.length cN L from HSX.out); have HBC := Lib.hid (show RowKit.Below w5.heap.size w5 w7 from HBN.out.trans (hbF.mono HBN.out.size)); have hS7 := HBX.out w7 HBC.out; clear hoF hbF hri)
      | (go_at_call 44; (with_reducible refine (HFL.out _ HB0.out).mono ?_); rintro r9 w7 ⟨vF, L, rfl, hri, hoF, hbF⟩; obtain rfl : L = ns := rising_unique hri HRI.out; obtain ⟨AF, cF, hvF⟩ := ownsRow_form hoF; subst hvF; have HSF := Lib.hid (show Strs w7 w7.heap.size AF L.length cF L from Cel.of_own hoF); have HBF := Lib.hid (show RowKit.Below w5.heap.size w5 w7 from HB0.out.trans (hbF.mono HB0.out.size)); have hS7 := HBX.out w7 HBF.out; clear hoF hbF hri))
    all_goals
      go_wp2_with fail
      go_meet
      exact ⟨rfl, HB9.out⟩
  case rest =>
    obtain ⟨rfl, hb⟩ := hcut
    have HST0 := Lib.hid (show PlRel w5 m (.int .i64 0) wc from ⟨0, rfl, Nat.zero_le _, hb⟩)
    have HFI := Lib.hid (show ∀ k, k < m → j.dk.read (segF [106] k) = bytesL (segL per k j.es) ∧ j.dk.found (segF [106] k) = 0 from fun k hk => by
      obtain ⟨a1, a2⟩ := HJG.out.1.data (by have := HJG.out.2.1; omega) (k := k) (by rw [hpj, ← HZ.out, ← HM.out]; exact hk)
      rw [hnj] at a1 a2
      rw [hpj] at a2
      exact ⟨by unfold Dk.read; rw [if_pos a1, a2], a1⟩)
    have HRD := Lib.hid (show ∀ W k, RowKit.Below w5.heap.size w5 W → k < m → Calls Tryz.prog 24 #[.pointer (some ⟨bd, 0, none⟩), .string ⟨(segF [106] k).toArray⟩] W (RdPost W (bytesL (segL per k j.es)) 0) from fun W k hW hk => by
      have := dkread_any W G bd j.dk (HST.out.jl.up hW).dk (segF [106] k) (by have := (segF_len [106] (k := k) (by omega)).2; simp at this ⊢; omega)
      rw [(HFI.out k hk).1, (HFI.out k hk).2] at this
      exact this)
    have HMY := Lib.hid (show ∀ e, some e ∈ j.es → mayB e = true from HJG.out.1.sm)
    clear c70 hb
    clear hnj hpj
    go_wp2
    go_loopw [9, 10, 11] (fun i _ _ W => PlRel w5 m i W) (fun i _ _ _ => m - (intOf i).toNat)
    case atStart => exact HST0.out
    case round =>
      obtain ⟨k, rfl, hk, hbr⟩ := hrel
      have HBR := Lib.hid hbr
      have c70 := HBX.out wr hbr
      have hsr := hbr.size
      clear hbr
      go_wp2_with fail
      refine (rsegs_any wr z per (by omega) (by omega) (by omega)).mono ?_
      rintro r w6 ⟨rfl, rfl⟩
      rw [← HM.out]
      by_cases hkm : k < m
      · have t1 : (k : Int) < m := by omega
        go_wp2_with fail
        refine (rfile_any wr [106] k (by simp) (by omega)).mono ?_
        rintro r w7 ⟨rfl, hb7⟩
        have HB7 := Lib.hid (show RowKit.Below w5.heap.size w5 w7 from HBR.out.trans (hb7.mono hsr))
        clear hb7 c70
        go_wp2_with fail
        refine (HRD.out w7 k HB7.out hkm).mono ?_
        rintro r w8 ⟨v8, rfl, ho8, hb8⟩
        obtain ⟨A8, c8, hv8⟩ := ho8.form
        subst hv8
        have HB8 := Lib.hid (show RowKit.Below w5.heap.size w5 w8 from HB7.out.trans (hb8.mono HB7.out.size))
        have HBY := Lib.hid ho8.byt
        have hkz : k * per ≤ z := by
          have h1 : (k + 1) * per ≤ m * per := Nat.mul_le_mul_right _ (by omega)
          have h2 := nseg_lt (n := z) (per := per)
          rw [← HM.out] at h2
          rw [Nat.succ_mul] at h1; omega
        have HCX := Lib.hid (show ∀ W, RowKit.Below w8.heap.size w8 W → W.cell? ⟨b7, 0, none⟩ = some (.slice Av z cc) ∧ (convert 41 9 (.slice A8 (bytesL (segL per k j.es)).length c8)).run Tryz.prog W = .ok (.string ⟨(bytesL (segL per k j.es)).toArray⟩) W from fun W hW =>
          ⟨HBX.out W (HB8.out.trans (hW.mono HB8.out.size)), (HBY.out.below hW).str (P := Tryz.prog) 41 5 9 Tryz.underlying41 Tryz.underlying5 Tryz.underlying9⟩)
        have HSEG := Lib.hid (show Calls Tryz.prog 42 #[.slice Av z cc, .int .i64 (per : Int), .int .i64 (k : Int)] w8.drew (SegP w8.drew (segL per k j.es) w8.heap.size) from rsegment_any w8.drew w8.heap.size Av z cc j.es (Cel.drewN (HEN.out w8 HB8.out) 1) (by omega) per k (by omega) hkz (by omega))
        have HBYT := Lib.hid (show ∀ A3 n3 c3, Ents w8.drew w8.heap.size A3 n3 c3 (segL per k j.es) → Calls Tryz.prog 41 #[.slice A3 n3 c3] w8.drew (StrP w8.drew (bytesL (segL per k j.es))) from fun A3 n3 c3 h3 => rbytes_any w8.drew A3 n3 c3 _ h3 (fun e he => HMY.out e (by unfold segL at he; exact List.mem_of_mem_drop (List.mem_of_mem_take he))) (by
          have h1 := h3.len
          have h2 := segL_le per k j.es
          omega))
        have HRL := Lib.hid (show ∀ W, RowKit.Below w8.heap.size w8 W → PlRel w5 m (.int .i64 ((k : Int) + 1)) W from fun W hW => ⟨k + 1, rfl, by omega, HB8.out.trans (hW.mono HB8.out.size)⟩)
        obtain ⟨c70, kc⟩ := HCX.out w8 (Below.refl _ _)
        clear ho8 hb8
        generalize bytesL (segL per k j.es) = bs at *
        go_upto_region 13 with fail
        go_region_held3 (fun W => W.cell? ⟨b7, 0, none⟩ = some (.slice Av z cc) ∧ (convert 41 9 (.slice A8 bs.length c8)).run Tryz.prog W = .ok (.string ⟨bs.toArray⟩) W) (first | assumption | exact HCX.out _ (below_drewN (Below.refl _ _) 1) | go_keep) (first
          | (go_at_call 42; (with_reducible refine HSEG.out.mono ?_); rintro r9 w9 ⟨A3, n3, c3, rfl, he3, rfl⟩; have HE3 := Lib.hid he3; clear he3)
          | (go_at_call 41; (with_reducible refine (HBYT.out A3 n3 c3 HE3.out).mono ?_); rintro r9 w9 ⟨rfl, hb9⟩; have HB9 := Lib.hid (show RowKit.Below w8.heap.size w8 w9 from (below_drewN (Below.refl _ _) 1).trans hb9); have hS9 := HCX.out w9 HB9.out; clear hb9))
        have HRR := Lib.hid (HRL.out w9 HB9.out)
        clear hS9 c70 kc
        go_wp2
        go_roundw
        case rel => exact HRR.out
        case measure => simp [intOf]; omega
      · have t1 : ¬ (k : Int) < m := by omega
        have HB9 := Lib.hid (show RowKit.Below w.heap.size w wr from HB5.out.trans (HBR.out.mono HB5.out.size))
        go_wp2
        go_ret
        exact ⟨rfl, HB9.out⟩
end Go.Proofs.YtejjfhhppjdcaaaGreatDoor
