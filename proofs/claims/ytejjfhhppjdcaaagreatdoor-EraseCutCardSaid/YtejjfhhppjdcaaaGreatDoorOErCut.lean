/-
  The law EraseCut, walked.
-/
import Derived.Test.YtejjfhhppjdcaaaGreatDoorOErLogs
import Derived.Test.YtejjfhhppjdcaaaGreatDoorODkArm
namespace Go.Proofs.YtejjfhhppjdcaaaGreatDoor
open Go.RowKit Go.Maps Go.Sort Go.Shelf

set_option maxRecDepth 100000 in
set_option maxHeartbeats 8000000 in
theorem ercut_any (w : World) (A : Option Addr) (n c : Nat) (es : List Ev) (h : Evs w w.heap.size A n c es) (hn : n ≤ 140737488355328) (hfit : ∀ e ∈ es, e.fit) (u : Int) (hu0 : 0 ≤ u) (hu1 : u ≤ 255) (fu : Int) (hf0 : 0 ≤ fu) (hf1 : fu ≤ 255)
    (A3 : Option Addr) (n3 c3 : Nat) (ks : List Int) (hks : Ints w w.heap.size A3 n3 c3 ks) (hmx : MaxAt w) :
    Calls Tryz.prog 13 #[.slice A n c, .int .u8 u, .int .u8 fu, .slice A3 n3 c3] w (Says true w) := by
  have HH := Lib.hid h; have HFT := Lib.hid hfit; have HMX := Lib.hid hmx
  have HL := Lib.hid h.len
  have hmlt := hmx.lt
  have HKS := Lib.hid (show ∀ W, RowKit.Below w.heap.size w W → Ints W W.heap.size A3 n3 c3 ks from fun W hW => Cel.more (Cel.below hks hW) hW.size)
  have HKB := Lib.hid (show ∀ b off, A3 = some ⟨b, off, none⟩ → 0 < n3 → b < w.heap.size from fun b off e h0 => by
    obtain ⟨b', off', e', hb', _⟩ := Cel.cell hks h0
    rw [e'] at e; injection e with e; injection e with e; omega)
  clear h hfit hmx hks
  obtain ⟨v, rfl⟩ := Int.eq_ofNat_of_zero_le hu0
  obtain ⟨fv, rfl⟩ := Int.eq_ofNat_of_zero_le hf0
  obtain ⟨per, hper⟩ : ∃ per, per = 1 + v % 8 := ⟨_, rfl⟩
  have hp1 : 1 ≤ per := by omega
  have hp8 : per ≤ 8 := by omega
  obtain ⟨v8, hv8⟩ : ∃ v8, v8 = v % 8 := ⟨_, rfl⟩
  obtain ⟨f6, hf6⟩ : ∃ f6, f6 = fv % 6 := ⟨_, rfl⟩
  have hf65 : f6 ≤ 5 := by omega
  have tp : ((v : Int)).tmod 8 = (v8 : Int) := by rw [hv8]; exact (Int.ofNat_tmod v 8).symm
  have ts : ((fv : Int)).tmod 6 = (f6 : Int) := by rw [hf6]; exact (Int.ofNat_tmod fv 6).symm
  have tq : (1 : Int) + (v8 : Int) = (per : Int) := by omega
  have HTP := Lib.hid tp; have HTQ := Lib.hid tq; have HTS := Lib.hid ts
  clear tp tq ts hper hv8 hf6
  go_enter Tryz.func13, Tryz.ntmps13
  go_wp2_with fail
  refine (long_any w A n c es HH.out hn HFT.out).mono ?_
  rintro r w1 ⟨rfl, hb1⟩
  have HB1 := Lib.hid hb1
  have hs1 := hb1.size
  clear hb1
  cases hlg : longB es
  case true =>
    clear hlg
    go_wp2_with fail
    refine (awake_any w1).mono ?_
    rintro r w2 ⟨rfl, hb2⟩
    have HR := Lib.hid (show Says true w (.returned (.bool true)) w2 from ⟨rfl, HB1.out.trans (hb2.mono hs1)⟩)
    clear hb2
    go_wp2
    go_ret
    exact HR.out
  obtain ⟨hl40, hsm⟩ := long31_not hlg
  have HSM0 := Lib.hid hsm
  have hn40 : n ≤ 40 := by have := HL.out; omega
  clear hlg hsm hl40
  by_cases h20 : (20 : Int) < n3
  · go_wp2_with fail
    refine (awake_any w1).mono ?_
    rintro r w2 ⟨rfl, hb2⟩
    have HR := Lib.hid (show Says true w (.returned (.bool true)) w2 from ⟨rfl, HB1.out.trans (hb2.mono hs1)⟩)
    clear hb2
    go_wp2
    go_ret
    exact HR.out
  go_wp2_with fail
  refine (only_any w1 A n c es (Cel.more (Cel.below HH.out HB1.out) hs1) (by omega) HSM0.out (HMX.out.up HB1.out)).mono ?_
  intro r w2 hq
  obtain ⟨A2, c2, rfl, hE2, _, hb2⟩ := hq.open31
  have hlf := List.length_filter_le mayB es
  obtain ⟨ds, hds⟩ : ∃ ds, ds = es.filter mayB := ⟨_, rfl⟩
  rw [← hds] at hE2 hlf ⊢
  have HAL := Lib.hid (show ds.all mayB = true from List.all_eq_true.2 fun e he => by rw [hds] at he; exact (List.mem_filter.1 he).2)
  have HSM := Lib.hid (show ∀ e ∈ ds, e.small from fun e he => HSM0.out e (by rw [hds] at he; exact (List.mem_filter.1 he).1))
  obtain ⟨m, hm⟩ : ∃ m, m = ds.length := ⟨_, rfl⟩
  rw [← hm] at hE2 hlf ⊢
  have hm40 : m ≤ 40 := by have := HL.out; omega
  have HM := Lib.hid hm
  have HB2 := Lib.hid (HB1.out.trans (hb2.mono hs1))
  have hs2 := HB2.out.size
  have HEV := Lib.hid (show ∀ W, RowKit.Below w2.heap.size w2 W → Evs W W.heap.size A2 m c2 ds from fun W hW => Cel.more (Cel.below hE2 hW) hW.size)
  have HMW := Lib.hid (show ∀ W, RowKit.Below w2.heap.size w2 W → MaxAt W from fun W hW => HMX.out.up (HB2.out.trans (hW.mono hs2)))
  have HW2 := Lib.hid (show ∀ W, RowKit.Below w2.heap.size w2 W → RowKit.Below w.heap.size w W from fun W hW => HB2.out.trans (hW.mono hs2))
  have HE2 := Lib.hid hE2
  clear hq hE2 hds hm hb2 hlf
  -- keep
  have tp := HTP.out
  have tq := HTQ.out
  go_wp2_with fail
  refine (erkeep_any w2 A2 m c2 ds HE2.out hm40 HAL.out per hp1 hp8 (HMW.out w2 (Below.refl _ _))).mono ?_
  rintro r w3 ⟨bd, bj, G3, F3, j, rfl, hj3, hlo3, hb3, hg, hje, hjn, hjp, hjl⟩
  have HJ3 := Lib.hid hj3
  have HLO3 := Lib.hid hlo3
  have HB3 := Lib.hid hb3
  have hs3 := hb3.size
  have hjlen : j.es.length = m := by rw [hje, List.length_map]; exact HM.out.symm
  have HPJ := Lib.hid (show j.Good ∧ j.es = ds.map some ∧ j.name = [106] ∧ j.per = per ∧ j.lasts = j.es.length ∧ j.es.length = m from ⟨hg, hje, hjn, hjp, hjl, hjlen⟩)
  clear hj3 hlo3 hb3 hg hje hjn hjp hjl hjlen tp tq
  -- Arm
  have ts := HTS.out
  go_wp2_with fail
  refine (dkarm_any w3 G3 bd j.dk HJ3.out.dk f6 (by omega) (by omega)).mono ?_
  rintro r w4 ⟨rfl, hd4⟩
  have HST4 := Lib.hid (show ∃ G', JlIn w4 G' F3 bj bd { j with dk := j.dk.arm f6 } ∧ (∀ b, G' b → G3 b ∨ w3.heap.size ≤ b) ∧ Keep G3 w3 w4 from by
    obtain ⟨ho, v, hj⟩ := HJ3.out
    obtain ⟨G6, h6, hG6, hk6⟩ := hj.disk hd4
    exact ⟨G6, ⟨⟨ho.per1, ho.per2, ho.nm, ho.num, ho.fl, ho.las, ho.may⟩, v, h6⟩, hG6, hk6⟩)
  obtain ⟨G4, hj4, hG4, hk4⟩ := HST4.out
  have HJ4 := Lib.hid hj4
  have HLO4 := Lib.hid (show ∀ b, G4 b ∨ F3 b → w2.heap.size ≤ b from fun b hb => by
    rcases hb with hb | hb
    · rcases hG4 b hb with h | h
      · exact HLO3.out b (.inl h)
      · omega
    · exact HLO3.out b (.inr hb))
  have HB4 := Lib.hid (show RowKit.Below w2.heap.size w2 w4 from HB3.out.trans (hk4.below hs3 (fun k hk hg => by have := HLO3.out k (.inl hg); omega)))
  have hs4 := HB4.out.size
  obtain ⟨P, hcut⟩ := HPJ.out.1.cut HPJ.out.2.2.2.2.1 (by rw [HPJ.out.2.2.2.2.2]; omega) f6 (by omega) (outB (goneL ds))
  have HLG := Lib.hid (erlog_any w4 G4 F3 bj bd { j with dk := j.dk.arm f6 } HJ4.out (by show j.es.length ≤ 99; rw [HPJ.out.2.2.2.2.2]; omega) HPJ.out.1.fine.free (HMW.out w4 HB4.out) (fun hg => by have := HLO4.out _ hg; omega))
  rw [Jl.logR_first (j := { j with dk := j.dk.arm f6 }) (ds := ds) HPJ.out.2.1] at HLG
  obtain ⟨R1, nn, ff, hR⟩ : ∃ R1 nn ff, ({ j with dk := j.dk.arm f6 } : Jl).rewr (outB (goneL ds)) = (R1, nn, ff) := ⟨_, _, _, rfl⟩
  rw [hR] at HLG hcut
  obtain ⟨fc, hfc⟩ : ∃ fc, fc = j.files := ⟨_, rfl⟩
  have hfcn : fc = nseg m per := by
    have := HPJ.out.1.fc
    rw [HPJ.out.2.2.2.2.2, HPJ.out.2.2.2.1] at this
    rw [hfc]; exact this
  rw [HPJ.out.2.1, HPJ.out.2.2.1, HPJ.out.2.2.2.1, ← hfc] at hcut
  have HCUT := Lib.hid hcut
  have hlm : (ds.map some).length = m := by rw [List.length_map]; exact HM.out.symm
  have HMAY := Lib.hid (show ∀ e, some e ∈ erRow (outB (goneL ds)) (ds.map some) P → mayB e = true from erRow_may (fun e he => HPJ.out.1.sm e (by rw [HPJ.out.2.1]; exact he)))
  have HFC := Lib.hid hfcn
  have HLM := Lib.hid hlm
  have hff : ff = 0 ∨ ff = 8 := hcut.e
  have HFF := Lib.hid hff
  clear hj4 hG4 hk4 hd4 HST4 hR hcut hfc hfcn hlm hff ts
  go_wp2_with fail
  refine HLG.out.mono ?_
  rintro r w5 ⟨rfl, G5, F5, hj5, hG5, _, hk5⟩
  have HD5 := Lib.hid (show DkIn w5 G5 bd R1.dk from hj5.dk)
  have HLO5 := Lib.hid (show ∀ b, G5 b → w2.heap.size ≤ b from fun b hb => by
    rcases hG5 b hb with h | h
    · exact HLO4.out b (.inl h)
    · omega)
  have HB5 := Lib.hid (show RowKit.Below w2.heap.size w2 w5 from HB4.out.trans (hk5.below hs4 (fun k hk hg => by have := HLO4.out k hg; omega)))
  have hs5 := HB5.out.size
  clear hj5 hG5 hk5 HLG
  simp only
  -- Crash
  have HCR := Lib.hid (show Calls Tryz.prog 36 #[.pointer (some ⟨bd, 0, none⟩), .slice A3 n3 c3] w5 (CrPost w5 G5 bd (R1.dk.crash ks)) from
    dkcrash_any w5 G5 bd R1.dk HD5.out (fun q hq => by
      have hi : DInv R1.dk.files [106] per fc (erRow (outB (goneL ds)) (ds.map some) P) (ds.map some).length := HCUT.out.inv
      obtain ⟨z, hz, e⟩ := hi.only q hq
      have h9 := hi.hi
      rw [erRow_len, HLM.out] at h9
      have h8 := Nat.div_le_self m per
      have := (segF_len [106] (k := z) (by omega)).2
      rw [e]
      simp only [List.length_cons, List.length_nil] at this; omega) A3 n3 c3 ks (HKS.out w5 (HW2.out w5 HB5.out)) (fun b off e h0 hg => by have := HKB.out b off e h0; have := HLO5.out b hg; omega))
  have HGC := Lib.hid (show (⟨R1.dk.crash ks, [106], per, fc, erRow (outB (goneL ds)) (ds.map some) P, (erRow (outB (goneL ds)) (ds.map some) P).length, 0⟩ : Jl).Good from by
    have hi : DInv R1.dk.files [106] per fc (erRow (outB (goneL ds)) (ds.map some) P) (ds.map some).length := HCUT.out.inv
    exact crash_still (by rw [erRow_len]; exact hi) HCUT.out.ok (by simp) (by rw [erRow_len, HLM.out]; exact HFC.out) HMAY.out ks)
  obtain ⟨L1, hL1⟩ : ∃ L1, L1 = erRow (outB (goneL ds)) (ds.map some) P := ⟨_, rfl⟩
  have hlen1 : L1.length = m := by rw [hL1, erRow_len, HLM.out]
  rw [← hL1] at HGC
  obtain ⟨jc, hjc⟩ : ∃ jc, jc = (⟨R1.dk.crash ks, [106], per, fc, L1, L1.length, 0⟩ : Jl) := ⟨_, rfl⟩
  rw [← hjc] at HGC
  have HOI := Lib.hid (show OpIn (R1.dk.crash ks) [106] per fc L1 [] from by
    have := HGC.out.opIn (by rw [hjc]; show L1.length ≤ 80; omega) (by rw [hjc]; show per ≤ 4096; omega)
    rw [hjc] at this; exact this)
  have HG4 := Lib.hid (HGC.out.again (by rw [hjc]; show L1.length ≤ 80; omega) (by rw [hjc]; show per ≤ 4096; omega))
  obtain ⟨j4, hj4⟩ : ∃ j4, j4 = jc.again := ⟨_, rfl⟩
  have h4e : j4 = Jl.opened (R1.dk.crash ks) [106] per fc L1 [] := by rw [hj4, hjc]; rfl
  have h4s : j4.es = L1 := by rw [h4e]; rfl
  rw [← hj4] at HG4
  have H4E := Lib.hid h4e
  have H4L := Lib.hid (show j4.es.length = m from by rw [h4s]; exact hlen1)
  obtain ⟨j5, n5, hlog, he5⟩ := HG4.out.log_rest (by rw [H4L.out]; omega) (ds := ds) (P := P) (by rw [h4s, hL1])
  have HLOG := Lib.hid hlog
  have HE5 := Lib.hid he5
  clear hjc hj4 h4e h4s hL1 hlen1 hlog he5
  have t9 : ff = 0 ∨ ff = 8 := HFF.out
  go_upto_region 9 with fail
  go_cut [57] (fun v wc => v = .bool false ∧ w5 = wc)
  case first =>
    rcases t9 with rfl | rfl
    all_goals
      go_wp2
      go_meet
      exact ⟨by first | rfl | simp, rfl⟩
  case rest =>
    obtain ⟨rfl, rfl⟩ := hcut
    clear t9
    go_wp2_with fail
    refine HCR.out.mono ?_
    rintro r w6 ⟨rfl, G6, hd6, hG6, hk6⟩
    have HD6 := Lib.hid hd6
    have HLO6 := Lib.hid (show ∀ b, G6 b → w2.heap.size ≤ b from fun b hb => by
      rcases hG6 b hb with h | h
      · exact HLO5.out b h
      · omega)
    have HB6 := Lib.hid (show RowKit.Below w2.heap.size w2 w6 from HB5.out.trans (hk6.below hs5 (fun k hk hg => by have := HLO5.out k hg; omega)))
    have hs6 := HB6.out.size
    have HOP := Lib.hid (show Calls Tryz.prog 18 #[.pointer (some ⟨bd, 0, none⟩), .string ⟨#[106]⟩, .int .i64 (per : Int)] w6 (OpenPost w6 G6 bd j4) from by
      have := jlopen_any w6 G6 bd (R1.dk.crash ks) HD6.out [106] (by decide) per fc L1 [] HOI.out (HMW.out w6 HB6.out) (fun hg => by have := HLO6.out _ hg; omega)
      rw [H4E.out]; exact this)
    clear hd6 hG6 hk6 HCR
    have tp := HTP.out
    have tq := HTQ.out
    go_wp2_with fail
    refine HOP.out.mono ?_
    rintro r w7 ⟨bk, G7, F7, rfl, hj7, hG7, hF7, hk7⟩
    have HJ7 := Lib.hid hj7
    have HLO7 := Lib.hid (show ∀ b, G7 b ∨ F7 b → w2.heap.size ≤ b from fun b hb => by
      rcases hb with hb | hb
      · rcases hG7 b hb with h | h
        · exact HLO6.out b h
        · omega
      · have := hF7 b hb; omega)
    have HB7 := Lib.hid (show RowKit.Below w2.heap.size w2 w7 from HB6.out.trans (hk7.below hs6 (fun k hk hg => by have := HLO6.out k hg; omega)))
    have hs7 := HB7.out.size
    have HLG2 := Lib.hid (erlog_any w7 G7 F7 bk bd j4 HJ7.out (by have := H4L.out; omega) HG4.out.fine.free (HMW.out w7 HB7.out) (fun hg => by have := HLO7.out _ hg; omega))
    rw [HLOG.out] at HLG2
    clear hj7 hG7 hF7 hk7 HOP tp tq
    go_wp2_with fail
    refine HLG2.out.mono ?_
    rintro r w8 ⟨rfl, G8, F8, hj8, hG8, hF8, hk8⟩
    have HJ8 := Lib.hid (show JlIn w8 G8 F8 bk bd j5 from hj8)
    have HB8 := Lib.hid (show RowKit.Below w2.heap.size w2 w8 from HB7.out.trans (hk8.below hs7 (fun k hk hg => by have := HLO7.out k hg; omega)))
    have hs8 := HB8.out.size
    clear hj8 hG8 hF8 hk8 HLG2
    simp only
    go_wp2_with fail
    refine (erclean_any w8 G8 F8 bk bd j5 HJ8.out A2 m c2 ds (HEV.out w8 HB8.out) hm40 HSM.out HE5.out).mono ?_
    rintro r w9 ⟨rfl, hb9⟩
    have HB9 := Lib.hid (HB8.out.trans (hb9.mono hs8))
    clear hb9
    go_wp2_with fail
    refine (awake_any w9).mono ?_
    rintro r w10 ⟨rfl, hb10⟩
    have HR := Lib.hid (show Says true w (.returned (.bool true)) w10 from ⟨rfl, HW2.out _ (HB9.out.trans (hb10.mono HB9.out.size))⟩)
    clear hb10
    go_wp2
    go_ret
    exact HR.out
end Go.Proofs.YtejjfhhppjdcaaaGreatDoor
