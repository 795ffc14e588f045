/-
  The law EraseLogs, walked.
-/
import Derived.Test.YtejjfhhppjdcaaaGreatDoorOErLCG
import Derived.Test.YtejjfhhppjdcaaaGreatDoorOErOK
import Derived.Test.YtejjfhhppjdcaaaGreatDoorOErAwake
import Derived.Test.YtejjfhhppjdcaaaGreatDoorOJlOpen
import Derived.Test.YtejjfhhppjdcaaaGreatDoorOOpGood
import Derived.Test.YtejjfhhppjdcaaaGreatDoorODkCrash
namespace Go.Proofs.YtejjfhhppjdcaaaGreatDoor
open Go.RowKit Go.Maps Go.Sort Go.Shelf

theorem erlog_nil (w : World) : Calls Tryz.prog 54 #[.pointer none] w (fun e w' => e = .returned (.tuple #[.int .i64 0, .int .i64 1]) ∧ w' = w) := by
  go_enter Tryz.func54, Tryz.ntmps54
  go_wp2
  go_ret2
  exact ⟨rfl, rfl⟩
set_option maxRecDepth 100000 in
set_option maxHeartbeats 8000000 in
theorem erlogs_any (w : World) (A : Option Addr) (n c : Nat) (es : List Ev) (h : Evs w w.heap.size A n c es) (hn : n ≤ 140737488355328) (hfit : ∀ e ∈ es, e.fit) (u : Int) (hu0 : 0 ≤ u) (hu1 : u ≤ 255) (hmx : MaxAt w) :
    Calls Tryz.prog 12 #[.slice A n c, .int .u8 u] w (Says true w) := by
  have HH := Lib.hid h; have HFT := Lib.hid hfit; have HMX := Lib.hid hmx
  have HL := Lib.hid h.len
  have hmlt := hmx.lt
  clear h hfit hmx
  obtain ⟨v, rfl⟩ := Int.eq_ofNat_of_zero_le hu0
  obtain ⟨per, hper⟩ : ∃ per, per = 1 + v % 8 := ⟨_, rfl⟩
  have hp1 : 1 ≤ per := by omega
  have hp8 : per ≤ 8 := by omega
  obtain ⟨v8, hv8⟩ : ∃ v8, v8 = v % 8 := ⟨_, rfl⟩
  have tp : ((v : Int)).tmod 8 = (v8 : Int) := by rw [hv8]; exact (Int.ofNat_tmod v 8).symm
  have tq : (1 : Int) + (v8 : Int) = (per : Int) := by omega
  have HTP := Lib.hid tp; have HTQ := Lib.hid tq
  clear tp tq hper hv8
  go_enter Tryz.func12, Tryz.ntmps12
  go_wp2_with fail
  refine (long_any w A n c es HH.out hn HFT.out).mono ?_
  rintro r w1 ⟨rfl, hb1⟩
  cases hlg : longB es
  case true =>
    clear hlg
    go_wp2_with fail
    refine (awake_any w1).mono ?_
    rintro r w2 ⟨rfl, hb2⟩
    have hbw2 : Below w.heap.size w w2 := hb1.trans (hb2.mono hb1.size)
    clear hb2
    go_wp2
    go_ret
    exact ⟨rfl, hbw2⟩
  obtain ⟨hl40, hsm⟩ := long31_not hlg
  have HSM0 := Lib.hid hsm
  have hn40 : n ≤ 40 := by have := HL.out; omega
  have HB1 := Lib.hid hb1
  have hs1 := hb1.size
  clear hlg hsm hl40 hb1
  go_wp2_with fail
  refine (only_any w1 A n c es (Cel.more (Cel.below HH.out HB1.out) hs1) (by omega) HSM0.out (HMX.out.up HB1.out)).mono ?_
  intro r w2 hq
  obtain ⟨A2, c2, rfl, hE2, _, hb2⟩ := hq.open31
  have hlf := List.length_filter_le mayB es
  obtain ⟨ds, hds⟩ : ∃ ds, ds = es.filter mayB := ⟨_, rfl⟩
  rw [← hds] at hE2 hlf ⊢
  have HAL := Lib.hid (show ds.all mayB = true from List.all_eq_true.2 fun e he => by rw [hds] at he; exact (List.mem_filter.1 he).2)
  have HSM := Lib.hid (show ∀ e ∈ ds, e.small from fun e he => HSM0.out e (by rw [hds] at he; exact (List.mem_filter.1 he).1))
  obtain ⟨m, hm⟩ : ∃ m, m = ds.length := ⟨_, rfl⟩
  rw [← hm] at hE2 hlf ⊢
  have hm40 : m ≤ 40 := by have := HL.out; omega
  have HM := Lib.hid hm
  have HB2 := Lib.hid (HB1.out.trans (hb2.mono hs1))
  have hs2 := HB2.out.size
  have HEV := Lib.hid (show ∀ W, RowKit.Below w2.heap.size w2 W → Evs W W.heap.size A2 m c2 ds from fun W hW => Cel.more (Cel.below hE2 hW) hW.size)
  have HMW := Lib.hid (show ∀ W, RowKit.Below w2.heap.size w2 W → MaxAt W from fun W hW => HMX.out.up (HB2.out.trans (hW.mono hs2)))
  have HW2 := Lib.hid (show ∀ W, RowKit.Below w2.heap.size w2 W → RowKit.Below w.heap.size w W from fun W hW => HB2.out.trans (hW.mono hs2))
  have HE2 := Lib.hid hE2
  clear hq hE2 hds hm hb2 hlf
  -- keep
  have tp := HTP.out
  have tq := HTQ.out
  go_wp2_with fail
  refine (erkeep_any w2 A2 m c2 ds HE2.out hm40 HAL.out per hp1 hp8 (HMW.out w2 (Below.refl _ _))).mono ?_
  rintro r w3 ⟨bd, bj, G3, F3, j, rfl, hj3, hlo3, hb3, hg, hje, hjn, hjp, hjl⟩
  have HJ3 := Lib.hid hj3
  have HLO3 := Lib.hid hlo3
  have HB3 := Lib.hid hb3
  have hs3 := hb3.size
  have hjlen : j.es.length = m := by rw [hje, List.length_map]; exact HM.out.symm
  obtain ⟨j1, hlog, hg1, he1, hn1, hp1', hl1⟩ := hg.log_first (by omega) hje hjl
  have HLG := Lib.hid (erlog_any w3 G3 F3 bj bd j HJ3.out (by omega) hg.fine.free (HMW.out w3 HB3.out) (fun hg => by have := HLO3.out _ hg; omega))
  rw [hlog] at HLG
  have HG1 := Lib.hid hg1
  have HE1 := Lib.hid he1
  have HN1 := Lib.hid (hn1.trans hjn)
  have HP1 := Lib.hid (hp1'.trans hjp)
  have HL1 := Lib.hid hl1
  have hfil := filter_cnt (outB (goneL ds)) ds
  have hj1len : j1.es.length = m := by rw [he1, List.length_map, List.length_map]; exact HM.out.symm
  have HJ1L := Lib.hid hj1len
  rw [← HM.out] at hfil
  obtain ⟨cn, hcn⟩ : ∃ cn, cn = cntE (outB (goneL ds)) (ds.map some) := ⟨_, rfl⟩
  rw [← hcn] at HLG hfil
  obtain ⟨f, hf⟩ : ∃ f, f = (ds.filter (outB (goneL ds))).length := ⟨_, rfl⟩
  rw [← hf] at hfil
  have HF := Lib.hid hf
  have tf : (m : Int) - (f : Int) = (cn : Int) := by omega
  have HTF := Lib.hid tf
  clear hj3 hlo3 hb3 hg hje hjn hjp hjl hjlen hlog hg1 he1 hn1 hp1' hl1 hcn hf hfil tf hj1len tp tq
  go_wp2_with fail
  refine HLG.out.mono ?_
  rintro r w4 ⟨rfl, G4, F4, hj4, hG4, hF4, hk4⟩
  have HJ4 := Lib.hid (show JlIn w4 G4 F4 bj bd j1 from hj4)
  have HLO4 := Lib.hid (show ∀ b, G4 b ∨ F4 b → w2.heap.size ≤ b from fun b hb => by
    rcases hb with hb | hb
    · rcases hG4 b hb with h | h
      · exact HLO3.out b (.inl h)
      · omega
    · rcases hF4 b hb with h | h
      · exact HLO3.out b (.inr h)
      · omega)
  have HB4 := Lib.hid (show RowKit.Below w2.heap.size w2 w4 from HB3.out.trans (hk4.below hs3 (fun k hk hg => by have := HLO3.out k hg; omega)))
  have hs4 := HB4.out.size
  clear hj4 hG4 hF4 hk4 HLG
  simp only
  go_wp2_with fail
  refine (rclean_any w4 A2 m c2 ds (HEV.out w4 HB4.out) (by omega) HSM.out).mono ?_
  rintro r w5 ⟨vc, rfl, hvc, hb5⟩
  obtain ⟨Ac, cc, rfl, _⟩ := hvc
  rw [← HF.out]
  have HB5 := Lib.hid (HB4.out.trans (hb5.mono hs4))
  have HJ5 := Lib.hid (HJ4.out.up hb5)
  have tf := HTF.out
  clear hb5
  go_wp2_with fail
  refine (erclean_any w5 G4 F4 bj bd j1 HJ5.out A2 m c2 ds (HEV.out w5 HB5.out) hm40 HSM.out HE1.out).mono ?_
  rintro r w6 ⟨rfl, hb6⟩
  have hs5 := HB5.out.size
  have HB6 := Lib.hid (HB5.out.trans (hb6.mono hs5))
  have HJ6 := Lib.hid (HJ5.out.up hb6)
  have HLG2 := Lib.hid (erlog_any w6 G4 F4 bj bd j1 HJ6.out (by have := HJ1L.out; omega) HG1.out.fine.free (HMW.out w6 HB6.out) (fun hg => by have := HLO4.out _ hg; omega))
  rw [HG1.out.log_again HE1.out] at HLG2
  have hs6 := HB6.out.size
  clear hb6 tf
  go_wp2_with fail
  refine HLG2.out.mono ?_
  rintro r w7 ⟨rfl, G7, F7, hj7, hG7, hF7, hk7⟩
  have HJ7 := Lib.hid (show JlIn w7 G7 F7 bj bd j1 from hj7)
  have HLO7 := Lib.hid (show ∀ b, G7 b ∨ F7 b → w2.heap.size ≤ b from fun b hb => by
    rcases hb with hb | hb
    · rcases hG7 b hb with h | h
      · exact HLO4.out b (.inl h)
      · omega
    · rcases hF7 b hb with h | h
      · exact HLO4.out b (.inr h)
      · omega)
  have HB7 := Lib.hid (show RowKit.Below w2.heap.size w2 w7 from HB6.out.trans (hk7.below hs6 (fun k hk hg => by have := HLO4.out k hg; omega)))
  have hs7 := HB7.out.size
  clear hj7 hG7 hF7 hk7 HLG2
  simp only
  -- Crash
  have HCR := Lib.hid (show Calls Tryz.prog 36 #[.pointer (some ⟨bd, 0, none⟩), .slice none 0 0] w7 (CrPost w7 G7 bd (j1.dk.crash [])) from
    dkcrash_any w7 G7 bd j1.dk HJ7.out.dk (fun p hp => by
      have h1 := HG1.out.names
      have h2 := (h1.2 p.1).1 (List.mem_map.2 ⟨p, hp, rfl⟩)
      obtain ⟨k, hk, e⟩ := List.mem_map.1 h2
      have h3 := List.mem_range.1 hk
      rw [HJ1L.out, HP1.out] at h3
      have h4 : nseg m per < m + 1 := by
        unfold nseg
        refine (Nat.div_lt_iff_lt_mul (by omega)).2 ?_
        have h5 : m * 1 ≤ m * per := Nat.mul_le_mul_left _ hp1
        rw [Nat.succ_mul]; omega
      rw [← e, HN1.out]
      have := (segF_len [106] (k := k) (by omega)).2
      simp only [List.length_cons, List.length_nil] at this; omega) none 0 0 [] (Cel.nil _ _ _ _ _ (by unfold maxLen; omega)) (fun b off e => by cases e))
  obtain ⟨j2, hj2⟩ : ∃ j2 : Jl, j2 = { j1 with dk := j1.dk.crash [] } := ⟨_, rfl⟩
  have HG2 := Lib.hid (show j2.Good from by rw [hj2]; exact HG1.out.crashed HL1.out [])
  have hj2d : j2.dk = j1.dk.crash [] := by rw [hj2]
  have hj2e : j2.es = j1.es := by rw [hj2]
  have hj2n : j2.name = [106] := by rw [hj2]; exact HN1.out
  have hj2p : j2.per = per := by rw [hj2]; exact HP1.out
  rw [← hj2d] at HCR
  have HJ2E := Lib.hid hj2e
  go_wp2_with fail
  refine HCR.out.mono ?_
  rintro r w8 ⟨rfl, G8, hd8, hG8, hk8⟩
  have HD8 := Lib.hid hd8
  have HLO8 := Lib.hid (show ∀ b, G8 b → w2.heap.size ≤ b from fun b hb => by
    rcases hG8 b hb with h | h
    · exact HLO7.out b (.inl h)
    · omega)
  have HB8 := Lib.hid (show RowKit.Below w2.heap.size w2 w8 from HB7.out.trans (hk8.below hs7 (fun k hk hg => by have := HLO7.out k (.inl hg); omega)))
  have hs8 := HB8.out.size
  have HOP := Lib.hid (show Calls Tryz.prog 18 #[.pointer (some ⟨bd, 0, none⟩), .string ⟨#[106]⟩, .int .i64 (per : Int)] w8 (OpenPost w8 G8 bd j2.again) from by
    have h1 := HG2.out.opIn (by rw [hj2e, HJ1L.out]; omega) (by rw [hj2p]; omega)
    rw [hj2n, hj2p] at h1
    have := jlopen_any w8 G8 bd j2.dk HD8.out [106] (by decide) per j2.files j2.es [] h1 (HMW.out w8 HB8.out) (fun hg => by have := HLO8.out _ hg; omega)
    have e : j2.again = Jl.opened j2.dk [106] per j2.files j2.es [] := by unfold Jl.again; rw [hj2n, hj2p]
    rw [e]; exact this)
  have HE3 := Lib.hid (show j2.again.es = (ds.map some).map (erE (outB (goneL ds))) from by
    show j2.es = _
    rw [hj2e]; exact HE1.out)
  clear hd8 hG8 hk8 HCR hj2 hj2d hj2e hj2n hj2p
  have tp := HTP.out
  have tq := HTQ.out
  go_wp2_with fail
  refine HOP.out.mono ?_
  rintro r w9 ⟨bk, G9, F9, rfl, hj9, hG9, hF9, hk9⟩
  have HJ9 := Lib.hid hj9
  have HB9 := Lib.hid (show RowKit.Below w2.heap.size w2 w9 from HB8.out.trans (hk9.below hs8 (fun k hk hg => by have := HLO8.out k hg; omega)))
  have hs9 := HB9.out.size
  clear hj9 hG9 hF9 hk9 HOP tp tq
  go_wp2_with fail
  refine (erclean_any w9 G9 F9 bk bd j2.again HJ9.out A2 m c2 ds (HEV.out w9 HB9.out) hm40 HSM.out HE3.out).mono ?_
  rintro r w10 ⟨rfl, hb10⟩
  have HB10 := Lib.hid (HB9.out.trans (hb10.mono hs9))
  clear hb10
  go_wp2_with fail
  refine (erlog_nil w10).mono ?_
  rintro r w11 ⟨rfl, rfl⟩
  go_wp2_with fail
  refine (awake_any w11).mono ?_
  rintro r w12 ⟨rfl, hb12⟩
  have HR := Lib.hid (show Says true w (.returned (.bool true)) w12 from ⟨rfl, HW2.out _ (HB10.out.trans (hb12.mono HB10.out.size))⟩)
  clear hb12
  go_wp2
  go_ret
  exact HR.out
end Go.Proofs.YtejjfhhppjdcaaaGreatDoor
