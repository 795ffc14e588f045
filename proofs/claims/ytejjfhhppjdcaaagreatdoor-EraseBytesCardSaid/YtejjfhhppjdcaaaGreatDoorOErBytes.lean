/-
  The law EraseBytes, walked.
-/
import Derived.Test.YtejjfhhppjdcaaaGreatDoorOErLCG
import Derived.Test.YtejjfhhppjdcaaaGreatDoorOErOK
import Derived.Test.YtejjfhhppjdcaaaGreatDoorOErAwake
import Derived.Test.YtejjfhhppjdcaaaGreatDoorODk7
import Derived.Test.YtejjfhhppjdcaaaGreatDoorORd3
import Derived.Test.YtejjfhhppjdcaaaGreatDoorOFrmAll
import Derived.Test.YtejjfhhppjdcaaaGreatDoorOOpGood
namespace Go.Proofs.YtejjfhhppjdcaaaGreatDoor
open Go.RowKit Go.Maps Go.Sort Go.Shelf

theorem whole31 {L : List (Option Ev)} (h : ∀ e, some e ∈ L → mayB e = true) : Frm.allB (bytesL L) = (L.map bytesE, ((bytesL L).length, 0)) := by
  have hb : ∀ p ∈ L.map bytesE, p.length ≤ 65536 := fun p hp => by
    obtain ⟨x, hx, rfl⟩ := List.mem_map.1 hp
    cases x with
    | none => simp [bytesE]
    | some e => have := (mayB_fit (h e hx)).len; simp only [bytesE]; omega
  have hr := Frm.allB_rows (L.map bytesE) hb (bytesL L).length _ (Nat.le_refl _)
  have he : Frm.endB (L.map bytesE) (L.map bytesE).length = (bytesL L).length := by
    unfold Frm.endB; rw [List.take_length, ← bytesL_cat]
  rw [he] at hr
  have hr := hr (Nat.le_refl _) (fun h => absurd h (Nat.lt_irrefl _)) (Nat.le_refl _)
  rw [← bytesL_cat, List.take_length, List.take_length, if_pos rfl] at hr
  exact hr
/-- the payloads that frame.All has told, wherever the walk goes on -/
theorem pay31 {w w1 : World} {v9 : Value} {vs : List Value} {xs : List (Option Ev)} (hrow : w1.ownsRow w.heap.size 41 1 v9 vs.length vs) (hbs : OwnBs w1 w.heap.size vs (xs.map bytesE)) :
    ∃ A9 c9, v9 = .slice A9 xs.length c9 ∧ ∀ W, RowKit.Below w1.heap.size w1 W → ∀ (k : Nat) (hk : k < xs.length), ∃ b off Ap cp, A9 = some ⟨b, off, none⟩ ∧ W.cell? ⟨b, off + k, none⟩ = some (.slice Ap (bytesE xs[k]).length cp) ∧ Byt W W.heap.size Ap (bytesE xs[k]).length cp (bytesE xs[k]) := by
  obtain ⟨A9, c9, h9⟩ := ownsRow_form hrow
  subst h9
  have hvl : vs.length = xs.length := by have := hbs.1; rw [List.length_map] at this; exact this
  refine ⟨A9, c9, by rw [hvl], fun W hW k hk => ?_⟩
  have hkv : k < vs.length := by omega
  obtain ⟨b, off, e, hb, hc⟩ := Cel.cell (Cel.below (Cel.of_own hrow) hW) (show 0 < vs.length by omega)
  have hov : OwnB w1 w.heap.size vs[k] (bytesE xs[k]) := hbs.2 k vs[k] (bytesE xs[k]) (List.getElem?_eq_getElem hkv) (by rw [List.getElem?_map, List.getElem?_eq_getElem hk]; rfl)
  obtain ⟨Ap, cp, hvp⟩ := hov.form
  have hcell := hc k vs[k] (List.getElem?_eq_getElem hkv)
  rw [hvp] at hcell hov
  exact ⟨b, off, Ap, cp, e, hcell, (hov.byt.below hW).more hW.size⟩
theorem erE_some {kb : Ev → Bool} {L : List (Option Ev)} {e : Ev} (h : some e ∈ L.map (erE kb)) : kb e = true := by
  obtain ⟨x, _, hxe⟩ := List.mem_map.1 h
  cases x with
  | none => simp [erE] at hxe
  | some y =>
    simp only [erE] at hxe
    split at hxe
    · next hy => injection hxe with hxe; subst hxe; exact hy
    · cases hxe
theorem encE_pos31 (e : Ev) : 0 < (encE e).length := by unfold encE; simp
def ByRel (w6 : World) (N : Nat) (i : Value) (W : World) : Prop := ∃ k : Nat, i = .int .i64 k ∧ k ≤ N ∧ RowKit.Below w6.heap.size w6 W
set_option maxRecDepth 100000 in
set_option maxHeartbeats 8000000 in
theorem erbytes_any (w : World) (A : Option Addr) (n c : Nat) (es : List Ev) (h : Evs w w.heap.size A n c es) (hn : n ≤ 140737488355328) (hfit : ∀ e ∈ es, e.fit) (u : Int) (hu0 : 0 ≤ u) (hu1 : u ≤ 255) (hmx : MaxAt w) :
    Calls Tryz.prog 11 #[.slice A n c, .int .u8 u] w (Says true w) := by
  have HH := Lib.hid h; have HFT := Lib.hid hfit; have HMX := Lib.hid hmx
  have HL := Lib.hid h.len
  have hmlt := hmx.lt
  clear h hfit hmx
  obtain ⟨v, rfl⟩ := Int.eq_ofNat_of_zero_le hu0
  obtain ⟨per, hper⟩ : ∃ per, per = 1 + v % 8 := ⟨_, rfl⟩
  have hp1 : 1 ≤ per := by omega
  have hp8 : per ≤ 8 := by omega
  obtain ⟨v8, hv8⟩ : ∃ v8, v8 = v % 8 := ⟨_, rfl⟩
  have tp : ((v : Int)).tmod 8 = (v8 : Int) := by rw [hv8]; exact (Int.ofNat_tmod v 8).symm
  have tq : (1 : Int) + (v8 : Int) = (per : Int) := by omega
  have HTP := Lib.hid tp; have HTQ := Lib.hid tq
  clear tp tq hper hv8
  go_enter Tryz.func11, Tryz.ntmps11
  go_wp2_with fail
  refine (long_any w A n c es HH.out hn HFT.out).mono ?_
  rintro r w1 ⟨rfl, hb1⟩
  cases hlg : longB es
  case true =>
    clear hlg
    go_wp2_with fail
    refine (awake_any w1).mono ?_
    rintro r w2 ⟨rfl, hb2⟩
    have hbw2 : Below w.heap.size w w2 := hb1.trans (hb2.mono hb1.size)
    clear hb2
    go_wp2
    go_ret
    exact ⟨rfl, hbw2⟩
  obtain ⟨hl40, hsm⟩ := long31_not hlg
  have HSM0 := Lib.hid hsm
  have hn40 : n ≤ 40 := by have := HL.out; omega
  have HB1 := Lib.hid hb1
  have hs1 := hb1.size
  clear hlg hsm hl40 hb1
  go_wp2_with fail
  refine (only_any w1 A n c es (Cel.more (Cel.below HH.out HB1.out) hs1) (by omega) HSM0.out (HMX.out.up HB1.out)).mono ?_
  intro r w2 hq
  obtain ⟨A2, c2, rfl, hE2, _, hb2⟩ := hq.open31
  have hlf := List.length_filter_le mayB es
  obtain ⟨ds, hds⟩ : ∃ ds, ds = es.filter mayB := ⟨_, rfl⟩
  rw [← hds] at hE2 hlf ⊢
  have HAL := Lib.hid (show ds.all mayB = true from List.all_eq_true.2 fun e he => by rw [hds] at he; exact (List.mem_filter.1 he).2)
  have HSM := Lib.hid (show ∀ e ∈ ds, e.small from fun e he => HSM0.out e (by rw [hds] at he; exact (List.mem_filter.1 he).1))
  obtain ⟨m, hm⟩ : ∃ m, m = ds.length := ⟨_, rfl⟩
  rw [← hm] at hE2 hlf ⊢
  have hm40 : m ≤ 40 := by have := HL.out; omega
  have HM := Lib.hid hm
  have HB2 := Lib.hid (HB1.out.trans (hb2.mono hs1))
  have hs2 := HB2.out.size
  have HEV := Lib.hid (show ∀ W, RowKit.Below w2.heap.size w2 W → Evs W W.heap.size A2 m c2 ds from fun W hW => Cel.more (Cel.below hE2 hW) hW.size)
  have HMW := Lib.hid (show ∀ W, RowKit.Below w2.heap.size w2 W → MaxAt W from fun W hW => HMX.out.up (HB2.out.trans (hW.mono hs2)))
  have HW2 := Lib.hid (show ∀ W, RowKit.Below w2.heap.size w2 W → RowKit.Below w.heap.size w W from fun W hW => HB2.out.trans (hW.mono hs2))
  have HE2 := Lib.hid hE2
  clear hq hE2 hds hm hb2 hlf
  -- keep
  have tp := HTP.out
  have tq := HTQ.out
  go_wp2_with fail
  refine (erkeep_any w2 A2 m c2 ds HE2.out hm40 HAL.out per hp1 hp8 (HMW.out w2 (Below.refl _ _))).mono ?_
  rintro r w3 ⟨bd, bj, G3, F3, j, rfl, hj3, hlo3, hb3, hg, hje, hjn, hjp, hjl⟩
  have HJ3 := Lib.hid hj3
  have HLO3 := Lib.hid hlo3
  have HB3 := Lib.hid hb3
  have hs3 := hb3.size
  have hjlen : j.es.length = m := by rw [hje, List.length_map]; exact HM.out.symm
  obtain ⟨j1, hlog, hg1, he1, hn1, hp1', hl1⟩ := hg.log_first (by omega) hje hjl
  have HLG := Lib.hid (erlog_any w3 G3 F3 bj bd j HJ3.out (by omega) hg.fine.free (HMW.out w3 HB3.out) (fun hg => by have := HLO3.out _ hg; omega))
  rw [hlog] at HLG
  have HG1 := Lib.hid hg1
  have HE1 := Lib.hid he1
  have HN1 := Lib.hid (hn1.trans hjn)
  have HP1 := Lib.hid (hp1'.trans hjp)
  have HL1 := Lib.hid hl1
  have hfil := filter_cnt (outB (goneL ds)) ds
  have hj1len : j1.es.length = m := by rw [he1, List.length_map, List.length_map]; exact HM.out.symm
  have HJ1L := Lib.hid hj1len
  rw [← HM.out] at hfil
  obtain ⟨cn, hcn⟩ : ∃ cn, cn = cntE (outB (goneL ds)) (ds.map some) := ⟨_, rfl⟩
  rw [← hcn] at HLG hfil
  obtain ⟨f, hf⟩ : ∃ f, f = (ds.filter (outB (goneL ds))).length := ⟨_, rfl⟩
  rw [← hf] at hfil
  have HF := Lib.hid hf
  have tf : (m : Int) - (f : Int) = (cn : Int) := by omega
  have HTF := Lib.hid tf
  clear hj3 hlo3 hb3 hg hje hjn hjp hjl hjlen hlog hg1 he1 hn1 hp1' hl1 hcn hf hfil tf hj1len tp tq
  go_wp2_with fail
  refine HLG.out.mono ?_
  rintro r w4 ⟨rfl, G4, F4, hj4, hG4, hF4, hk4⟩
  have HJ4 := Lib.hid (show JlIn w4 G4 F4 bj bd j1 from hj4)
  have HLO4 := Lib.hid (show ∀ b, G4 b ∨ F4 b → w2.heap.size ≤ b from fun b hb => by
    rcases hb with hb | hb
    · rcases hG4 b hb with h | h
      · exact HLO3.out b (.inl h)
      · omega
    · rcases hF4 b hb with h | h
      · exact HLO3.out b (.inr h)
      · omega)
  have HB4 := Lib.hid (show RowKit.Below w2.heap.size w2 w4 from HB3.out.trans (hk4.below hs3 (fun k hk hg => by have := HLO3.out k hg; omega)))
  have hs4 := HB4.out.size
  clear hj4 hG4 hF4 hk4 HLG
  simp only
  have HJ1M := Lib.hid (show ∀ e, some e ∈ j1.es → mayB e = true ∧ outB (goneL ds) e = true from fun e he => ⟨HG1.out.sm e he, by rw [HE1.out] at he; exact erE_some he⟩)
  go_wp2_with fail
  refine (rgone_any w4 A2 m c2 ds (HEV.out w4 HB4.out) (by omega) HSM.out).mono ?_
  rintro r w5 ⟨vr, rr, rfl, hris, hsv, hb5⟩
  obtain ⟨Ar, cr, rfl, hsr⟩ := hsv
  have HB5 := Lib.hid (HB4.out.trans (hb5.mono hs4))
  have HJ5 := Lib.hid (HJ4.out.up hb5)
  have HAO := Lib.hid (show ∀ x, rr.any (fun p => ownB p x) = !outB (goneL ds) x from fun x => any_own hris x)
  have HRS := Lib.hid (rising_small hris HSM.out)
  have hs5 := HB5.out.size
  have hrl : rr.length ≤ 40 := by
    have h1 := rising_length hris
    have h2 := goneL_length ds
    have h3 := HM.out
    omega
  have HSR := Lib.hid hsr
  obtain ⟨ns, hns⟩ : ∃ ns, ns = j1.dk.files.map (·.1) := ⟨_, rfl⟩
  have HNM := Lib.hid (show Calls Tryz.prog 20 #[.pointer (some ⟨bd, 0, none⟩)] w5 (SrcPost w5 ns) from by rw [hns]; exact dknames_any w5 G4 bd j1.dk HJ5.out.dk)
  obtain ⟨N, hN⟩ : ∃ N, N = nseg m per := ⟨_, rfl⟩
  have hN60 : N ≤ 41 := by
    rw [hN]
    have h4 : nseg m per < m + 1 := by
      unfold nseg
      refine (Nat.div_lt_iff_lt_mul (by omega)).2 ?_
      have h5 : m * 1 ≤ m * per := Nat.mul_le_mul_left _ hp1
      rw [Nat.succ_mul]; omega
    omega
  have HNS := Lib.hid (show ∀ k (hk : k < ns.length), ∃ q, q < N ∧ ns[k] = segF [106] q from fun k hk => by
    have h1 := HG1.out.names
    rw [HJ1L.out, HP1.out, HN1.out, ← hN, ← hns] at h1
    have h2 := (h1.2 ns[k]).1 (List.getElem_mem hk)
    obtain ⟨q, hq, e⟩ := List.mem_map.1 h2
    exact ⟨q, List.mem_range.1 hq, e.symm⟩)
  have hnl : ns.length ≤ 42 := by
    rw [hns, List.length_map]
    have := HG1.out.fine.fl
    rw [HJ1L.out] at this; omega
  have HRD := Lib.hid (show ∀ W q, RowKit.Below w5.heap.size w5 W → q < N → Calls Tryz.prog 24 #[.pointer (some ⟨bd, 0, none⟩), .string ⟨(segF [106] q).toArray⟩] W (RdPost W (bytesL (segL per q j1.es)) 0) from fun W q hW hq => by
    have h1 := HG1.out.data (by rw [HJ1L.out]; omega) (k := q) (by rw [HJ1L.out, HP1.out, ← hN]; exact hq)
    rw [HN1.out, HP1.out] at h1
    have h2 := dkread_any W G4 bd j1.dk (HJ5.out.up hW).dk (segF [106] q) (by have := (segF_len [106] (k := q) (by omega)).2; simp at this ⊢; omega)
    rw [h1.1, show j1.dk.read (segF [106] q) = bytesL (segL per q j1.es) from by unfold Dk.read; rw [if_pos h1.1, h1.2]] at h2
    exact h2)
  clear hris hsr hb5 hns hN
  go_wp2_with fail
  refine HNM.out.mono ?_
  rintro r w6 ⟨vN, rfl, hoN, hbN⟩
  obtain ⟨AN, cN, hvN⟩ := ownsRow_form hoN
  subst hvN
  have HB6 := Lib.hid (HB5.out.trans (hbN.mono hs5))
  have hs6 := HB6.out.size
  have HW6 := Lib.hid (show ∀ W, RowKit.Below w6.heap.size w6 W → Strs W W.heap.size AN ns.length cN ns ∧ Strs W W.heap.size Ar rr.length cr rr ∧ RowKit.Below w5.heap.size w5 W ∧ RowKit.Below w2.heap.size w2 W from fun W hW => by
    have h1 : Strs w6 w6.heap.size AN ns.length cN ns := Cel.of_own hoN
    have h2 : RowKit.Below w5.heap.size w5 W := hbN.trans (hW.mono hbN.size)
    exact ⟨Cel.more (Cel.below h1 hW) hW.size, Cel.more (Cel.below HSR.out h2) h2.size, h2, HB6.out.trans (hW.mono hs6)⟩)
  have HR0 := Lib.hid (show ByRel w6 ns.length (.int .i64 0) w6 from ⟨0, rfl, Nat.zero_le _, Below.refl _ _⟩)
  clear hoN hbN HNM
  go_wp2
  go_loopw [56] (fun i W => ByRel w6 ns.length i W) (fun i _ => ns.length - (intOf i).toNat)
  case atStart => exact HR0.out
  case round =>
    obtain ⟨k, rfl, hk, hbel⟩ := hrel
    have HBL := Lib.hid hbel
    have hsr := hbel.size
    clear hbel
    by_cases hkn : k < ns.length
    · have t1 : (k : Int) < ns.length := by omega
      obtain ⟨b, off, rfl, _, hc⟩ := (HW6.out wr HBL.out).1.at_ k hkn
      obtain ⟨q, hqN, hq⟩ := HNS.out k hkn
      rw [hq] at hc
      obtain ⟨xs, hxs⟩ : ∃ xs, xs = segL per q j1.es := ⟨_, rfl⟩
      have HXM := Lib.hid (show ∀ e, some e ∈ xs → mayB e = true ∧ outB (goneL ds) e = true from fun e he => HJ1M.out e (by rw [hxs] at he; unfold segL at he; exact List.mem_of_mem_drop (List.mem_of_mem_take he)))
      have hrd := HRD.out wr q (HW6.out wr HBL.out).2.2.1 hqN
      rw [← hxs] at hrd
      have HRK := Lib.hid hrd
      have hxl : xs.length ≤ 40 := by rw [hxs, segL_length, HJ1L.out]; omega
      have hbl : (bytesL xs).length ≤ 100000 := by have := bytesL_max (L := xs) (fun e he => (HXM.out e he).1); omega
      have hall := whole31 (L := xs) (fun e he => (HXM.out e he).1)
      have HALL := Lib.hid hall
      have HNXT := Lib.hid (show ∀ W, RowKit.Below w6.heap.size w6 W → ByRel w6 ns.length (.int .i64 ((k : Int) + 1)) W from fun W hW => ⟨k + 1, rfl, by omega, hW⟩)
      clear hrd hall hq hxs
      go_wp2_with fail
      refine HRK.out.mono ?_
      rintro r w7 ⟨vb, rfl, hob, hb7⟩
      obtain ⟨A8, c8, hvb⟩ := hob.form
      subst hvb
      have HB7 := Lib.hid (show RowKit.Below w6.heap.size w6 w7 from HBL.out.trans (hb7.mono hsr))
      have HAP := Lib.hid (all_any w7 A8 _ c8 (bytesL xs) hob.byt (by omega))
      clear hob hb7 hc
      go_wp2_with fail
      refine HAP.out.mono ?_
      rintro r w8 ⟨v9, vs, rfl, hrow, hbs, hb8⟩
      have hbs : OwnBs w8 w7.heap.size vs (xs.map bytesE) := by have := HALL.out; rw [this] at hbs; exact hbs
      obtain ⟨A9, c9, rfl, hpay⟩ := pay31 hrow hbs
      have HPAY := Lib.hid hpay
      have hen : (Frm.allB (bytesL xs)).2.1 = (bytesL xs).length := by rw [HALL.out]
      have hst : (Frm.allB (bytesL xs)).2.2 = 0 := by rw [HALL.out]
      rw [hen, hst]
      have HB8 := Lib.hid (show RowKit.Below w6.heap.size w6 w8 from HB7.out.trans (hb8.mono HB7.out.size))
      have hs8 := HB8.out.size
      have HR2 := Lib.hid (show ByRel w8 xs.length (.int .i64 0) w8 from ⟨0, rfl, Nat.zero_le _, Below.refl _ _⟩)
      clear hrow hbs hb8 hpay hen hst HAP
      go_wp2
      go_loopw [80] (fun i W => ByRel w8 xs.length i W) (fun i _ => xs.length - (intOf i).toNat)
      case atStart => exact HR2.out
      case round =>
        obtain ⟨k2, rfl, hk2, hbel2⟩ := hrel
        have HBL2 := Lib.hid hbel2
        have hsr2 := hbel2.size
        clear hbel2
        by_cases hkx : k2 < xs.length
        · have t2 : (k2 : Int) < xs.length := by omega
          obtain ⟨b', off', Ap, cp, hA9, hpc, hpb⟩ := HPAY.out wr HBL2.out k2 hkx
          subst hA9
          have HXX := Lib.hid (show ∀ e, xs[k2] = some e → mayB e = true ∧ outB (goneL ds) e = true from fun e he => HXM.out e (he ▸ List.getElem_mem hkx))
          have HPB := Lib.hid hpb
          have HNX2 := Lib.hid (show ∀ W, RowKit.Below w8.heap.size w8 W → ByRel w8 xs.length (.int .i64 ((k2 : Int) + 1)) W from fun W hW => ⟨k2 + 1, rfl, by omega, hW⟩)
          generalize xs[k2] = x at *
          clear hpb
          cases x with
          | none =>
            have h0 : (bytesE none).length = 0 := rfl
            rw [h0] at hpc
            have HRR := Lib.hid (HNX2.out wr HBL2.out)
            clear h0
            go_wp2
            go_roundw
            case rel => exact HRR.out
            case measure => simp [intOf]; omega
          | some e =>
            obtain ⟨hme, hke⟩ := HXX.out e rfl
            obtain ⟨np, hnp⟩ : ∃ np, np = (bytesE (some e)).length := ⟨_, rfl⟩
            have hnp2 : 0 < np := by rw [hnp]; show 0 < (encE e).length; exact encE_pos31 e
            rw [← hnp] at hpc HPB
            have tnp : ((np : Int) == 0) = false := by rw [beq_eq_false_iff_ne]; omega
            have HW8 := Lib.hid (show ∀ W, RowKit.Below w8.heap.size w8 W → RowKit.Below w6.heap.size w6 W from fun W hW => HB8.out.trans (hW.mono hs8))
            have HDC := Lib.hid (evdec_any wr Ap np cp e HPB.out hme (HMW.out wr (HW6.out wr (HW8.out wr HBL2.out)).2.2.2))
            unfold DecPost at HDC
            have hagg : e.agg = .agg #[.string ⟨e.src.toArray⟩, .int .i64 e.num, .int .i64 e.at_, .int .i64 e.kind, .string ⟨e.per.toArray⟩, .string ⟨e.item.toArray⟩, .int .i64 e.val, .string ⟨e.text.toArray⟩] := rfl
            rw [hagg] at HDC
            have HNO := Lib.hid (show ∀ p ∈ rr, ownB p e = false from fun p hp => by
              have h1 := HAO.out e
              rw [hke] at h1
              have h2 := List.any_eq_false.1 (h1.trans rfl) p hp
              simpa using h2)
            have HSE := Lib.hid (mayB_small hme)
            clear hagg hnp hnp2 hme hke
            go_wp2_with fail
            refine HDC.out.mono ?_
            rintro r w9 ⟨rfl, hb9⟩
            have HB9 := Lib.hid (show RowKit.Below w8.heap.size w8 w9 from HBL2.out.trans (hb9.mono hsr2))
            have hs9 := HB9.out.size
            have hba : RowKit.Below w9.heap.size w9 (w9.alloc (evObj e)) := (Below.refl _ _).alloc (Nat.le_refl _) _
            have HBA := Lib.hid (HB9.out.trans (hba.mono hs9))
            have HXV := Lib.hid (EvIn.new w9 e)
            have hsa : (w9.alloc (evObj e)).heap.size = w9.heap.size + 1 := by simp
            clear hb9 hpc HDC
            go_upto_region 23 with fail
            obtain ⟨wa, hwa⟩ : ∃ wa, wa = w9.alloc (evObj e) := ⟨_, rfl⟩
            obtain ⟨bx, hbx⟩ : ∃ bx, bx = w9.heap.size := ⟨_, rfl⟩
            rw [← hwa] at HBA HXV hsa ⊢
            rw [← hbx] at HXV hsa ⊢
            have HXW := Lib.hid (show ∀ W, RowKit.Below wa.heap.size wa W → EvIn W bx e from fun W hW => HXV.out.below hW (by omega))
            have HR3 := Lib.hid (show ByRel wa rr.length (.int .i64 0) wa from ⟨0, rfl, Nat.zero_le _, Below.refl _ _⟩)
            clear hwa hbx hba
            go_wp2
            go_loopw [97] (fun i W => ByRel wa rr.length i W) (fun i _ => rr.length - (intOf i).toNat)
            case atStart => exact HR3.out
            case round =>
              obtain ⟨z, rfl, hz, hbin⟩ := hrel
              have HBI := Lib.hid hbin
              have HBI8 := Lib.hid (show RowKit.Below w8.heap.size w8 wr from HBA.out.trans (hbin.mono HBA.out.size))
              have hsi := hbin.size
              clear hbin
              by_cases hzr : z < rr.length
              · have t3 : (z : Int) < rr.length := by omega
                obtain ⟨b2, off2, hAr, _, hc2⟩ := (HW6.out wr (HW8.out wr HBI8.out)).2.1.at_ z hzr
                subst hAr
                have HPS := Lib.hid (HRS.out rr[z] (List.getElem_mem hzr))
                have hno := HNO.out rr[z] (List.getElem_mem hzr)
                generalize rr[z] = p at *
                have HRO := Lib.hid (show Calls Tryz.prog 58 #[e.agg, .string ⟨p.toArray⟩] wr (Says false wr) from by
                  have := rown_any wr p e HPS.out
                  rw [hno] at this; exact this)
                have hagg : e.agg = .agg #[.string ⟨e.src.toArray⟩, .int .i64 e.num, .int .i64 e.at_, .int .i64 e.kind, .string ⟨e.per.toArray⟩, .string ⟨e.item.toArray⟩, .int .i64 e.val, .string ⟨e.text.toArray⟩] := rfl
                rw [hagg] at HRO
                obtain ⟨f0, f1, f2, f3, f4, f5, f6, f7⟩ := HXW.out wr HBI.out
                clear hno hagg
                go_wp2_with fail
                refine HRO.out.mono ?_
                rintro r w10 ⟨rfl, hb10⟩
                have HRR := Lib.hid (show ByRel wa rr.length (.int .i64 ((z : Int) + 1)) w10 from ⟨z + 1, rfl, by omega, HBI.out.trans (hb10.mono hsi)⟩)
                clear hb10 f0 f1 f2 f3 f4 f5 f6 f7 hc2
                go_wp2
                go_roundw
                case rel => exact HRR.out
                case measure => simp [intOf]; omega
              · have t3 : ¬ (z : Int) < rr.length := by omega
                have HRR := Lib.hid (HNX2.out wr HBI8.out)
                go_wp2
                go_roundw
                case rel => exact HRR.out
                case measure => simp [intOf]; omega
        · have t2 : ¬ (k2 : Int) < xs.length := by omega
          have HRR := Lib.hid (HNXT.out wr (HB8.out.trans (HBL2.out.mono hs8)))
          go_wp2
          go_roundw
          case rel => exact HRR.out
          case measure => simp [intOf]; omega
    · have t1 : ¬ (k : Int) < ns.length := by omega
      have HBZ := Lib.hid (HW6.out wr HBL.out).2.2.2
      go_wp2_with fail
      refine (awake_any wr).mono ?_
      rintro r w12 ⟨rfl, hb12⟩
      have HR := Lib.hid (show Says true w (.returned (.bool true)) w12 from ⟨rfl, HW2.out _ (HBZ.out.trans (hb12.mono HBZ.out.size))⟩)
      clear hb12
      go_wp2
      go_ret
      exact HR.out
end Go.Proofs.YtejjfhhppjdcaaaGreatDoor
