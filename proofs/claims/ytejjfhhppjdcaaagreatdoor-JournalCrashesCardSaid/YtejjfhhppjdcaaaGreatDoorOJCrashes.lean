/-
  The law JournalCrashes, walked.
-/
import Derived.Test.YtejjfhhppjdcaaaGreatDoorOJOpens
import Derived.Test.YtejjfhhppjdcaaaGreatDoorORWhole
import Derived.Test.YtejjfhhppjdcaaaGreatDoorOKpRow
namespace Go.Proofs.YtejjfhhppjdcaaaGreatDoor
open Go.RowKit Go.Maps Go.Sort Go.Shelf

set_option maxRecDepth 100000 in
set_option maxHeartbeats 8000000 in
theorem jcrashes_any (w : World) (p : Int) (A : Option Addr) (n c : Nat) (ds : List Dj) (h : Djs w w.heap.size A n c ds) (hn : n ≤ 140737488355328) (keep : Int) (more : Ev) (hmx : MaxAt w) :
    Calls Tryz.prog 9 #[.int .i64 p, .slice A n c, .int .i64 keep, more.agg] w (Says true w) := by
  have hagg : more.agg = .agg #[.string ⟨more.src.toArray⟩, .int .i64 more.num, .int .i64 more.at_, .int .i64 more.kind, .string ⟨more.per.toArray⟩, .string ⟨more.item.toArray⟩, .int .i64 more.val, .string ⟨more.text.toArray⟩] := rfl
  have hb00 : RowKit.Below w.heap.size w (w.alloc (evObj more)) := (Below.refl _ _).alloc (Nat.le_refl _) _
  have HB00 := Lib.hid hb00
  have HEV0 := Lib.hid (EvIn.new w more)
  have HS00 := Lib.hid (show (w.alloc (evObj more)).heap.size = w.heap.size + 1 by simp)
  have HBG := Lib.hid (show ∀ W, Calls Tryz.prog 45 #[more.agg, .int .i64 300] W (Says (bigB more 300) W) from fun W => big_any W more 300)
  have HMY := Lib.hid (show more.small → ∀ W, Calls Tryz.prog 47 #[more.agg] W (Says (mayB more) W) from fun hs W => rmay_any W more hs)
  rw [hagg] at HBG HMY ⊢
  clear hagg hb00
  have HH := Lib.hid h; clear h
  have HMX := Lib.hid hmx; clear hmx
  go_enter Tryz.func9, Tryz.ntmps9
  obtain ⟨w0, hw0⟩ : ∃ w0, w0 = w.alloc (evObj more) := ⟨_, rfl⟩
  rw [← hw0] at HB00 HEV0 HS00
  go_upto_region 1 with fail
  rw [← hw0]
  clear hw0
  have HEI := Lib.hid (show ∀ W, RowKit.Below w0.heap.size w0 W → EvIn W w.heap.size more from fun W hW => HEV0.out.below hW (by have := HS00.out; omega))
  have HW0 := Lib.hid (show ∀ W, RowKit.Below w0.heap.size w0 W → Says true w (.returned (.bool true)) W from fun W hW => ⟨rfl, HB00.out.trans (hW.mono HB00.out.size)⟩)
  have HMX0 := Lib.hid (show ∀ W, RowKit.Below w0.heap.size w0 W → MaxAt W from fun W hW => (HMX.out.up HB00.out).up hW)
  have hml0 := (HMX0.out w0 (Below.refl _ _)).lt
  have HDJ := Lib.hid (show ∀ W, RowKit.Below w0.heap.size w0 W → Djs W W.heap.size A n c ds from fun W hW => by
    have h1 := HB00.out.trans (hW.mono HB00.out.size)
    exact Djs.more (HH.out.below h1) h1.size)
  go_wp2_with fail
  refine (jlives_any w0 (HMX0.out w0 (Below.refl _ _))).mono ?_
  rintro r w1 ⟨rfl, hb1⟩
  have hbw1 : RowKit.Below w0.heap.size w0 w1 := hb1
  have hs1 := hb1.size
  by_cases h1 : p < 1
  · have HR := Lib.hid (HW0.out w1 hbw1)
    go_wp2
    go_ret
    exact HR.out
  by_cases h2 : 8 < p
  · have HR := Lib.hid (HW0.out w1 hbw1)
    go_wp2
    go_ret
    exact HR.out
  have hH1 := HDJ.out w1 hbw1
  go_wp2_with fail
  refine (heavy05_any w1 A n c ds hH1 hn).mono ?_
  rintro r w2 ⟨rfl, hb2⟩
  have hbw2 : RowKit.Below w0.heap.size w0 w2 := hbw1.trans (hb2.mono hs1)
  clear hb2 hb1 hH1
  cases hhv : heavyB ds
  case true =>
    have HR := Lib.hid (HW0.out w2 hbw2)
    clear hhv
    go_wp2
    go_ret
    exact HR.out
  obtain ⟨hsm, hsum⟩ := heavyB_no hhv
  have HSM := Lib.hid hsm
  have HB2 := Lib.hid hbw2
  obtain ⟨f0, f1, f2, f3, f4, f5, f6, f7⟩ := HEI.out w2 hbw2
  clear hsm hhv hbw2 hbw1
  go_wp2_with fail
  refine (HBG.out w2).mono ?_
  rintro r w2' ⟨rfl, hb2'⟩
  have hs2 := HB2.out.size
  have HB2' := Lib.hid (HB2.out.trans (hb2'.mono hs2))
  clear f0 f1 f2 f3 f4 f5 f6 f7 hb2'
  cases hbg : bigB more 300
  case true =>
    have HR := Lib.hid (HW0.out w2' HB2'.out)
    clear hbg
    go_wp2
    go_ret
    exact HR.out
  have HSE := Lib.hid (show more.small from some_small (ds := [more]) (by simp [hbg]) more (by simp))
  obtain ⟨per, rfl⟩ := Int.eq_ofNat_of_zero_le (show 0 ≤ p by omega)
  have hs2' := HB2'.out.size
  clear hbg
  go_wp2_with fail
  refine (dknew_any w2').mono ?_
  rintro r w3 ⟨bd, G0, rfl, hd3, hG3, hb3⟩
  have HD3 := Lib.hid hd3
  have HB3 := Lib.hid (HB2'.out.trans (hb3.mono hs2'))
  have hs3 := hb3.size
  have hG3' : ∀ b, G0 b → w0.heap.size ≤ b := fun b hb => by have := hG3 b hb; omega
  have HGR := Lib.hid (grown_any w3 G0 bd w0.heap.size HD3.out (by omega) hG3' A n c ds (by
    have h2 := HB00.out.trans (HB3.out.mono HB00.out.size)
    have h1 : Djs w3 w.heap.size A n c ds := HH.out.below h2
    exact Djs.more h1 HB00.out.size) per (by omega) (by omega) HSM.out hsum (HMX0.out _ HB3.out) (by omega) hn)
  have HJG := Lib.hid ((Jl.good_new [106] per (by simp) (by omega)).deeds rfl ds (by omega))
  have hpj : ((Jl.new Dk.new [106] per).deeds ds).per = per := HJG.out.2.2.2
  have hnj : ((Jl.new Dk.new [106] per).deeds ds).name = [106] := HJG.out.2.2.1
  generalize (Jl.new Dk.new [106] per).deeds ds = j at *
  clear hd3 hG3 hb3 hG3'
  go_wp2_with fail
  refine HGR.out.mono ?_
  rintro r w4 ⟨bj, z, cc, Av, G, F, rfl, hst, hlo, hb4⟩
  go_upto_region 7 with fail
  have hb45 : RowKit.Below w4.heap.size w4 (w4.alloc (stObj Av z cc j.lasts)) := (Below.refl _ _).alloc (Nat.le_refl _) _
  have hs4 := hb4.size
  have hlt4 : ∀ b, G b ∨ F b → b < w4.heap.size := fun b hb => hst.jl.lt b hb
  have HB5 := Lib.hid (show RowKit.Below w0.heap.size w0 (w4.alloc (stObj Av z cc j.lasts)) from (HB3.out.trans hb4).trans (hb45.mono (by omega)))
  have HST := Lib.hid (hst.up hb45)
  have HT5 := Lib.hid (heap_alloc_new w4 (stObj Av z cc j.lasts))
  have HS5 := Lib.hid (show (w4.alloc (stObj Av z cc j.lasts)).heap.size = w4.heap.size + 1 by simp)
  obtain ⟨b7, hb7⟩ : ∃ b7, b7 = w4.heap.size := ⟨_, rfl⟩
  obtain ⟨w5, hw5⟩ : ∃ w5, w5 = w4.alloc (stObj Av z cc j.lasts) := ⟨_, rfl⟩
  rw [← hw5] at HB5 HST HT5 HS5 ⊢
  rw [← hb7] at HT5 HS5 hlt4 hs4 ⊢
  have HLT4 := Lib.hid hlt4
  have HLO := Lib.hid hlo
  clear hw5 hb7 hb45 hst hb4 HGR hlt4 hlo
  have hz : z = j.es.length := by
    obtain ⟨A2, c2, hv2⟩ := ownsRow_form HST.out.row
    injection hv2
  have HZ := Lib.hid hz
  have hz60 : z ≤ 60 := by have := HJG.out.2.1; omega
  clear hz
  have HBX := Lib.hid (show BxS w0 b7 Av z cc j.es (j.lasts : Int) G w5 from ⟨HB5.out, HT5.out, HST.out.row, fun hg => by have := HLT4.out _ (.inl hg); omega, fun b hb => (HST.out.ap b hb).1, fun b hb => HLO.out b (.inl hb), by have := HB3.out.size; omega⟩)
  -- the names
  obtain ⟨N, hN⟩ : ∃ N, N = j.dk.files.length := ⟨_, rfl⟩
  have hN61 : N ≤ 61 := by have := HJG.out.1.fine.fl; rw [hN]; have := HZ.out; omega
  have HN := Lib.hid hN
  have HNM := Lib.hid (show ∀ W, RowKit.Below w5.heap.size w5 W → Calls Tryz.prog 20 #[.pointer (some ⟨bd, 0, none⟩)] W (SrcPost W (j.dk.files.map (·.1))) from fun W hW => dknames_any W G bd j.dk (HST.out.jl.up hW).dk)
  have HK0 := Lib.hid (show KpRel w5 N keep (.slice (some ⟨w5.heap.size, 0, none⟩) 0 0) (.int .i64 0) (w5.alloc (.cells #[] 3)) from ⟨0, rfl, Nat.zero_le _, World.ownsRow_lit (e := 3) (size := 1) w5 #[] 0 (Nat.le_refl _) (by simp [maxLen]) rfl, (Below.refl _ _).alloc (Nat.le_refl _) _⟩)
  obtain ⟨j0, hi, hz0, hz1, hz2⟩ := info_parts jint_info
  have KI := Lib.hid hi; have KZ0 := Lib.hid hz0; have KZ1 := Lib.hid hz1; have KZ2 := Lib.hid hz2
  clear hi hz0 hz1 hz2 hN
  go_wp2
  go_loopw [13, 14] (fun v i W => KpRel w5 N keep v i W) (fun _ i _ => N - (intOf i).toNat)
  case atStart => exact HK0.out
  case round =>
    obtain ⟨k, rfl, hk, hov, hbel⟩ := hrel
    have HV := Lib.hid hov; have HBL := Lib.hid hbel
    have hsr := hbel.size
    clear hov hbel
    go_wp2_with fail
    refine (HNM.out wr HBL.out).mono ?_
    rintro r wn ⟨vn, rfl, hrow, hbn⟩
    obtain ⟨An, cn, hvn⟩ := ownsRow_form hrow
    subst hvn
    have HBN := Lib.hid (show RowKit.Below w5.heap.size w5 wn from HBL.out.trans (hbn.mono hsr))
    have HVN := Lib.hid (show OwnI wn w5.heap.size u13 (List.replicate k keep) from OwnI.keepB HV.out fun b hb => hbn.block b (World.ownsRow.lt HV.out b hb).2)
    have hln : (j.dk.files.map (·.1)).length = N := by rw [List.length_map, HN.out]
    rw [hln]
    have hsn := HBN.out.size
    clear hrow hbn hln
    by_cases hkN : k < N
    · have t1 : (k : Int) < N := by omega
      have hlk : (List.replicate k keep).length = k := by simp
      go_wp2_with (at_builtin; refine wpList_app (P := Tryz.prog) rfl (.tmp 60) (.tmp 62) 63 rfl 3 j0 _ 1 8 Tryz.underlying63 KI.out KZ0.out KZ1.out KZ2.out rfl (by decide) w5.heap.size _ (List.replicate k keep).length (intVs (List.replicate k keep)) rfl ?c1 (wn.heap.size + 1) _ _ _ [.int .i64 keep] rfl ?c2 ?c3 ?c4 ?c5 ?c6 ?_)
      case c1 => exact World.ownsRow.alloc HVN.out _
      case c2 => exact Cel.new (size := 1) (n := 1) wn #[.int .i64 keep] 3 (by unfold maxLen; omega) rfl
      case c3 => intro u hu; simp at hu; subst hu; rfl
      case c4 => unfold maxLen; omega
      case c5 => omega
      case c6 => first | omega | (simp; omega)
      intro u' w6 hown3 hg3 _
      have HKR := Lib.hid (show KpRel w5 N keep u' (.int .i64 ((k : Int) + 1)) w6 from by
        refine ⟨k + 1, rfl, by omega, ?_, Below.grown (HBN.out.alloc hsn _) hg3 (by first | omega | (simp; omega)) (fun k' hk' => (World.ownsRow.lt HVN.out k' hk').1)⟩
        rw [List.replicate_succ']
        unfold OwnI intVs; rw [List.map_append, List.length_append, List.length_replicate]; exact hown3)
      clear hown3 hg3
      go_wp2
      go_roundw
      case rel => exact HKR.out
      case measure => simp [intOf]; omega
    · have t1 : ¬ (k : Int) < N := by omega
      obtain rfl : k = N := by omega
      obtain ⟨AK, cK, rfl, hik⟩ := HVN.out.form
      have HIK := Lib.hid hik
      have hlk : (List.replicate k keep).length = k := by simp
      rw [hlk] at HIK ⊢
      have HBXN := Lib.hid (HBX.out.below HBN.out)
      have HCR := Lib.hid (show Calls Tryz.prog 36 #[.pointer (some ⟨bd, 0, none⟩), .slice AK k cK] wn (CrPost wn G bd (j.dk.crash (List.replicate k keep))) from
        dkcrash_any wn G bd j.dk (HST.out.jl.up HBN.out).dk (fun p hp => by
          have h1 := HJG.out.1.names
          have h2 := (h1.2 p.1).1 (List.mem_map.2 ⟨p, hp, rfl⟩)
          obtain ⟨q, hq, e⟩ := List.mem_map.1 h2
          have h3 := List.mem_range.1 hq
          rw [hpj] at h3
          have h4 := nseg_few (n := j.es.length) (p := per) (by omega)
          have h5 := HZ.out
          rw [← e, hnj]
          have := (segF_len [106] (k := q) (by omega)).2
          simp only [List.length_cons, List.length_nil] at this; omega) AK k cK _ HIK.out (fun b off e h0 hg => by
          have h1 := HVN.out.2
          rcases h1 with ⟨e', _⟩ | ⟨g, cap, cur, e', hbg, _⟩
          · injection e' with e1 e2; rw [e1] at e; cases e
          · injection e' with e1 e2
            rw [e] at e1; injection e1 with e1; injection e1 with e1
            have := (HST.out.jl.lt b (.inl hg)); omega))
      have HCO := Lib.hid (show CrOut (j.dk.crash (List.replicate k keep)) [106] per j.lasts j.es (keepN j.es (autoN z per) j.lasts keep) from by
        have h1 := crash_open (d := j.dk) (s := j.name) (per := j.per) (fc := j.files) (m := j.lasts) (L := j.es) HJG.out.1.inv HJG.out.1.ok (by rw [hnj]; simp) (by rw [hpj]; omega) (by have := HZ.out; omega) HJG.out.1.sm (List.replicate k keep)
        have h2 := leftN_keep HJG.out.1 keep
        rw [← HN.out] at h2
        rw [h2, hnj, hpj, ← HZ.out] at h1
        exact h1)
      clear hik hlk
      go_wp2_with fail
      refine HCR.out.mono ?_
      rintro r w9 ⟨rfl, G3, hd9, hG9, hk9⟩
      have HBX9 := Lib.hid (HBXN.out.next hk9 hG9)
      have HD9 := Lib.hid hd9
      generalize j.dk.crash (List.replicate k keep) = d9 at *
      clear hd9 hG9 hk9 HCR
      obtain ⟨c0, c1, c1f⟩ := HBX9.out.cells
      obtain ⟨bg, hbg⟩ : ∃ bg, bg = autoN z per := ⟨_, rfl⟩
      have hbz : bg ≤ z := by rw [hbg]; exact autoN_le z per
      have hAU : Calls Tryz.prog 46 #[.int .i64 z, .int .i64 per] w9 (fun e w' => e = .returned (.int .i64 (bg : Int)) ∧ w9 = w') := by rw [hbg]; exact rauto_any w9 z per (by omega) (by omega) (by omega)
      have HAU := Lib.hid hAU
      rw [← hbg] at HCO
      have hEN := HBX9.out.ents
      have hzc : z ≤ cc := Cel.cap hEN
      have HLS := Lib.hid (Ents.from_ hEN bg hbz)
      have HLZ := Lib.hid (show j.lasts ≤ z from by have := DInv.m1 HJG.out.1.inv; rw [HZ.out]; exact this)
      clear hbg hEN hAU
      go_wp2_with fail
      refine HAU.out.mono ?_
      rintro r w10 ⟨rfl, rfl⟩
      have hbc : bg ≤ cc := by omega
      go_upto_region 16 with fail
      go_cut [16] (fun v wc => LastP w9 (z - bg) (j.es.drop bg) v wc)
      case first =>
        by_cases hcb : cc = bg
        case' pos => rw [if_pos hcb, show cc - bg = 0 by omega] at HLS
        case' neg => rw [if_neg hcb] at HLS
        all_goals
          go_wp2
          go_meet
          exact ⟨_, _, rfl, HLS.out, rfl⟩
      case rest =>
        obtain ⟨Al, cl, rfl, hLe, rfl⟩ := hcut
        have HLE := Lib.hid hLe
        clear hLe HLS
        have HSM2 := Lib.hid (show ∀ e, some e ∈ j.es → mayB e = true from HJG.out.1.sm)
        obtain ⟨S, hS⟩ : ∃ S, S = sureN j.es bg j.lasts := ⟨_, rfl⟩
        have hSB : S ≤ 100000 := by
          rw [hS]
          have h1 := sureN_le j.es bg j.lasts
          have h2 := bytesL_max (L := j.es.drop bg) (fun e he => HSM2.out e (List.mem_of_mem_drop he))
          have h3 : (j.es.drop bg).length ≤ 60 := by rw [List.length_drop]; have := HZ.out; omega
          omega
        have HS := Lib.hid hS
        clear hS
        go_upto_if 79 with fail
        go_cut [17] (fun v wx => v = .int .i64 (S : Int) ∧ RowKit.Below w9.heap.size w9 wx)
        case first =>
          by_cases hlb : bg < j.lasts
          · have t1 : (bg : Int) < j.lasts := by omega
            have hlz := HLZ.out
            have HMID := Lib.hid (Ents.mid HBX9.out.ents bg (j.lasts - bg) (by omega))
            have HBYS := Lib.hid (rbytes_any w9 _ _ _ _ HMID.out (fun e he => HSM2.out e (List.mem_of_mem_drop (List.mem_of_mem_take he))) (by omega))
            have HEQ := Lib.hid (show (bytesL ((j.es.drop bg).take (j.lasts - bg))).length = S from by rw [HS.out]; unfold sureN; rw [List.drop_take])
            have hcb : ¬ cc = bg := by omega
            rw [if_neg hcb] at HBYS
            generalize bytesL ((j.es.drop bg).take (j.lasts - bg)) = q at *
            clear HMID
            have t2 : (j.lasts : Int) ≤ cc := by omega
            go_wp2_with fail
            with_reducible refine HBYS.out.mono ?_
            rintro r w11 ⟨rfl, hb11⟩
            have HB11 := Lib.hid hb11
            have hq := HEQ.out
            clear hb11 HBYS HEQ c0 c1 c1f
            subst hq
            go_wp2
            go_meet
            exact ⟨rfl, HB11.out⟩
          · have t1 : ¬ (bg : Int) < j.lasts := by omega
            have HZ0 := Lib.hid (show S = 0 from by rw [HS.out]; exact sureN_none (by omega))
            go_wp2
            go_meet
            exact ⟨by rw [HZ0.out]; rfl, Below.refl _ _⟩
        case rest =>
          obtain ⟨rfl, hb12⟩ := hcut
          have HB12 := Lib.hid hb12
          have HBY := Lib.hid (show Calls Tryz.prog 41 #[.slice Al (z - bg) cl] wc (StrP wc (bytesL (j.es.drop bg))) from rbytes_any wc _ _ _ _ (Cel.more (Cel.below HLE.out hb12) hb12.size) (fun e he => HSM2.out e (List.mem_of_mem_drop he)) (by omega))
          obtain ⟨lo, hlo2⟩ : ∃ lo, lo = looseN j.es bg j.lasts := ⟨_, rfl⟩
          have HLOO := Lib.hid hlo2
          have HLEN := Lib.hid (show (bytesL (j.es.drop bg)).length = S + lo ∧ lo ≤ 100000 from by
            have h1 := sureN_le j.es bg j.lasts
            have h2 := bytesL_max (L := j.es.drop bg) (fun e he => HSM2.out e (List.mem_of_mem_drop he))
            have h3 : (j.es.drop bg).length ≤ 60 := by rw [List.length_drop]; have := HZ.out; omega
            have h4 := HS.out
            rw [hlo2]; unfold looseN; omega)
          have hloB := HLEN.out.2
          clear hb12 c0 c1 c1f hlo2
          go_wp2_with fail
          refine HBY.out.mono ?_
          rintro r w13 ⟨rfl, hb13⟩
          have HB13 := Lib.hid (show RowKit.Below w9.heap.size w9 w13 from HB12.out.trans (hb13.mono HB12.out.size))
          have hq := HLEN.out.1
          generalize bytesL (j.es.drop bg) = q at *
          have t13 : (q.length : Int) - (S : Int) = (lo : Int) := by omega
          clear hb13 HBY hq HLEN
          go_upto_if 94 with fail
          obtain ⟨k1, hk1⟩ : ∃ k1 : Int, k1 = max keep 0 := ⟨_, rfl⟩
          have HK1 := Lib.hid hk1
          clear hk1 t13
          go_cut [2] (fun v wx => v = .int .i64 k1 ∧ w13 = wx)
          case first =>
            by_cases hk0 : keep < 0
            · obtain rfl : k1 = 0 := by have := HK1.out; omega
              clear HK1
              go_wp2
              go_meet
              exact ⟨rfl, rfl⟩
            · obtain rfl : k1 = keep := by have := HK1.out; omega
              clear HK1
              go_wp2
              go_meet
              exact ⟨rfl, rfl⟩
          case rest =>
            obtain ⟨rfl, rfl⟩ := hcut
            go_upto_if 97 with fail
            have h10 : 0 ≤ k1 := by have := HK1.out; omega
            obtain ⟨kk, hkk⟩ : ∃ kk : Nat, (kk : Int) = min k1 lo := ⟨(min k1 lo).toNat, by omega⟩
            have HKK := Lib.hid hkk
            clear hkk
            go_cut [2] (fun v wx => v = .int .i64 (kk : Int) ∧ w13 = wx)
            case first =>
              by_cases hk0 : (lo : Int) < k1
              · obtain rfl : kk = lo := by have := HKK.out; omega
                clear HKK
                go_wp2
                go_meet
                exact ⟨rfl, rfl⟩
              · obtain rfl : k1 = (kk : Int) := by have := HKK.out; omega
                clear HKK HK1
                go_wp2
                go_meet
                exact ⟨rfl, rfl⟩
            case rest =>
              obtain ⟨rfl, rfl⟩ := hcut
              have hkk := HKK.out
              have hk1 := HK1.out
              have hkB : kk ≤ 100000 := by omega
              obtain ⟨sk, hsk⟩ : ∃ sk, sk = S + kk := ⟨_, rfl⟩
              have tsk : (S : Int) + (kk : Int) = (sk : Int) := by omega
              have hskB : sk ≤ 200000 := by omega
              have HWH := Lib.hid (show Calls Tryz.prog 31 #[.slice Al (z - bg) cl, .int .i64 sk] w13 (WholeP w13 (wholeB (j.es.drop bg) sk)) from rwhole_any w13 _ _ _ _ (Cel.more (Cel.below HLE.out HB13.out) HB13.out.size) (fun e he => HSM2.out e (List.mem_of_mem_drop he)) (by omega) sk (by omega))
              obtain ⟨Q, hQ⟩ : ∃ Q, Q = keepN j.es bg j.lasts keep := ⟨_, rfl⟩
              have HQ := Lib.hid (show bg + wholeB (j.es.drop bg) sk = Q from by
                rw [hQ]; unfold keepN
                rw [← HLOO.out, ← HS.out, ← hk1, ← hkk, hsk]; rfl)
              rw [← hQ] at HCO
              have hQL := HCO.out.lo
              have hQz : Q ≤ z := by have := HCO.out.hi; have := HZ.out; omega
              clear hQ hsk hkk hk1 h10
              go_wp2_with fail
              refine HWH.out.mono ?_
              rintro r w14 ⟨rfl, hb14⟩
              have HB14 := Lib.hid (show RowKit.Below w9.heap.size w9 w14 from HB13.out.trans (hb14.mono HB13.out.size))
              have hq2 := HQ.out
              generalize wholeB (j.es.drop bg) sk = W at *
              have tQ : (bg : Int) + (W : Int) = (Q : Int) := by omega
              clear hb14 HWH hq2 HQ tsk
              obtain ⟨fc, t, ho, hfine⟩ := HCO.out.opened
              have HBX14 := Lib.hid (HBX9.out.below HB14.out)
              have HOP := Lib.hid (show Calls Tryz.prog 18 #[.pointer (some ⟨bd, 0, none⟩), .string ⟨#[106]⟩, .int .i64 (per : Int)] w14 (OpenPost w14 G3 bd (Jl.opened d9 [106] per fc (j.es.take Q) t)) from
                jlopen_any w14 G3 bd d9 (HD9.out.up HB14.out) [106] (by decide) per fc (j.es.take Q) t ho (HMX0.out _ HBX14.out.kp) (fun hg => by have := HBX14.out.lo _ hg; omega))
              have HFI := Lib.hid hfine
              have hlQ : (j.es.take Q).length = Q := by rw [List.length_take]; have := HZ.out; omega
              have HLQ := Lib.hid hlQ
              clear ho hfine hlQ
              go_wp2_with fail
              refine HOP.out.mono ?_
              rintro r w15 ⟨bj2, G4, F4, rfl, hj15, hG15, hF15, hk15⟩
              have HBX15 := Lib.hid (HBX14.out.next hk15 hG15)
              have HJ15 := Lib.hid hj15
              have HF15 := Lib.hid hF15
              obtain ⟨j2, hj2⟩ : ∃ j2, j2 = Jl.opened d9 [106] per fc (j.es.take Q) t := ⟨_, rfl⟩
              have he2 : j2.es = j.es.take Q := by rw [hj2]; rfl
              have hl2 : j2.lasts = Q := by rw [hj2]; exact HLQ.out
              rw [← hj2] at HJ15 HFI
              have HE2 := Lib.hid he2
              have HMO := Lib.hid (show mayB more = true → j2.app [more] = j2.puts [more] ∧ j2.appN [more] = Q ∧ j2.appE [more] = 0 ∧ (j2.puts [more]).es.length = Q + 1 from fun hm => by
                have h1 : j2.es.length = Q := by rw [he2]; exact HLQ.out
                have h2 := HFI.out.more (by omega) more hm
                rw [h1] at h2; exact h2)
              have HNL := Lib.hid (show j2.es.length + [more].length ≤ 99 from by
                have h1 : j2.es.length = Q := by rw [he2]; exact HLQ.out
                show j2.es.length + 1 ≤ 99
                omega)
              have HMLX := Lib.hid (show ¬ G4 1 ∧ ¬ F4 1 from ⟨fun hg => by have := HBX15.out.lo _ hg; omega, fun hf => by have := HF15.out _ hf; have := HBX14.out.kp.size; omega⟩)
              have HF4 := Lib.hid (show ∀ b, F4 b → w0.heap.size ≤ b from fun b hb => by have := HF15.out b hb; have := HBX14.out.kp.size; omega)
              clear hj15 hG15 hF15 hk15 HOP hj2 he2
              obtain ⟨c0, c1, c1f⟩ := HBX15.out.cells
              have hQc : Q ≤ cc := by omega
              have hb16 : RowKit.Below w15.heap.size w15 (w15.alloc (stObj Av Q cc (Q : Int))) := (Below.refl _ _).alloc (Nat.le_refl _) _
              have HBX16 := Lib.hid (HBX15.out.below hb16)
              have HJ16 := Lib.hid (HJ15.out.up hb16)
              have HT16 := Lib.hid (heap_alloc_new w15 (stObj Av Q cc (Q : Int)))
              go_upto_region 28 with fail
              obtain ⟨b8, hb8⟩ : ∃ b8, b8 = w15.heap.size := ⟨_, rfl⟩
              obtain ⟨w16, hw16⟩ : ∃ w16, w16 = w15.alloc (stObj Av Q cc (Q : Int)) := ⟨_, rfl⟩
              rw [← hw16] at HBX16 HJ16 HT16 ⊢
              rw [← hb8] at HT16 ⊢
              clear hw16 hb8 hb16 c0 c1 c1f
              obtain ⟨c0, c1, c1f⟩ := HBX16.out.cells
              have x0 : w16.cell? ⟨b8, 0, none⟩ = some (.slice Av Q cc) := (cell_of_row w16 b8 0 _ _ (0, 0) HT16.out).trans rfl
              have x1 : w16.cell? ⟨b8, 1, none⟩ = some (.int .i64 (Q : Int)) := (cell_of_row w16 b8 1 _ _ (0, 0) HT16.out).trans rfl
              have HEV := Lib.hid (show Calls Tryz.prog 32 #[.pointer (some ⟨bj2, 0, none⟩), .agg #[.slice Av Q cc, .int .i64 (Q : Int)]] w16 (Says true w16) from by
                have := jeven_any w16 G4 F4 bj2 bd j2 HJ16.out Av Q cc (by rw [HE2.out]; exact Ents.upto HBX16.out.ents Q hQz)
                rw [hl2] at this
                exact this)
              have tl : ¬ (Q : Int) < j.lasts := by omega
              go_wp2_with fail
              refine HEV.out.mono ?_
              rintro r w17 ⟨rfl, hb17⟩
              have HBX17 := Lib.hid (HBX16.out.below hb17)
              have HJ17 := Lib.hid (HJ16.out.up hb17)
              clear hb17 HEV c0 c1 c1f x0 x1
              obtain ⟨f0, f1, f2, f3, f4, f5, f6, f7⟩ := HEI.out w17 HBX17.out.kp
              go_wp2_with fail
              refine (HMY.out HSE.out w17).mono ?_
              rintro r w18 ⟨rfl, hb18⟩
              have HBX18 := Lib.hid (HBX17.out.below hb18)
              have HJ18 := Lib.hid (HJ17.out.up hb18)
              clear f0 f1 f2 f3 f4 f5 f6 f7 hb18
              cases hmy : mayB more
              case false =>
                have HR := Lib.hid (HW0.out w18 HBX18.out.kp)
                clear hmy
                go_wp2
                go_ret
                exact HR.out
              have hX1 := HMO.out hmy
              have hbA : RowKit.Below w18.heap.size w18 (w18.alloc (evObj more)) := (Below.refl _ _).alloc (Nat.le_refl _) _
              have HBX19 := Lib.hid (HBX18.out.below hbA)
              have hsA : (w18.alloc (evObj more)).heap.size = w18.heap.size + 1 := by simp
              have HCA := Lib.hid (show Calls Tryz.prog 19 #[.pointer (some ⟨bj2, 0, none⟩), .slice (some ⟨w18.heap.size, 0, none⟩) 1 1] (w18.alloc (evObj more)) (AppPost (w18.alloc (evObj more)) G4 F4 bj2 bd (j2.puts [more]) Q 0) from by
                have h1 : Evs (w18.alloc (evObj more)) (w18.heap.size + 1) (some ⟨w18.heap.size, 0, none⟩) 1 1 [more] := Cel.new (size := 8) (n := 1) w18 #[.string ⟨more.src.toArray⟩, .int .i64 more.num, .int .i64 more.at_, .int .i64 more.kind, .string ⟨more.per.toArray⟩, .string ⟨more.item.toArray⟩, .int .i64 more.val, .string ⟨more.text.toArray⟩] 36 (by unfold maxLen; omega) rfl
                have h2 := jlapp_any (w18.alloc (evObj more)) G4 F4 bj2 bd j2 (HJ18.out.up hbA) (some ⟨w18.heap.size, 0, none⟩) 1 1 [more] (by rw [hsA]; exact h1) (fun b' off' e _ hN => by
                  injection e with e; injection e with e
                  have := HJ18.out.lt b' hN; omega) (fun e he => by rw [List.mem_singleton] at he; subst he; exact HSE.out) HNL.out (HMX0.out _ HBX19.out.kp) HMLX.out
                rw [hX1.1, hX1.2.1, hX1.2.2.1] at h2
                exact h2)
              have HLP := Lib.hid hX1.2.2.2
              obtain ⟨f0, f1, f2, f3, f4, f5, f6, f7⟩ := HEI.out w18 HBX18.out.kp
              clear hX1 hsA hbA hmy
              go_wp2_with fail
              refine HCA.out.mono ?_
              rintro r w20 ⟨rfl, hd20⟩
              obtain ⟨G5, F5, hj20, hG20, hF20, hk20⟩ := hd20
              have HJ20 := Lib.hid hj20
              have hbF : RowKit.Below w0.heap.size w0 w20 := HBX19.out.kp.trans (hk20.below HBX19.out.kp.size (fun b hb hg => by
                rcases hg with hg | hg
                · have := HBX19.out.lo b hg; omega
                · have := HF4.out b hg; omega))
              have HBF := Lib.hid hbF
              have HLN := Lib.hid (show Calls Tryz.prog 23 #[.pointer (some ⟨bj2, 0, none⟩)] w20 (fun e w' => e = .returned (.int .i64 ((Q : Int) + 1)) ∧ w20 = w') from by
                have := jllen_any w20 G5 F5 bj2 bd (j2.puts [more]) HJ20.out
                rw [HLP.out] at this; exact this)
              clear hj20 hG20 hF20 hk20 hbF HCA f0 f1 f2 f3 f4 f5 f6 f7
              go_wp2_with fail
              refine HLN.out.mono ?_
              rintro r w21 ⟨rfl, rfl⟩
              have HR := Lib.hid (HW0.out w20 HBF.out)
              go_wp2
              go_ret
              exact HR.out
end Go.Proofs.YtejjfhhppjdcaaaGreatDoor
