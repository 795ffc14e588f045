/-
  The law JournalSpoilt, walked.
-/
import Derived.Test.YtejjfhhppjdcaaaGreatDoorOSpAll
import Derived.Test.YtejjfhhppjdcaaaGreatDoorOCrLKp
import Derived.Test.YtejjfhhppjdcaaaGreatDoorORWhole
import Derived.Test.YtejjfhhppjdcaaaGreatDoorOJOpens
namespace Go.Proofs.YtejjfhhppjdcaaaGreatDoor
open Go.RowKit Go.Maps Go.Sort Go.Shelf

theorem OwnB.stored05 {w : World} {base g n c : Nat} {l : List UInt8} (h : OwnB w base (.slice (some ⟨g, 0, none⟩) n c) l) (i : Nat) (y : UInt8) (hn : l.length = n) :
    OwnB (w.setCell ⟨g, i, none⟩ (.int .u8 y.toNat)) base (.slice (some ⟨g, 0, none⟩) n c) (l.set i y) ∧ w.grownBy (w.setCell ⟨g, i, none⟩ (.int .u8 y.toNat)) (some g) := by
  subst hn
  obtain ⟨h1, h2⟩ := World.ownsRow.stored h i (.int .u8 y.toNat)
  refine ⟨?_, h2⟩
  unfold OwnB
  rw [List.length_set]
  have : bvs (l.set i y) = (bvs l).set i (.int .u8 y.toNat) := by simp [bvs, List.map_set]
  rw [this]
  exact h1
theorem OwnB.head05 {w : World} {base : Nat} {v : Value} {l : List UInt8} (h : OwnB w base v l) (hp : 0 < l.length) : ∃ g c, v = .slice (some ⟨g, 0, none⟩) l.length c ∧ base ≤ g ∧ g < w.heap.size := by
  rcases h.2 with ⟨e, hl⟩ | ⟨g, cap, cur, e, hb, hg, _⟩
  · omega
  · exact ⟨g, cap, e, hb, (Array.getElem?_eq_some_iff.1 hg).1⟩
theorem bytesL_pos {L : List (Option Ev)} (h : 0 < L.length) : 0 < (bytesL L).length := by
  cases L with
  | nil => simp at h
  | cons x l => rw [bytesL_cons]; unfold sealE; rw [Frm.sealB_length]; omega
set_option maxRecDepth 100000 in
set_option maxHeartbeats 8000000 in
theorem jspoilt_any (w : World) (p : Int) (A : Option Addr) (n c : Nat) (ds : List Ev) (h : Evs w w.heap.size A n c ds) (hn : n ≤ 140737488355328) (which cut : Int) (s : List UInt8) (_hs : s.length ≤ 140737488355328) (hmx : MaxAt w) :
    Calls Tryz.prog 4 #[.int .i64 p, .slice A n c, .int .i64 which, .int .i64 cut, .string ⟨s.toArray⟩] w (Says true w) := by
  have HH := Lib.hid h; clear h
  have HMX := Lib.hid hmx
  have hml := hmx.lt
  clear hmx
  have HW0 := Lib.hid (show ∀ W, RowKit.Below w.heap.size w W → Says true w (.returned (.bool true)) W from fun W hW => ⟨rfl, hW⟩)
  have HEV := Lib.hid (show ∀ W, RowKit.Below w.heap.size w W → Evs W W.heap.size A n c ds from fun W hW => Cel.more (Cel.below HH.out hW) hW.size)
  go_enter Tryz.func4, Tryz.ntmps4
  go_wp2_with fail
  refine (jlives_any w HMX.out).mono ?_
  rintro r w1 ⟨rfl, hb1⟩
  have hs1 := hb1.size
  have HB1 := Lib.hid hb1
  clear hb1
  by_cases h1 : (100 : Int) < s.length
  · have HR := Lib.hid (HW0.out w1 HB1.out)
    go_wp2
    go_ret
    exact HR.out
  have hq1 : ¬ 100 < s.length := by omega
  have hH1 := HEV.out w1 HB1.out
  go_wp2_with fail
  refine (some_any w1 A n c ds hH1 hn 300).mono ?_
  rintro r w2 ⟨rfl, hb2⟩
  have HB2 := Lib.hid (HB1.out.trans (hb2.mono hs1))
  clear hb2 hH1
  cases hsm : ds.any (fun d => bigB d 300)
  case true =>
    have HR := Lib.hid (HW0.out w2 HB2.out)
    clear hsm
    go_wp2
    go_ret
    exact HR.out
  have HSM := Lib.hid (some_small hsm)
  clear hsm
  by_cases h3 : (60 : Int) < n
  · have HR := Lib.hid (HW0.out w2 HB2.out)
    go_wp2
    go_ret
    exact HR.out
  have hq3 : ¬ 60 < n := by omega
  have hH2 := HEV.out w2 HB2.out
  go_wp2_with fail
  refine (all02_any w2 A n c ds hH2 hn HSM.out).mono ?_
  rintro r w3 ⟨rfl, hb3⟩
  have HB3 := Lib.hid (HB2.out.trans (hb3.mono HB2.out.size))
  clear hb3 hH2
  cases hal : ds.all mayB
  case false =>
    have HR := Lib.hid (HW0.out w3 HB3.out)
    clear hal
    go_wp2
    go_ret
    exact HR.out
  have HAL := Lib.hid hal
  have HL := Lib.hid HH.out.len
  have hs3 := HB3.out.size
  clear hal
  go_wp2_with fail
  refine (dknew_any w3).mono ?_
  rintro r w4 ⟨bd, G4, rfl, hd4, hG4, hb4⟩
  have HD4 := Lib.hid hd4
  have HB4 := Lib.hid (HB3.out.trans (hb4.mono hs3))
  have HLO4 := Lib.hid (show ∀ b, G4 b → w.heap.size ≤ b from fun b hb => by have := hG4 b hb; omega)
  have hs4 := HB4.out.size
  have HNB := Lib.hid (show ∀ W, Calls Tryz.prog 25 #[.string ⟨s.toArray⟩] W (fun e w' => e = .returned (.bool (nameB s)) ∧ W = w') from fun W => rn02 W s (by omega))
  clear hd4 hG4 hb4
  by_cases hbad : nameB s = false ∨ p < 1 ∨ 4096 < p
  · have HR := Lib.hid (HW0.out w4 HB4.out)
    have HOA := Lib.hid (jlopen_arg w4 bd s p hbad)
    have HBD := Lib.hid hbad
    clear hbad
    go_wp2_with fail
    refine HOA.out.mono ?_
    rintro r w5 ⟨rfl, rfl⟩
    go_wp2_with fail
    refine (HNB.out w5).mono ?_
    rintro r w6 ⟨rfl, rfl⟩
    cases hnm : nameB s
    case false =>
      go_wp2
      go_ret
      exact HR.out
    by_cases hp1 : p < 1
    · go_wp2
      go_ret
      exact HR.out
    have hp2 : 4096 < p := by
      rcases HBD.out with h | h | h
      · rw [hnm] at h; cases h
      · exact absurd h hp1
      · exact h
    go_wp2
    go_ret
    exact HR.out
  have hnm : nameB s = true := by
    cases hc : nameB s
    · exact absurd (.inl hc) hbad
    · rfl
  have hp1 : 1 ≤ p := by omega
  have hp2 : p ≤ 4096 := by omega
  obtain ⟨per, rfl⟩ := Int.eq_ofNat_of_zero_le (show 0 ≤ p by omega)
  have hl24 : s.length ≤ 24 := (nameB_len hnm).2
  have HNM := Lib.hid hnm
  rw [hnm] at HNB
  clear hbad hnm
  go_wp2_with fail
  refine (jlopen0_any w4 G4 bd Dk.new HD4.out rfl rfl s HNM.out per (by omega) (by omega)).mono ?_
  rintro r w5 ⟨bj, G5, F5, rfl, hj5, hG5, hF5, hk5⟩
  have HJ5 := Lib.hid hj5
  have HLO5 := Lib.hid (show ∀ b, G5 b ∨ F5 b → w.heap.size ≤ b from fun b hb => by
    rcases hb with hb | hb
    · rcases hG5 b hb with h | h
      · exact HLO4.out b h
      · omega
    · have := hF5 b hb; omega)
  have HB5 := Lib.hid (show RowKit.Below w.heap.size w w5 from HB4.out.trans (hk5.below hs4 (fun k hk hg => by have := HLO4.out k hg; omega)))
  have hs5 := HB5.out.size
  clear hj5 hG5 hF5 hk5
  go_wp2_with fail
  refine (HNB.out w5).mono ?_
  rintro r w5' ⟨rfl, rfl⟩
  by_cases hp8 : (8 : Int) < per
  · have HLN := Lib.hid (jllen_any w5 G5 F5 bj bd (Jl.new Dk.new s per) HJ5.out)
    have HLA := Lib.hid (jllasting_any w5 G5 F5 bj bd (Jl.new Dk.new s per) HJ5.out)
    have HR := Lib.hid (HW0.out w5 HB5.out)
    go_wp2_with fail
    refine HLN.out.mono ?_
    rintro r w6 ⟨rfl, rfl⟩
    simp only [Jl.new, List.length_nil]
    go_wp2_with fail
    refine HLA.out.mono ?_
    rintro r w6 ⟨rfl, rfl⟩
    simp only [Jl.new]
    go_wp2
    go_ret
    exact HR.out
  obtain ⟨j0, hj0⟩ : ∃ j0, j0 = Jl.new Dk.new s per := ⟨_, rfl⟩
  rw [← hj0] at HJ5
  have HG0 := Lib.hid (show j0.Good from by rw [hj0]; exact Jl.good_new s per (by omega) (by omega))
  have he0 : j0.es = [] := by rw [hj0]; rfl
  have hn0 : j0.name = s := by rw [hj0]; rfl
  have hp0 : j0.per = per := by rw [hj0]; rfl
  have HA := Lib.hid (HG0.out.app (l := ds) (by rw [he0, HL.out]; simp; omega) HAL.out)
  have HAPP := Lib.hid (jlapp_any w5 G5 F5 bj bd j0 HJ5.out A n c ds (HEV.out w5 HB5.out) (fun b off e h0 hg => by
    obtain ⟨b', off', e', hb', _⟩ := Cel.cell HH.out h0
    rw [e'] at e; injection e with e; injection e with e
    have := HLO5.out b hg; omega) HSM.out (by rw [he0, HL.out]; simp; omega) (HMX.out.up HB5.out) ⟨fun hg => by have := HLO5.out _ (.inl hg); omega, fun hg => by have := HLO5.out _ (.inr hg); omega⟩)
  obtain ⟨j1, hj1⟩ : ∃ j1, j1 = j0.app ds := ⟨_, rfl⟩
  rw [← hj1] at HAPP HA
  have he1 : j1.es = ds.map some := by have := HA.out.2.2.2.1; rw [he0] at this; simpa using this
  have hn1 : j1.name = s := by rw [HA.out.2.2.2.2.1, hn0]
  have hpp1 : j1.per = per := by rw [HA.out.2.2.2.2.2.1, hp0]
  clear hj0 he0 hn0 hp0 hj1
  go_wp2_with fail
  refine HAPP.out.mono ?_
  rintro r w6 ⟨rfl, G6, F6, hj6, hG6, hF6, hk6⟩
  have HJ6 := Lib.hid hj6
  have HLO6 := Lib.hid (show ∀ b, G6 b ∨ F6 b → w.heap.size ≤ b from fun b hb => by
    rcases hb with hb | hb
    · rcases hG6 b hb with h | h
      · exact HLO5.out b (.inl h)
      · omega
    · rcases hF6 b hb with h | h
      · exact HLO5.out b (.inr h)
      · omega)
  have HB6 := Lib.hid (show RowKit.Below w.heap.size w w6 from HB5.out.trans (hk6.below hs5 (fun k hk hg => by have := HLO5.out k hg; omega)))
  have hs6 := HB6.out.size
  have HG1 := Lib.hid HA.out.1
  have hln := HL.out
  have hlm : (ds.map some).length = n := by rw [List.length_map, hln]
  have hfc : j1.files = nseg n per := by have := HG1.out.fc; rw [he1, hlm, hpp1] at this; exact this
  obtain ⟨N, hN⟩ : ∃ N, N = nseg n per := ⟨_, rfl⟩
  rw [← hN] at hfc
  have hN60 : N ≤ 60 := by rw [hN]; have := nseg_few (n := n) (p := per) (by omega); omega
  have HSEGS := Lib.hid (show Calls Tryz.prog 26 #[.int .i64 n, .int .i64 per] w6 (fun e w' => e = .returned (.int .i64 (N : Int)) ∧ w6 = w') from by rw [hN]; exact rsegs_any w6 n per (by omega) (by omega) (by omega))
  have HLN := Lib.hid (show Calls Tryz.prog 23 #[.pointer (some ⟨bj, 0, none⟩)] w6 (fun e w' => e = .returned (.int .i64 (n : Int)) ∧ w6 = w') from by
    have := jllen_any w6 G6 F6 bj bd j1 HJ6.out
    rw [he1, hlm] at this; exact this)
  have HE1 := Lib.hid he1; have HN1 := Lib.hid hn1; have HP1 := Lib.hid hpp1; have HFC := Lib.hid hfc
  have HNN := Lib.hid hN
  clear hj6 hG6 hF6 hk6 HAPP he1 hn1 hpp1 hfc hN
  go_wp2_with fail
  refine HSEGS.out.mono ?_
  rintro r w7 ⟨rfl, rfl⟩
  go_wp2_with fail
  refine HLN.out.mono ?_
  rintro r w7 ⟨rfl, rfl⟩
  have HR6 := Lib.hid (HW0.out w6 HB6.out)
  by_cases hw0 : which < 0
  · go_wp2_with fail
    refine HLN.out.mono ?_
    rintro r w7 ⟨rfl, rfl⟩
    go_wp2
    go_ret
    exact HR6.out
  by_cases hwN : (N : Int) ≤ which
  · go_wp2_with fail
    refine HLN.out.mono ?_
    rintro r w7 ⟨rfl, rfl⟩
    go_wp2
    go_ret
    exact HR6.out
  obtain ⟨q, rfl⟩ := Int.eq_ofNat_of_zero_le (show 0 ≤ which by omega)
  have hqN : q < N := by omega
  go_wp2_with fail
  refine (rof_any w6 A n c ds (HEV.out w6 HB6.out) (by omega)).mono ?_
  rintro r w7 ⟨vi, rfl, hoi, hb7⟩
  obtain ⟨Ai, ci, hvi⟩ := ownsRow_form hoi
  subst hvi
  have HOI := Lib.hid hoi
  have HB67 := Lib.hid hb7
  clear hoi hb7
  rw [hlm] at HOI ⊢
  go_wp2_with fail
  refine (rfile_any w7 s q (by omega) (by omega)).mono ?_
  rintro r w8 ⟨rfl, hb8⟩
  have HB68 := Lib.hid (show RowKit.Below w6.heap.size w6 w8 from HB67.out.trans (hb8.mono HB67.out.size))
  obtain ⟨bs, hbs⟩ : ∃ bs, bs = bytesL (segL per q (ds.map some)) := ⟨_, rfl⟩
  have HBS := Lib.hid hbs
  have HFD := Lib.hid (show j1.dk.found (segF s q) = 0 ∧ (j1.dk.file (segF s q)).data = bs from by
    have := HG1.out.data (k := q) (by rw [HE1.out, hlm]; omega) (by rw [HE1.out, hlm, HP1.out, ← HNN.out]; exact hqN)
    rw [HN1.out, HE1.out, HP1.out] at this
    rw [hbs]; exact this)
  have hsl : (segF s q).length ≤ 1000000 := by have := (segF_len s (k := q) (by omega)).2; omega
  have HRD := Lib.hid (show Calls Tryz.prog 24 #[.pointer (some ⟨bd, 0, none⟩), .string ⟨(segF s q).toArray⟩] w8 (RdPost w8 bs 0) from by
    have := dkread_any w8 G6 bd j1.dk (HJ6.out.up HB68.out).dk (segF s q) hsl
    rw [HFD.out.1, show j1.dk.read (segF s q) = bs from by unfold Dk.read; rw [if_pos HFD.out.1, HFD.out.2]] at this
    exact this)
  have hs68 := HB68.out.size
  have HB78 := Lib.hid hb8
  have hs67 := HB67.out.size
  clear hb8 hbs
  go_wp2_with fail
  refine HRD.out.mono ?_
  rintro r w9 ⟨vb, rfl, hob, hb9⟩
  have hbpos : 0 < bs.length := by
    rw [HBS.out]
    have := HG1.out.segpos (k := q) (by rw [HFC.out]; exact hqN)
    rw [HE1.out, HP1.out] at this
    exact bytesL_pos this
  obtain ⟨gb, cb, hvb, hgb1, hgb2⟩ := hob.head05 hbpos
  subst hvb
  have HOB := Lib.hid hob
  have HB69 := Lib.hid (show RowKit.Below w6.heap.size w6 w9 from HB68.out.trans (hb9.mono hs68))
  have hs69 := HB69.out.size
  have HJ9 := Lib.hid (HJ6.out.up HB69.out)
  have HB9 := Lib.hid (show RowKit.Below w.heap.size w w9 from HB6.out.trans (HB69.out.mono hs6))
  have HIN := Lib.hid (show Ents w9 w9.heap.size Ai n ci (ds.map some) ∧ ∀ b off, Ai = some ⟨b, off, none⟩ → ¬ G6 b from by
    have h1 := HOI.out
    unfold OwnR at h1
    rw [hlm] at h1
    have h79 : RowKit.Below w7.heap.size w7 w9 := HB78.out.trans (hb9.mono HB78.out.size)
    refine ⟨Cel.more (Cel.below (Cel.of_own h1) h79) h79.size, fun b off e hg => ?_⟩
    · have := HJ6.out.lt b (.inl hg)
      rcases h1.2 with ⟨e', _⟩ | ⟨g, cap, cur, e', hbg, _⟩
      · injection e' with e1 e2; rw [e1] at e; cases e
      · injection e' with e1 e2
        rw [e] at e1; injection e1 with e1; injection e1 with e1
        omega)
  have HBM := Lib.hid (show bs.length ≤ 100000 from by
    rw [HBS.out]
    have := HG1.out.segsz (by rw [HE1.out, hlm]; omega) q
    rw [HE1.out, HP1.out] at this; exact this)
  have hbm := HBM.out
  have hcb : bs.length ≤ cb := hob.byt.cap
  have hgG : ¬ G6 gb := fun hg => by have := HJ6.out.lt gb (.inl hg); omega
  have HGG := Lib.hid hgG
  clear hob hb9 HRD hgG
  have HLOG := Lib.hid (show ∀ (G' : Nat → Prop) (W : World), (∀ b, G' b → G6 b ∨ W.heap.size ≤ b) → w6.heap.size ≤ W.heap.size → ∀ b, G' b → w.heap.size ≤ b from fun G' W h hW b hb => by
    rcases h b hb with h' | h'
    · exact HLO6.out b (.inl h')
    · omega)
  have hlu : (ds.map some : List (Option Ev)).length = n := hlm
  have hqle : q * per < n := by
    have := HG1.out.segpos (k := q) (by rw [HFC.out]; exact hqN)
    rw [segL_length, HE1.out, HP1.out, hlm] at this; omega
  obtain ⟨b0, hb0⟩ : ∃ b0, b0 = q * per := ⟨_, rfl⟩
  have tq : (q : Int) * (per : Int) = (b0 : Int) := by rw [hb0]; exact (Int.natCast_mul q per).symm
  rw [← hb0] at hqle
  have HB0 := Lib.hid hb0
  have HTQ := Lib.hid tq
  have HLM := Lib.hid hlm
  have HMY := Lib.hid (show ∀ e, some e ∈ ds.map some → mayB e = true from fun e he => HG1.out.sm e (by rw [HE1.out]; exact he))
  clear hb0 hlu tq hlm
  by_cases hc0 : cut < 0
  · have HRM := Lib.hid (show Calls Tryz.prog 29 #[.pointer (some ⟨bd, 0, none⟩), .string ⟨(segF s q).toArray⟩] w9 (DkPost w9 G6 bd (j1.dk.cut (segF s q)) 0) from dkrem_any w9 G6 bd j1.dk HJ9.out.dk HG1.out.fine.dark (segF s q) hsl HFD.out.1)
    go_wp2_with fail
    refine HRM.out.mono ?_
    rintro r w10 ⟨rfl, G7, hd10, hG10, hk10⟩
    have HD10 := Lib.hid hd10
    have HLO10 := Lib.hid (HLOG.out G7 w9 hG10 hs69)
    have HB10 := Lib.hid (show RowKit.Below w.heap.size w w10 from HB9.out.trans (hk10.below HB9.out.size (fun k hk hg => by have := HLO6.out k (.inl hg); omega)))
    clear hd10 hG10 hk10 HRM
    by_cases hql : q + 1 < N
    · have HOG := Lib.hid (show Calls Tryz.prog 18 #[.pointer (some ⟨bd, 0, none⟩), .string ⟨s.toArray⟩, .int .i64 (per : Int)] w10 (OpBadPost w10 G7 13) from by
        have h1 := HG1.out.gap (q := q) (by rw [HFC.out]; exact hql)
        rw [HN1.out, HFC.out] at h1
        exact jlopen_gap w10 G7 bd _ HD10.out HG1.out.fine.up s HNM.out per (by omega) (by omega) N q hql h1 (by omega))
      have t1 : (q : Int) < (N : Int) - 1 := by omega
      go_wp2_with fail
      refine HOG.out.mono ?_
      rintro r w11 ⟨rfl, hk11⟩
      have HR := Lib.hid (HW0.out w11 (HB10.out.trans (hk11.below HB10.out.size (fun k hk hg => by have := HLO10.out k hg; omega))))
      clear hk11 HOG
      go_wp2
      go_ret
      exact HR.out
    · have hq1 : q + 1 = N := by omega
      have HOP := Lib.hid (show Calls Tryz.prog 18 #[.pointer (some ⟨bd, 0, none⟩), .string ⟨s.toArray⟩, .int .i64 (per : Int)] w10 (OpenPost w10 G7 bd (Jl.opened (j1.dk.cut (segF s q)) s per q ((ds.map some).take b0) [])) from by
        have h1 := HG1.out.cutLast (q := q) (by rw [HFC.out]; exact hq1)
        rw [HN1.out, HP1.out, HE1.out, ← HB0.out] at h1
        have h2 := h1.opIn (by show ((ds.map some).take b0).length ≤ 80; rw [List.length_take, HLM.out]; omega) (by show per ≤ 4096; omega)
        exact jlopen_any w10 G7 bd _ HD10.out s HNM.out per q _ [] h2 (HMX.out.up HB10.out) (fun hg => by have := HLO10.out _ hg; omega))
      have t1 : ¬ (q : Int) < (N : Int) - 1 := by omega
      have tq := HTQ.out
      go_wp2_with fail
      refine HOP.out.mono ?_
      rintro r w11 ⟨bj2, G8, F8, rfl, hj11, hG11, hF11, hk11⟩
      have HLN2 := Lib.hid (show Calls Tryz.prog 23 #[.pointer (some ⟨bj2, 0, none⟩)] w11 (fun e w' => e = .returned (.int .i64 (b0 : Int)) ∧ w11 = w') from by
        have h1 := jllen_any w11 G8 F8 bj2 bd _ hj11
        have h2 : (Jl.opened (j1.dk.cut (segF s q)) s per q ((ds.map some).take b0) []).es.length = b0 := by
          show ((ds.map some).take b0).length = b0
          rw [List.length_take, HLM.out]; omega
        rw [h2] at h1; exact h1)
      have HR := Lib.hid (HW0.out w11 (HB10.out.trans (hk11.below HB10.out.size (fun k hk hg => by have := HLO10.out k hg; omega))))
      clear hj11 hG11 hF11 hk11 HOP
      go_wp2_with fail
      refine HLN2.out.mono ?_
      rintro r w12 ⟨rfl, rfl⟩
      go_wp2
      go_ret
      exact HR.out
  obtain ⟨cc, rfl⟩ := Int.eq_ofNat_of_zero_le (show 0 ≤ cut by omega)
  have HMAX := Lib.hid (show ∀ W, RowKit.Below w.heap.size w W → MaxAt W from fun W hW => HMX.out.up hW)
  by_cases hcm : cc < bs.length
  · have t0 : (cc : Int) < bs.length := by omega
    have HBT := Lib.hid (show Byt w9 w9.heap.size (some ⟨gb, 0, none⟩) cc cb (bs.take cc) from HOB.out.byt.take cc (by omega))
    have HRPa := Lib.hid (dkrepl_any w9 G6 bd j1.dk HJ9.out.dk (segF s q) hsl (some ⟨gb, 0, none⟩) cc cb (bs.take cc) HBT.out (fun b off e hg => by injection e with e; injection e with e; subst e; exact HGG.out hg) (by omega))
    have hccb : (cc : Int) ≤ cb := by omega
    by_cases hql : q + 1 < N
    · have HOB2 := Lib.hid (show j1.dk.replaceE (segF s q) (bs.take cc) = 0 ∧ OpBad (j1.dk.replace (segF s q) (bs.take cc)) s per N (ds.map some) q from by
        have h0 : cc < (bytesL (segL j1.per q j1.es)).length := by rw [HP1.out, HE1.out, ← HBS.out]; exact hcm
        have h1 := HG1.out.cutBad (q := q) (by rw [HFC.out]; exact hql) h0
        have h2 := HG1.out.opBad (by rw [HE1.out, HLM.out]; omega) (by rw [HP1.out]; omega) (q := q) (by rw [HFC.out]; exact hqN) ((bytesL (segL j1.per q j1.es)).take cc) (by rw [List.length_take]; omega) h1
        rw [HP1.out, HE1.out, ← HBS.out, HN1.out, HFC.out] at h2
        exact h2)
      have HRP := Lib.hid (show Calls Tryz.prog 30 #[.pointer (some ⟨bd, 0, none⟩), .string ⟨(segF s q).toArray⟩, .slice (some ⟨gb, 0, none⟩) cc cb] w9 (DkPost w9 G6 bd (j1.dk.replace (segF s q) (bs.take cc)) 0) from by
        have := HRPa.out
        rw [HOB2.out.1] at this; exact this)
      have t1 : (q : Int) < (N : Int) - 1 := by omega
      clear HRPa
      go_wp2_with fail
      refine HRP.out.mono ?_
      rintro r w10 ⟨rfl, G7, hd10, hG10, hk10⟩
      have HLO10 := Lib.hid (HLOG.out G7 w9 hG10 hs69)
      have HB10 := Lib.hid (show RowKit.Below w.heap.size w w10 from HB9.out.trans (hk10.below HB9.out.size (fun k hk hg => by have := HLO6.out k (.inl hg); omega)))
      have HOP := Lib.hid (jlopen_bad w10 G7 bd _ hd10 s HNM.out per N q (ds.map some) HOB2.out.2 (HMAX.out _ HB10.out) (fun hg => by have := HLO10.out _ hg; omega))
      clear hd10 hG10 hk10 HRP
      go_wp2_with fail
      refine HOP.out.mono ?_
      rintro r w11 ⟨rfl, hk11⟩
      have HR := Lib.hid (HW0.out w11 (HB10.out.trans (hk11.below HB10.out.size (fun k hk hg => by have := HLO10.out k hg; omega))))
      clear hk11 HOP
      go_wp2
      go_ret
      exact HR.out
    · have hq1 : q + 1 = N := by omega
      obtain ⟨W, hW⟩ : ∃ W, W = wholeB ((ds.map some).drop b0) cc := ⟨_, rfl⟩
      have HCF := Lib.hid (show j1.dk.replaceE (segF s q) (bs.take cc) = 0 ∧ ∃ t, OpIn (j1.dk.replace (segF s q) (bs.take cc)) s per N ((ds.map some).take (b0 + W)) t ∧ b0 + W ≤ n from by
        have h0 : cc < (bytesL (segL j1.per q j1.es)).length := by rw [HP1.out, HE1.out, ← HBS.out]; exact hcm
        have h1 := HG1.out.cutFile (by rw [HE1.out, HLM.out]; omega) (by rw [HP1.out]; omega) (q := q) (by rw [HFC.out]; exact hq1) h0
        rw [HP1.out, HE1.out, ← HBS.out, HN1.out, HFC.out, ← HB0.out, HLM.out, ← hW] at h1
        exact h1)
      have HRP := Lib.hid (show Calls Tryz.prog 30 #[.pointer (some ⟨bd, 0, none⟩), .string ⟨(segF s q).toArray⟩, .slice (some ⟨gb, 0, none⟩) cc cb] w9 (DkPost w9 G6 bd (j1.dk.replace (segF s q) (bs.take cc)) 0) from by
        have := HRPa.out
        rw [HCF.out.1] at this; exact this)
      have t1 : ¬ (q : Int) < (N : Int) - 1 := by omega
      obtain ⟨_, t, hop, hbn⟩ := HCF.out
      have HOPI := Lib.hid hop
      have HWW := Lib.hid hW
      obtain ⟨KK, hKK⟩ : ∃ KK, KK = b0 + W := ⟨_, rfl⟩
      rw [← hKK] at HOPI hbn
      have tk : (b0 : Int) + (W : Int) = (KK : Int) := by omega
      have HTK := Lib.hid tk
      have hWn : W ≤ 60 := by omega
      clear HRPa hop hW hKK tk
      go_wp2_with fail
      refine HRP.out.mono ?_
      rintro r w10 ⟨rfl, G7, hd10, hG10, hk10⟩
      have HLO10 := Lib.hid (HLOG.out G7 w9 hG10 hs69)
      have HB10 := Lib.hid (show RowKit.Below w.heap.size w w10 from HB9.out.trans (hk10.below HB9.out.size (fun k hk hg => by have := HLO6.out k (.inl hg); omega)))
      have hnG7 : ∀ b off, Ai = some ⟨b, off, none⟩ → ¬ G7 b := fun b off e hg => by
        rcases hG10 b hg with h | h
        · exact HIN.out.2 b off e h
        · obtain ⟨b', off', e', hb', _⟩ := Cel.cell HIN.out.1 (by omega)
          rw [e'] at e; injection e with e; injection e with e; omega
      have HIN10 := Lib.hid (show Ents w10 w10.heap.size Ai n ci (ds.map some) from Cel.keepG HIN.out.1 HIN.out.2 hk10)
      have HNG7 := Lib.hid hnG7
      have HOP := Lib.hid (show Calls Tryz.prog 18 #[.pointer (some ⟨bd, 0, none⟩), .string ⟨s.toArray⟩, .int .i64 (per : Int)] w10 (OpenPost w10 G7 bd (Jl.opened (j1.dk.replace (segF s q) (bs.take cc)) s per N ((ds.map some).take KK) t)) from
        jlopen_any w10 G7 bd _ hd10 s HNM.out per N _ t HOPI.out (HMAX.out _ HB10.out) (fun hg => by have := HLO10.out _ hg; omega))
      clear hd10 hG10 hk10 HRP hnG7
      go_wp2_with fail
      refine HOP.out.mono ?_
      rintro r w11 ⟨bj2, G8, F8, rfl, hj11, hG11, hF11, hk11⟩
      have HJ11 := Lib.hid hj11
      have HIN11 := Lib.hid (show Ents w11 w11.heap.size Ai n ci (ds.map some) from Cel.keepG HIN10.out HNG7.out hk11)
      have HB11 := Lib.hid (show RowKit.Below w.heap.size w w11 from HB10.out.trans (hk11.below HB10.out.size (fun k hk hg => by have := HLO10.out k hg; omega)))
      have hcic : n ≤ ci := Cel.cap HIN11.out
      have hcb0 : ¬ ci = b0 := by omega
      have HWH := Lib.hid (show Calls Tryz.prog 31 #[.slice (Option.map (fun x => x.add (b0 * 9)) Ai) (n - b0) (ci - b0), .int .i64 cc] w11 (WholeP w11 W) from by
        have h1 := Ents.from_ HIN11.out b0 (by omega)
        rw [if_neg hcb0] at h1
        have h2 := rwhole_any w11 _ _ _ _ h1 (fun e he => HMY.out e (List.mem_of_mem_drop he)) (by omega) cc (by omega)
        rw [← HWW.out] at h2; exact h2)
      clear hj11 hG11 hF11 hk11 HOP
      have tq := HTQ.out
      have hb0c : b0 ≤ ci := by omega
      go_upto_region 29 with fail
      go_cut [23] (fun v wc => v = .int .i64 (KK : Int) ∧ RowKit.Below w11.heap.size w11 wc)
      case first =>
        have tk := HTK.out
        go_wp2_with fail
        with_reducible refine HWH.out.mono ?_
        rintro r w12 ⟨rfl, hb12⟩
        have HB12 := Lib.hid hb12
        clear hb12 HWH
        go_wp2
        go_meet
        exact ⟨rfl, HB12.out⟩
      case rest =>
        obtain ⟨rfl, hb12⟩ := hcut
        have HEVN := Lib.hid (show Calls Tryz.prog 32 #[.pointer (some ⟨bj2, 0, none⟩), .agg #[.slice Ai KK ci, .int .i64 (KK : Int)]] wc (Says true wc) from by
          have h1 : Ents wc wc.heap.size Ai n ci (ds.map some) := Cel.more (Cel.below HIN11.out hb12) hb12.size
          have h2 := jeven_any wc G8 F8 bj2 bd _ (HJ11.out.up hb12) Ai KK ci (Ents.upto h1 KK (by omega))
          have h3 : (Jl.opened (j1.dk.replace (segF s q) (bs.take cc)) s per N ((ds.map some).take KK) t).lasts = KK := by
            show ((ds.map some).take KK).length = KK
            rw [List.length_take, HLM.out]; omega
          rw [h3] at h2; exact h2)
        have HB13 := Lib.hid (HB11.out.trans (hb12.mono HB11.out.size))
        have hKc : KK ≤ ci := by omega
        clear hb12 tq
        go_wp2_with fail
        refine HEVN.out.mono ?_
        rintro r w13 ⟨rfl, hb13⟩
        have HR := Lib.hid (HW0.out w13 (HB13.out.trans (hb13.mono HB13.out.size)))
        clear hb13 HEVN
        go_wp2
        go_ret
        exact HR.out
  · have t0 : ¬ (cc : Int) < bs.length := by omega
    obtain ⟨i, hi⟩ : ∃ i, i = cc % bs.length := ⟨_, rfl⟩
    have him : i < bs.length := by rw [hi]; exact Nat.mod_lt _ hbpos
    have ti : ((cc : Int)).tmod (bs.length : Int) = (i : Int) := by rw [hi, ← Int.ofNat_tmod]
    have tm0 : ((bs.length : Int) == 0) = false := by
      rw [beq_eq_false_iff_ne]; omega
    have tib : (i : Int) < (bs.length : Int) := Int.ofNat_lt.2 him
    have HBB := Lib.hid HOB.out.byt
    obtain ⟨_, _, e0, _, hcell⟩ := HBB.out.cell hbpos
    have hck := hcell i him
    simp only [Option.some.injEq, Addr.mk.injEq, and_true] at e0
    obtain ⟨rfl, rfl⟩ := e0
    rw [Nat.zero_add] at hck
    have hfz : w9.frozen? ⟨gb, i, none⟩ = false := World.ownsRow.frozenAt (n := bs.length) HOB.out i
    obtain ⟨y, hy⟩ : ∃ y : UInt8, y = bs[i] + 1 := ⟨_, rfl⟩
    have hyn : y ≠ bs.getD i 0 := by
      have e1 : bs.getD i 0 = bs[i] := by simp [List.getD, him]
      rw [e1, hy]
      intro hc
      have h1 := congrArg UInt8.toNat hc
      have h2 := bs[i].toNat_lt
      rw [UInt8.toNat_add] at h1
      simp at h1
      omega
    have hyw : ((bs[i].toNat : Int) + 1) % 256 = (y.toNat : Int) := by
      rw [hy, UInt8.toNat_add]
      simp
    have HST := Lib.hid (HOB.out.stored05 i y rfl)
    have hgJ : ∀ b, G6 b ∨ F6 b → b ≠ gb := fun b hb e => by have := HJ6.out.lt b hb; omega
    have HJS := Lib.hid (HJ9.out.keep (w' := w9.setCell ⟨gb, i, none⟩ (.int .u8 y.toNat)) (by simp [World.setCell]) (fun b hb => Below.heap_setCell _ _ _ _ (hgJ b hb)))
    have HBS9 := Lib.hid (show RowKit.Below w.heap.size w (w9.setCell ⟨gb, i, none⟩ (.int .u8 y.toNat)) from HB9.out.setCell (p := ⟨gb, i, none⟩) (by show w.heap.size ≤ gb; omega) _)
    have hsS : (w9.setCell ⟨gb, i, none⟩ (.int .u8 y.toNat)).heap.size = w9.heap.size := by simp [World.setCell]
    have HSS := Lib.hid hsS
    have hlst : (bs.set i y).length = bs.length := List.length_set ..
    have HOB2 := Lib.hid (show j1.dk.replaceE (segF s q) (bs.set i y) = 0 ∧ OpBad (j1.dk.replace (segF s q) (bs.set i y)) s per N (ds.map some) q from by
      have h1 : LdBad (bs.set i y) j1.per (decide (q + 1 = j1.files)) := by
        left
        have h3 := HBS.out
        rw [h3] at him hyn ⊢
        exact bytesL_turned (fun e he => HMY.out e (by unfold segL at he; exact List.mem_of_mem_drop (List.mem_of_mem_take he))) him hyn
      have h2 := HG1.out.opBad (by rw [HE1.out, HLM.out]; omega) (by rw [HP1.out]; omega) (q := q) (by rw [HFC.out]; exact hqN) (bs.set i y) (by rw [hlst]; omega) h1
      rw [HP1.out, HE1.out, HN1.out, HFC.out] at h2
      exact h2)
    have HRP := Lib.hid (show Calls Tryz.prog 30 #[.pointer (some ⟨bd, 0, none⟩), .string ⟨(segF s q).toArray⟩, .slice (some ⟨gb, 0, none⟩) bs.length cb] (w9.setCell ⟨gb, i, none⟩ (.int .u8 y.toNat)) (DkPost (w9.setCell ⟨gb, i, none⟩ (.int .u8 y.toNat)) G6 bd (j1.dk.replace (segF s q) (bs.set i y)) 0) from by
      have := dkrepl_any _ G6 bd j1.dk HJS.out.dk (segF s q) hsl (some ⟨gb, 0, none⟩) bs.length cb (bs.set i y) HST.out.1.byt (fun b off e hg => by injection e with e; injection e with e; subst e; exact HGG.out hg) (by omega)
      rw [HOB2.out.1] at this; exact this)
    have hxb := bs[i].toNat_lt
    clear hgJ hsS hlst hyn hi hcell
    obtain ⟨x, hx⟩ : ∃ x, x = bs[i] := ⟨_, rfl⟩
    rw [← hx] at hck hyw hxb
    have HYW := Lib.hid hyw
    clear hx hy hyw
    go_upto_region 32 with fail
    rw [HYW.out]
    have HBw := Lib.hid HBS9.out
    go_wp2_with fail
    refine HRP.out.mono ?_
    rintro r w10 ⟨rfl, G7, hd10, hG10, hk10⟩
    have hsz := HSS.out
    have HLO10 := Lib.hid (HLOG.out G7 _ hG10 (by rw [hsz]; exact hs69))
    have HB10 := Lib.hid (show RowKit.Below w.heap.size w w10 from HBS9.out.trans (hk10.below HBS9.out.size (fun k hk hg => by have := HLO6.out k (.inl hg); omega)))
    have HOP := Lib.hid (jlopen_bad w10 G7 bd _ hd10 s HNM.out per N q (ds.map some) HOB2.out.2 (HMAX.out _ HB10.out) (fun hg => by have := HLO10.out _ hg; omega))
    clear hd10 hG10 hk10 HRP hsz
    go_wp2_with fail
    refine HOP.out.mono ?_
    rintro r w11 ⟨rfl, hk11⟩
    have HR := Lib.hid (HW0.out w11 (HB10.out.trans (hk11.below HB10.out.size (fun k hk hg => by have := HLO10.out k hg; omega))))
    clear hk11 HOP
    go_wp2
    go_ret
    exact HR.out
end Go.Proofs.YtejjfhhppjdcaaaGreatDoor
