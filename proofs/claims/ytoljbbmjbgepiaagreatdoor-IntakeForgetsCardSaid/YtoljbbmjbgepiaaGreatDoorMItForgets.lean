/-
  The law IntakeForgets, walked.
-/
import Derived.Test.YtoljbbmjbgepiaaGreatDoorMGrown2
namespace Go.Proofs.YtoljbbmjbgepiaaGreatDoor
open Go.RowKit Go.Maps Go.Sort Go.Shelf

theorem big_small {e : Ev} (h : bigB e 300 = false) : e.small := by
  unfold bigB at h
  simp at h
  exact ⟨by omega, by omega, by omega, by omega⟩

set_option maxRecDepth 100000 in
set_option maxHeartbeats 8000000 in
theorem forgets_any (w : World) (slack idle : Int) (A : Option Addr) (n c : Nat) (ds : List Dd) (h : Dds w w.heap.size A n c ds) (hn : n ≤ 140737488355328) (hkd : ∀ d ∈ ds, 0 ≤ d.kind ∧ d.kind ≤ 255) (f e : Ev) (now : Int) (hmx : MaxAt w) :
    Calls Tryz.prog 7 #[.int .i64 slack, .int .i64 idle, .slice A n c, f.agg, e.agg, .int .i64 now] w (Says true w) := by
  have hmlt := hmx.lt
  have hba : Below w.heap.size w (w.alloc (evObj f)) := (Below.refl _ _).alloc (Nat.le_refl _) _
  have hbb : Below w.heap.size w ((w.alloc (evObj f)).alloc (evObj e)) := hba.alloc hba.size _
  have hsa : (w.alloc (evObj f)).heap.size = w.heap.size + 1 := by simp
  have HF0 := Lib.hid ((EvB.new w f).up ((Below.refl _ _).alloc (Nat.le_refl _) (evObj e)))
  have HE0 := Lib.hid (show EvB ((w.alloc (evObj f)).alloc (evObj e)) (w.heap.size + 1) e by rw [← hsa]; exact EvB.new _ e)
  have HH0 := Lib.hid (show Dds ((w.alloc (evObj f)).alloc (evObj e)) ((w.alloc (evObj f)).alloc (evObj e)).heap.size A n c ds from Cel.more (Cel.below h hbb) hbb.size)
  have HKD := Lib.hid hkd; clear hkd
  have HMX := Lib.hid hmx; clear hmx
  have HBB := Lib.hid hbb
  have hs0 : ((w.alloc (evObj f)).alloc (evObj e)).heap.size = w.heap.size + 2 := by simp
  clear h hba hbb hsa
  unfold Ev.agg
  go_enter Tryz.func7, Tryz.ntmps7
  go_wp2_with fail
  generalize (w.alloc (evObj f)).alloc (evObj e) = w0 at *
  refine (lives_any w0 (HMX.out.up HBB.out)).mono ?_
  rintro r w1 ⟨rfl, hb1⟩
  have hs1 := hb1.size
  have HH1 := Lib.hid (show Dds w1 w1.heap.size A n c ds from Cel.more (Cel.below HH0.out hb1) hs1)
  go_wp2_with fail
  refine (heavy_any w1 A n c ds HH1.out hn 20).mono ?_
  rintro r w2 ⟨rfl, hb2⟩
  have hs2 := hb2.size
  have hb02 : Below w0.heap.size w0 w2 := hb1.trans (hb2.mono hs1)
  have HBW2 := Lib.hid (HBB.out.trans (hb02.mono HBB.out.size))
  have HF2 := Lib.hid (HF0.out.up hb02)
  have HE2 := Lib.hid (HE0.out.up hb02)
  have HH2 := Lib.hid (show Dds w2 w2.heap.size A n c ds from Cel.more (Cel.below HH1.out hb2) hs2)
  clear hb2 hb1 HH1 HH0 HF0 HE0 hb02
  cases hhv : heavyB ds 20
  case true =>
    clear hhv
    go_wp2
    go_ret
    exact ⟨rfl, HBW2.out⟩
  obtain ⟨hl, hsm⟩ := heavy_smallN (m := 20) hhv
  have HSM := Lib.hid hsm
  have hlen := HH2.out.len
  have hn20 : n ≤ 20 := by omega
  clear hhv hsm hlen hl
  obtain ⟨e0, e1, e2, e3, e4, e5, e6, e7⟩ := HF2.out.in_
  go_wp2_with fail
  refine (big_any w2 f 300).mono ?_
  rintro r w3 ⟨rfl, hb3⟩
  have hs3 := hb3.size
  have HBW3 := Lib.hid (HBW2.out.trans (hb3.mono HBW2.out.size))
  have HF3 := Lib.hid (HF2.out.up hb3)
  have HE3 := Lib.hid (HE2.out.up hb3)
  have HH3 := Lib.hid (show Dds w3 w3.heap.size A n c ds from Cel.more (Cel.below HH2.out hb3) hs3)
  clear hb3 HH2 HF2 HE2 HBW2 e0 e1 e2 e3 e4 e5 e6 e7
  cases hbf : bigB f 300
  case true =>
    clear hbf
    go_wp2
    go_ret
    exact ⟨rfl, HBW3.out⟩
  have HSF := Lib.hid (big_small hbf)
  clear hbf
  obtain ⟨e0, e1, e2, e3, e4, e5, e6, e7⟩ := HE3.out.in_
  go_wp2_with fail
  refine (big_any w3 e 300).mono ?_
  rintro r w4 ⟨rfl, hb4⟩
  have hs4 := hb4.size
  have HBW4 := Lib.hid (HBW3.out.trans (hb4.mono HBW3.out.size))
  have HF4 := Lib.hid (HF3.out.up hb4)
  have HE4 := Lib.hid (HE3.out.up hb4)
  have HH4 := Lib.hid (show Dds w4 w4.heap.size A n c ds from Cel.more (Cel.below HH3.out hb4) hs4)
  clear hb4 HH3 HF3 HE3 HBW3 e0 e1 e2 e3 e4 e5 e6 e7
  cases hbe : bigB e 300
  case true =>
    clear hbe
    go_wp2
    go_ret
    exact ⟨rfl, HBW4.out⟩
  have HSE := Lib.hid (big_small hbe)
  clear hbe
  go_wp2_with fail
  refine (grown_any w4 slack idle A n c ds HH4.out (by omega) HSM.out HKD.out (HMX.out.up HBW4.out)).mono ?_
  rintro r w5 ⟨F5, S5, bi, bm, bc, rfl, hB⟩
  have HPI := Lib.hid (PlayInv.grown slack idle ds)
  generalize Itk.grown slack idle ds = x at *
  have HB5 := Lib.hid (hB.base HBW4.out)
  have HF5 := Lib.hid (HF4.out.up hB.bel)
  have HE5 := Lib.hid (HE4.out.up hB.bel)
  have hq : w.heap.size + 2 ≤ w4.heap.size := by omega
  generalize w4.heap.size = q at *
  have HNF := Lib.hid (show ∀ g, g < w.heap.size + 2 → ¬ F5 g ∧ ¬ S5 g ∧ g ≠ bm ∧ g ≠ bc from fun g hg => ⟨fun hf => by have := hB.newF g hf; omega, fun hf => by have := hB.newS g hf; omega, by have := hB.bm0; omega, by have := hB.bc0; omega⟩)
  have htl : x.taken.length ≤ 3 * n := hB.both.ref.tl
  clear hB HH4 HSM HKD HF4 HE4 HBW4
  -- f's kind
  have hfz := HF5.out.frozen 3
  obtain ⟨e0, e1, e2, e3, e4, e5, e6, e7⟩ := HF5.out.in_
  have HB6 := Lib.hid (HB5.out.aside (keepCell w5 w.heap.size 3 (.int .i64 14)) (HNF.out _ (by omega)).1 (HNF.out _ (by omega)).2.1 (HNF.out _ (by omega)).2.2.1 (HNF.out _ (by omega)).2.2.2 (Nat.le_refl _))
  have HF6 := Lib.hid (HF5.out.setKind 14)
  have HE6 := Lib.hid (HE5.out.keep (keepCell w5 w.heap.size 3 (.int .i64 14)) (by show ¬ w.heap.size + 1 = w.heap.size; omega))
  go_upto_region 9 with fail
  clear e0 e1 e2 e3 e4 e5 e6 e7 hfz
  generalize w5.setCell ⟨w.heap.size, 3, none⟩ (.int .i64 14) = w6 at *
  clear HB5 HF5 HE5
  have HSF' := Lib.hid (show ({ f with kind := 14 } : Ev).small from HSF.out)
  have HFP := Lib.hid (show ({ f with kind := 14 } : Ev).per = f.per ∧ ({ f with kind := 14 } : Ev).kind = 14 from ⟨rfl, rfl⟩)
  generalize ({ f with kind := 14 } : Ev) = f' at *
  obtain ⟨e0, e1, e2, e3, e4, e5, e6, e7⟩ := HF6.out.in_
  go_wp2_with fail
  refine (offer_any w6 F5 bi (3 * n) x HB6.out.both.itk (by omega) f' HSF'.out now (HMX.out.up HB6.out.bel) (fun hf => by have := HB6.out.newF _ hf; have := HB6.out.lo; omega)).mono ?_
  rintro r w7 ⟨rfl, hd7⟩
  have HR7 := Lib.hid (HB6.out.both.ref1 hd7)
  obtain ⟨F7, hi7, hk7, hF7⟩ := id hd7
  have HF7 := Lib.hid (HF6.out.keep hk7 (HNF.out _ (by omega)).1)
  have HE7 := Lib.hid (HE6.out.keep hk7 (HNF.out _ (by omega)).1)
  have HD7 := Lib.hid hd7
  clear hd7 hi7 hk7 hF7 e0 e1 e2 e3 e4 e5 e6 e7
  obtain ⟨e0, e1, e2, e3, e4, e5, e6, e7⟩ := HF7.out.in_
  go_wp2_with fail
  refine (roffer_any w7 bm bc S5 (3 * n) x HR7.out (by omega) f' HSF'.out HPI.out.sorted now).mono ?_
  rintro r w8 ⟨rfl, hr8⟩
  obtain ⟨S8, hi8, hk8, hS8⟩ := id hr8
  have HF8 := Lib.hid (HF7.out.keep hk8 (fun e => e.elim (HNF.out _ (by omega)).2.2.1 (HNF.out _ (by omega)).2.2.2))
  have HE8 := Lib.hid (HE7.out.keep hk8 (fun e => e.elim (HNF.out _ (by omega)).2.2.1 (HNF.out _ (by omega)).2.2.2))
  obtain ⟨F9, S9, hB9⟩ := HB6.out.deed (HB6.out.both.ab (HD7.out.more (by omega)) hr8)
  have HB8 := Lib.hid hB9
  have HPY := Lib.hid (HPI.out.offer f' now)
  have HYN := Lib.hid (show boundI now ≤ (x.offer f' now).clk.now by rw [offer_now]; omega)
  have HGO := Lib.hid (show x.offered f' now = 0 → f'.per ∈ (x.offer f' now).gone from fun hv => offered_gone HFP.out.2 hv)
  clear hr8 hi8 hk8 hS8 hB9 HR7 HD7 HF7 HE7 HB6 HF6 HE6 e0 e1 e2 e3 e4 e5 e6 e7 HNF HPI
  generalize x.offer f' now = y at *
  generalize x.offered f' now = v at *
  have HNF := Lib.hid (show ∀ g, g < w.heap.size + 2 → ¬ F9 g ∧ ¬ S9 g ∧ g ≠ bm ∧ g ≠ bc from fun g hg => ⟨fun hf => by have := HB8.out.newF g hf; omega, fun hf => by have := HB8.out.newS g hf; omega, by have := HB8.out.bm0; omega, by have := HB8.out.bc0; omega⟩)
  by_cases hv : v = 0
  case neg =>
    go_wp2_with fail
    refine (even_any w8 F9 bi bm bc S9 _ y ⟨HB8.out.both.itk, HB8.out.both.ref⟩ (by omega)).mono ?_
    rintro r w9 ⟨rfl, hb9⟩
    have HFI := Lib.hid (HB8.out.bel.trans (hb9.mono HB8.out.bel.size))
    clear hb9
    go_wp2
    go_ret
    exact ⟨rfl, HFI.out⟩
  have HG := Lib.hid (HGO.out hv)
  subst hv
  clear HGO
  -- e's person
  obtain ⟨e0, e1, e2, e3, e4, e5, e6, e7⟩ := HF8.out.in_
  obtain ⟨d0, d1, d2, d3, d4, d5, d6, d7⟩ := HE8.out.in_
  have hfz := HE8.out.frozen 4
  have HB10 := Lib.hid (HB8.out.aside (keepCell w8 (w.heap.size + 1) 4 (.string ⟨f'.per.toArray⟩)) (HNF.out _ (by omega)).1 (HNF.out _ (by omega)).2.1 (HNF.out _ (by omega)).2.2.1 (HNF.out _ (by omega)).2.2.2 (by omega))
  have HE10 := Lib.hid (HE8.out.setPer f'.per)
  have HF10 := Lib.hid (HF8.out.keep (keepCell w8 (w.heap.size + 1) 4 (.string ⟨f'.per.toArray⟩)) (by show ¬ w.heap.size = w.heap.size + 1; omega))
  go_upto_region 15 with fail
  clear e0 e1 e2 e3 e4 e5 e6 e7 d0 d1 d2 d3 d4 d5 d6 d7 hfz
  generalize w8.setCell ⟨w.heap.size + 1, 4, none⟩ (.string ⟨f'.per.toArray⟩) = w10 at *
  clear HB8 HF8 HE8
  have HSE' := Lib.hid (show ({ e with per := f'.per } : Ev).small from ⟨HSE.out.1, HSF'.out.2.1, HSE.out.2.2⟩)
  have HEP := Lib.hid (show ({ e with per := f'.per } : Ev).per = f'.per from rfl)
  generalize ({ e with per := f'.per } : Ev) = z at *
  have HKZ := Lib.hid (show z.per ∈ y.gone by rw [HEP.out]; exact HG.out)
  by_cases hk : z.kind = 14
  · have k14 : (z.kind == 14) = true := by simp [hk]
    clear hk
    obtain ⟨e0, e1, e2, e3, e4, e5, e6, e7⟩ := HE10.out.in_
    go_wp2
    go_quiet (fail)
    have HBQ := Lib.hid (show Below w.heap.size w (w10.drewN nq) from below_drewN HB10.out.bel nq)
    have e3q : (w10.drewN nq).cell? ⟨w.heap.size + 1, 3, none⟩ = some (.int .i64 z.kind) := e3
    clear e0 e1 e2 e3 e4 e5 e6 e7
    generalize w10.drewN nq = w11 at *
    go_wp2
    go_ret
    exact ⟨rfl, HBQ.out⟩
  have k14 : (z.kind == 14) = false := by simp [hk]
  have HK := Lib.hid hk
  clear hk
  have HFG := Lib.hid (HPY.out.forgot HYN.out HKZ.out HK.out)
  have HKA := Lib.hid (HPY.out.keptAll HG.out)
  obtain ⟨vh, vt, vl, vg, _, hp, _⟩ := HB10.out.both.ref.cells
  obtain ⟨Ag, cg, gs, _, _, _, hgr, hgl⟩ := hp.gone
  have HGR := Lib.hid hgr
  have HGI := Lib.hid (show decide (f'.per ∈ gs) = true from decide_eq_true ((hgr.2 _).2 HG.out))
  clear hp hgr
  have HSS := Lib.hid (show ∀ W : World, EvB W (w.heap.size + 1) z → EvB W w.heap.size f' → (W.cell? ⟨w.heap.size + 1, 0, none⟩ = some (.string ⟨z.src.toArray⟩) ∧ W.cell? ⟨w.heap.size + 1, 1, none⟩ = some (.int .i64 z.num) ∧ W.cell? ⟨w.heap.size + 1, 2, none⟩ = some (.int .i64 z.at_) ∧ W.cell? ⟨w.heap.size + 1, 3, none⟩ = some (.int .i64 z.kind) ∧ W.cell? ⟨w.heap.size + 1, 4, none⟩ = some (.string ⟨z.per.toArray⟩) ∧ W.cell? ⟨w.heap.size + 1, 5, none⟩ = some (.string ⟨z.item.toArray⟩) ∧ W.cell? ⟨w.heap.size + 1, 6, none⟩ = some (.int .i64 z.val) ∧ W.cell? ⟨w.heap.size + 1, 7, none⟩ = some (.string ⟨z.text.toArray⟩) ∧ W.cell? ⟨w.heap.size, 4, none⟩ = some (.string ⟨f'.per.toArray⟩)) from fun W h1 h2 => by
    obtain ⟨a0, a1, a2, a3, a4, a5, a6, a7⟩ := h1.in_
    exact ⟨a0, a1, a2, a3, a4, a5, a6, a7, h2.in_.2.2.2.2.1⟩)
  have HBX := Lib.hid (HB10.out.up (w2 := w10.drew) (Below.refl _ _).drew)
  have HZX := Lib.hid (HE10.out.up (w' := w10.drew) (Below.refl _ _).drew)
  have HFX := Lib.hid (HF10.out.up (w' := w10.drew) (Below.refl _ _).drew)
  have hS := HSS.out _ HE10.out HF10.out
  have HOE := Lib.hid (HB10.out.off (g := w.heap.size + 1) (by omega))
  have HOF := Lib.hid (HB10.out.off (g := w.heap.size) (by omega))
  have HMY := Lib.hid (show ∀ (G : Nat → Prop) (M : Nat) (W : World), BothN w q G bi bm bc S9 M y W → MaxAt W ∧ ¬ G 0 from fun G M W hB => ⟨HMX.out.up hB.bel, fun hf => by have := hB.newF _ hf; have := hB.lo; omega⟩)
  have HCO := Lib.hid (show ∀ (G : Nat → Prop) (M : Nat) (W : World), M ≤ 5000 → BothN w q G bi bm bc S9 M y W → Calls Tryz.prog 30 #[.pointer (some ⟨bi, 0, none⟩), .agg #[.string ⟨z.src.toArray⟩, .int .i64 z.num, .int .i64 z.at_, .int .i64 z.kind, .string ⟨z.per.toArray⟩, .string ⟨z.item.toArray⟩, .int .i64 z.val, .string ⟨z.text.toArray⟩], .int .i64 now] W (OfferPost W G bi (M + 2) y 3) from fun G M W hM hB => by
    have h1 := offer_any W G bi M y hB.both.itk (by omega) z HSE'.out now (HMY.out _ _ _ hB).1 (HMY.out _ _ _ hB).2
    rw [HFG.out.1.1, HFG.out.1.2] at h1; exact h1)
  have HCA := Lib.hid (show ∀ (G : Nat → Prop) (M : Nat) (W : World), M ≤ 5000 → BothN w q G bi bm bc S9 M y W → Calls Tryz.prog 22 #[.pointer (some ⟨bi, 0, none⟩), .agg #[.string ⟨z.src.toArray⟩, .int .i64 z.num, .int .i64 z.at_, .int .i64 z.kind, .string ⟨z.per.toArray⟩, .string ⟨z.item.toArray⟩, .int .i64 z.val, .string ⟨z.text.toArray⟩]] W (OfferPost W G bi (M + 2) y 3) from fun G M W hM hB => by
    have h1 := admit_any W G bi M y hB.both.itk (by omega) z HSE'.out (HMY.out _ _ _ hB).1
    rw [HFG.out.2.1, HFG.out.2.2] at h1; exact h1)
  obtain ⟨e0, e1, e2, e3, e4, e5, e6, e7⟩ := HE10.out.in_
  obtain ⟨_, _, _, _, d4, _, _, _⟩ := HF10.out.in_
  have HF9B := Lib.hid (HB10.out)
  go_region_held3 (fun W => W.cell? ⟨w.heap.size + 1, 0, none⟩ = some (.string ⟨z.src.toArray⟩) ∧ W.cell? ⟨w.heap.size + 1, 1, none⟩ = some (.int .i64 z.num) ∧ W.cell? ⟨w.heap.size + 1, 2, none⟩ = some (.int .i64 z.at_) ∧ W.cell? ⟨w.heap.size + 1, 3, none⟩ = some (.int .i64 z.kind) ∧ W.cell? ⟨w.heap.size + 1, 4, none⟩ = some (.string ⟨z.per.toArray⟩) ∧ W.cell? ⟨w.heap.size + 1, 5, none⟩ = some (.string ⟨z.item.toArray⟩) ∧ W.cell? ⟨w.heap.size + 1, 6, none⟩ = some (.int .i64 z.val) ∧ W.cell? ⟨w.heap.size + 1, 7, none⟩ = some (.string ⟨z.text.toArray⟩) ∧ W.cell? ⟨w.heap.size, 4, none⟩ = some (.string ⟨f'.per.toArray⟩)) (first | assumption | exact HSS.out _ HZX.out HFX.out | go_keep) (first
    | (go_at_call 17; (with_reducible refine (igone_any _ F9 bi _ y HBX.out.both.itk (by omega)).mono ?_); rintro r9 w11 ⟨v9, rr, rfl, hrr, ho9, hb9⟩; have hrr2 := rising_unique hrr HGR.out; subst hrr2; obtain ⟨B9, c9, hv9⟩ := ownsRow_form ho9; subst hv9; have H17 := Lib.hid (show Strs w11 w11.heap.size B9 _ c9 _ from Cel.of_own ho9); have HB2 := Lib.hid (HBX.out.up hb9); have HZ2 := Lib.hid (HZX.out.up hb9); have HF2 := Lib.hid (HFX.out.up hb9); clear HBX HZX HFX; have HBX := HB2; have HZX := HZ2; have HFX := HF2; clear HB2 HZ2 HF2; (try clear hS); have hS := HSS.out _ HZX.out HFX.out; clear ho9 hb9 hrr)
    | (go_at_call 29; (with_reducible refine (rin_same _ _ _ _ _ _ H17.out (by omega) f'.per HGI.out).mono ?_); rintro r9 w12 ⟨rfl, hw12⟩; have HB2 := Lib.hid (show BothN w q F9 bi bm bc S9 _ y w12 by rw [hw12]; exact HBX.out); have HZ2 := Lib.hid (show EvB w12 _ z by rw [hw12]; exact HZX.out); have HF2 := Lib.hid (show EvB w12 _ f' by rw [hw12]; exact HFX.out); clear HBX HZX HFX; have HBX := HB2; have HZX := HZ2; have HFX := HF2; clear HB2 HZ2 HF2; (try clear hS); have hS := HSS.out _ HZX.out HFX.out; clear hw12)
    | (go_at_call 30; (with_reducible refine (HCO.out F9 _ _ (by omega) HBX.out).mono ?_); rintro r9 w13 ⟨rfl, hd13⟩; obtain ⟨F13, hB13, hk13, hF13⟩ := HBX.out.own2 (Nat.le_add_right _ _) hd13; have HOE13 := Lib.hid (HOE.out.next hF13 HZX.out.lt); have HOF13 := Lib.hid (HOF.out.next hF13 HFX.out.lt); have HZ2 := Lib.hid (HZX.out.keep hk13 HOE.out.1); have HF2 := Lib.hid (HFX.out.keep hk13 HOF.out.1); have HB2 := Lib.hid hB13; clear HBX HZX HFX; have HBX := HB2; have HZX := HZ2; have HFX := HF2; clear HB2 HZ2 HF2; (try clear hS); have hS := HSS.out _ HZX.out HFX.out; clear hd13 hB13 hk13 hF13)
    | (go_at_call 22; (with_reducible refine (HCA.out F13 _ _ (by omega) HBX.out).mono ?_); rintro r9 w14 ⟨rfl, hd14⟩; obtain ⟨F14, hB14, hk14, hF14⟩ := HBX.out.own2 (Nat.le_add_right _ _) hd14; have HZ2 := Lib.hid (HZX.out.keep hk14 HOE13.out.1); have HF2 := Lib.hid (HFX.out.keep hk14 HOF13.out.1); have HB2 := Lib.hid hB14; clear HBX HZX HFX; have HBX := HB2; have HZX := HZ2; have HFX := HF2; clear HB2 HZ2 HF2; (try clear hS); have hS := HSS.out _ HZX.out HFX.out; clear hd14 hB14 hk14 hF14))
  have hbmw := HBX.out.both.ref.tl
  have hblw := HBX.out.both.ref.ll
  have hlow := HBX.out.bel.size
  have hhi := HBX.out.hi
  clear e0 e1 e2 e3 e4 e5 e6 e7 d4 hS HSS HCO HCA HB10 HE10 HF10 HF9B HZX HOE HOF HOE13 HOF13 H17
  have HO14 := Lib.hid (HBX.out.offNew (Nat.le_refl _))
  have hbA : Below w14.heap.size w14 (w14.alloc (.cells #[] 28)) := (Below.refl _ _).alloc (Nat.le_refl _) _
  have HOW := Lib.hid (show OwnE (w14.alloc (.cells #[] 28)) w14.heap.size (.slice (some ⟨w14.heap.size, 0, none⟩) 0 0) [] from World.ownsRow_lit w14 #[] 0 (Nat.le_refl _) (by simp [maxLen]) rfl)
  have HB15 := Lib.hid (HBX.out.up hbA)
  have HF15 := Lib.hid (HFX.out.up hbA)
  have hs15 : (w14.alloc (.cells #[] 28)).heap.size = w14.heap.size + 1 := by simp
  obtain ⟨i0, hi, hz0, hz1, hz2⟩ := info_parts ev_info
  have HI := Lib.hid hi; have HZ0 := Lib.hid hz0; have HZ1 := Lib.hid hz1; have HZ2 := Lib.hid hz2
  clear hi hz0 hz1 hz2 hbA HBX HFX
  go_wp2_with fail
  generalize w14.alloc (.cells #[] 28) = w15 at *
  refine (itaken_any w15 F14 bi _ y HB15.out.both.itk (by omega)).mono ?_
  rintro r w16 ⟨v16, rfl, ho16, hb16⟩
  obtain ⟨Bt, ct, hv16, _⟩ := ho16.form
  subst hv16
  have HE16 := Lib.hid (show Evs w16 w16.heap.size Bt y.taken.length ct y.taken from Cel.of_own ho16)
  have HOW16 := Lib.hid (HOW.out.keep (fun b hb => hb16.block b (HOW.out.lt hb)))
  have HB16 := Lib.hid (HB15.out.up hb16)
  have HF16 := Lib.hid (HF15.out.up hb16)
  have hs16 := hb16.size
  clear ho16 hb16 HOW HB15 HF15
  go_wp2_with (at_builtin; refine wpList_app (P := Tryz.prog) rfl (.tmp 86) (.tmp 88) 22 rfl 28 i0 _ 8 96 Tryz.underlying22 HI.out HZ0.out HZ1.out HZ2.out rfl (by decide) w14.heap.size (.slice (some ⟨w14.heap.size, 0, none⟩) 0 0) 0 [] rfl HOW16.out w16.heap.size _ _ _ (evCells y.taken) rfl HE16.out (cells_ones _) ?c1 ?c2 ?c3 ?_)
  case c1 => unfold maxLen; omega
  case c2 => omega
  case c3 => omega
  intro v17 w17 ho17 hg17 hv17
  have HK17 := Lib.hid (show Keep (fun b => b = w14.heap.size) w16 w17 from Keep.of_grown hg17 (fun k h => by injection h with h; exact h.symm))
  have HB17 := Lib.hid (HB16.out.besides HK17.out (fun b e => by subst e; exact ⟨HO14.out, hlow⟩))
  have HF17 := Lib.hid (HF16.out.keep HK17.out (by show ¬ w.heap.size = w14.heap.size; omega))
  have HP17 := Lib.hid (show ∀ b, v17.ownBlock = some b → Off F14 S9 bm bc b ∧ w.heap.size + 2 ≤ b from fun b hb => by
    rcases hv17 with h' | h'
    · rw [h'] at hb
      have hb2 : w14.heap.size = b := by injection hb
      exact ⟨hb2 ▸ HO14.out, by omega⟩
    · rw [h'] at hb
      have hb2 : w16.heap.size = b := by injection hb
      exact ⟨hb2 ▸ HB16.out.offNew (Nat.le_refl _), by omega⟩)
  have HO17 := Lib.hid ho17
  have hs17 := hg17.size
  clear ho17 hg17 hv17 HE16 HOW16 HB16 HF16
  go_wp2_with fail
  refine (ilate_any w17 F14 bi _ y HB17.out.both.itk (by omega)).mono ?_
  rintro r w18 ⟨v18, rfl, ho18, hb18⟩
  obtain ⟨Bl, cl, hv18, _⟩ := ho18.form
  subst hv18
  have HE18 := Lib.hid (show Evs w18 w18.heap.size Bl y.late.length cl y.late from Cel.of_own ho18)
  have HO18 := Lib.hid (ownsRow_below HO17.out hb18 (Nat.le_refl _))
  have HB18 := Lib.hid (HB17.out.up hb18)
  have HF18 := Lib.hid (HF17.out.up hb18)
  have hs18 := hb18.size
  clear ho18 hb18 HO17 HB17 HF17
  go_wp2_with (at_builtin; refine wpList_app (P := Tryz.prog) rfl (.tmp 89) (.tmp 91) 22 rfl 28 i0 _ 8 96 Tryz.underlying22 HI.out HZ0.out HZ1.out HZ2.out rfl (by decide) w14.heap.size v17 _ _ rfl HO18.out w18.heap.size _ _ _ (evCells y.late) rfl HE18.out (cells_ones _) ?d1 ?d2 ?d3 ?_)
  case d1 => unfold maxLen; omega
  case d2 => omega
  case d3 => omega
  intro v19 w19 ho19 hg19 hv19
  have HK19 := Lib.hid (show Keep (fun b => v17.ownBlock = some b) w18 w19 from Keep.of_grown hg19 (fun k h => h))
  have HB19 := Lib.hid (HB18.out.besides HK19.out (fun b e => ⟨(HP17.out b e).1, by have := (HP17.out b e).2; omega⟩))
  have HF19 := Lib.hid (HF18.out.keep HK19.out (fun e => by have := (HP17.out _ e).2; omega))
  have hown : OwnE w19 w14.heap.size v19 (y.taken ++ y.late) := by
    unfold OwnE
    rw [evCells_append, List.length_append]
    simpa using ho19
  obtain ⟨B19, c19, hv19', _⟩ := hown.form
  subst hv19'
  have HE19 := Lib.hid (show Evs w19 w19.heap.size B19 (y.taken ++ y.late).length c19 (y.taken ++ y.late) from Cel.of_own hown)
  have hall : (y.taken ++ y.late).length ≤ 10000 := by simp; omega
  clear ho19 hg19 hv19 hown HE18 HO18 HB18 HF18 HK19 HK17 HP17
  generalize y.taken ++ y.late = all at *
  obtain ⟨e0, e1, e2, e3, e4, e5, e6, e7⟩ := HF19.out.in_
  go_wp2_with fail
  refine (rwith08_any w19 f'.per B19 all.length c19 all HE19.out (by omega)).mono ?_
  rintro r w20 ⟨v20, rfl, ho20, hb20⟩
  rw [HKA.out] at ho20
  obtain ⟨B20, c20, hv20, _⟩ := ho20.form
  subst hv20
  have HB20 := Lib.hid (HB19.out.up hb20)
  clear ho20 hb20 HB19 HE19 HF19 e0 e1 e2 e3 e4 e5 e6 e7
  go_wp2_with fail
  refine (even_any w20 F14 bi bm bc S9 _ y ⟨HB20.out.both.itk, HB20.out.both.ref⟩ (by omega)).mono ?_
  rintro r w21 ⟨rfl, hb21⟩
  have HFI := Lib.hid (HB20.out.bel.trans (hb21.mono HB20.out.bel.size))
  clear hb21
  go_wp2
  go_ret
  exact ⟨rfl, HFI.out⟩
end Go.Proofs.YtoljbbmjbgepiaaGreatDoor
