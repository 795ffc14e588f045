/-
  Layer 8: Parts.
-/
import Derived.Test.YtdjoaboalknlkaaGreatDoorLClkDec1
import Derived.Test.YtdjoaboalknlkaaGreatDoorLClkEnc2
import Derived.Test.YtdjoaboalknlkaaGreatDoorLEnc3
import Derived.Test.YtdjoaboalknlkaaGreatDoorLGrPlain
import Derived.Deep.RegionHeld3
namespace Go.Proofs.YtdjoaboalknlkaaGreatDoor
open Go.RowKit Go.Maps Go.Sort Go.Shelf

abbrev ptsAgg (a b : Int) (vc vh vt vl vg : Value) : Value := .agg #[.int .i64 a, .int .i64 b, vc, vh, vt, vl, vg]
theorem ownsRow_base {w : World} {base base' : Nat} {e : TypeId} {size n : Nat} {v : Value} {xs : List Value} (h : w.ownsRow base e size v n xs) (hb : base' ≤ base) : w.ownsRow base' e size v n xs := by
  refine ⟨h.1, ?_⟩
  rcases h.2 with h' | ⟨g, cap, cur, rfl, hb', hg, hr⟩
  · exact .inl h'
  · exact .inr ⟨g, cap, cur, rfl, by omega, hg, hr⟩
theorem alloc_size2 {B : Nat} {w W V : World} {o : Obj} (h : RowKit.Below B w W) (_h0 : RowKit.Below (W.alloc o).heap.size (W.alloc o) V) : w.heap.size ≤ (W.alloc o).heap.size := by have := h.size; simp; omega
theorem alloc_blk {w W : World} {o : Obj} (h : RowKit.Below (w.alloc o).heap.size (w.alloc o) W) : W.heap[w.heap.size]? = some o := (h.block _ (by simp)).trans (heap_alloc_new w o)
theorem alloc_below {w W : World} {o : Obj} (h : RowKit.Below (w.alloc o).heap.size (w.alloc o) W) : RowKit.Below w.heap.size w W := ((Below.refl _ _).alloc (Nat.le_refl _) o).trans (h.mono (Nat.le_of_lt (by simp)))
theorem pts_cells {W : World} {b : Nat} {T : TypeId} {a0 a1 a2 a3 a4 a5 a6 : Value} (h : W.heap[b]? = some (.cells #[a0, a1, a2, a3, a4, a5, a6] T (0, 0))) :
    W.cell? ⟨b, 0, none⟩ = some a0 ∧ W.cell? ⟨b, 1, none⟩ = some a1 ∧ W.cell? ⟨b, 2, none⟩ = some a2 ∧ W.cell? ⟨b, 3, none⟩ = some a3 ∧ W.cell? ⟨b, 4, none⟩ = some a4 ∧ W.cell? ⟨b, 5, none⟩ = some a5 ∧ W.cell? ⟨b, 6, none⟩ = some a6 ∧
    W.frozen? ⟨b, 0, none⟩ = false ∧ W.frozen? ⟨b, 1, none⟩ = false ∧ W.frozen? ⟨b, 2, none⟩ = false ∧ W.frozen? ⟨b, 3, none⟩ = false ∧ W.frozen? ⟨b, 4, none⟩ = false ∧ W.frozen? ⟨b, 5, none⟩ = false ∧ W.frozen? ⟨b, 6, none⟩ = false := by
  have key : ∀ o, W.cell? ⟨b, o, none⟩ = _ := fun o => cell_of_row W b o _ _ (0, 0) h
  exact ⟨(key 0).trans rfl, (key 1).trans rfl, (key 2).trans rfl, (key 3).trans rfl, (key 4).trans rfl, (key 5).trans rfl, (key 6).trans rfl, frozen_of_row W b 0 _ _ h, frozen_of_row W b 1 _ _ h, frozen_of_row W b 2 _ _ h, frozen_of_row W b 3 _ _ h, frozen_of_row W b 4 _ _ h, frozen_of_row W b 5 _ _ h, frozen_of_row W b 6 _ _ h⟩
theorem own_apart {w w' : World} {base base' n n' size size' : Nat} {e e' : TypeId} {v v' : Value} {xs xs' : List Value} (h : w.ownsRow base e size v n xs) (h' : w'.ownsRow base' e' size' v' n' xs') (hb : w.heap.size ≤ base') : ∀ b, v.ownBlock = some b → v'.ownBlock ≠ some b := fun b h1 h2 => by
  have := (World.ownsRow.lt h b h1).2; have := (World.ownsRow.lt h' b h2).1; omega
/-- what an intake's parts hold -/
structure PtsV (w : World) (B : Nat) (x : Itk) (vc vh vt vl vg : Value) (r : List (List UInt8)) : Prop where
  clk : OwnB w B vc (encC x.clk)
  had : OwnB w B vh (encH x.had)
  taken : OwnE w B vt x.taken
  late : OwnE w B vl x.late
  gone : w.ownsRow B 9 1 vg r.length (r.map encStr)
  rise : Rising r x.gone
  ap1 : ∀ b, vc.ownBlock = some b → vh.ownBlock ≠ some b
  ap2 : ∀ b, vt.ownBlock = some b → vl.ownBlock ≠ some b
theorem PtsV.keepB {w W : World} {B t : Nat} {x : Itk} {vc vh vt vl vg : Value} {r : List (List UInt8)} {cs : Array Value} (h : PtsV w B x vc vh vt vl vg r) (ht : w.heap[t]? = some (.cells cs 42 (0, 0))) (hk : ∀ b, b < w.heap.size → b ≠ t → W.heap[b]? = w.heap[b]?) : PtsV W B x vc vh vt vl vg r := by
  have key : ∀ {b : Nat} {e : TypeId} {n size : Nat} {v : Value} {xs : List Value}, w.ownsRow B e size v n xs → e ≠ 42 → v.ownBlock = some b → W.heap[b]? = w.heap[b]? := fun {b e n size v xs} ho he hb => by
    refine hk b (World.ownsRow.lt ho b hb).2 fun hbt => ?_
    obtain ⟨cs', hc⟩ := ownsRow_typ ho hb
    rw [hbt, ht] at hc
    injection hc with hc; injection hc with _ hc; exact he hc.symm
  exact ⟨ownsRow_keep h.clk fun b hb => key h.clk (by decide) hb, ownsRow_keep h.had fun b hb => key h.had (by decide) hb, ownsRow_keep h.taken fun b hb => key h.taken (by decide) hb, ownsRow_keep h.late fun b hb => key h.late (by decide) hb, ownsRow_keep h.gone fun b hb => key h.gone (by decide) hb, h.rise, h.ap1, h.ap2⟩
theorem PtsV.up {w W : World} {B : Nat} {x : Itk} {vc vh vt vl vg : Value} {r : List (List UInt8)} (h : PtsV w B x vc vh vt vl vg r) (hb : RowKit.Below w.heap.size w W) : PtsV W B x vc vh vt vl vg r :=
  ⟨ownsRow_below h.clk hb (Nat.le_refl _), ownsRow_below h.had hb (Nat.le_refl _), ownsRow_below h.taken hb (Nat.le_refl _), ownsRow_below h.late hb (Nat.le_refl _), ownsRow_below h.gone hb (Nat.le_refl _), h.rise, h.ap1, h.ap2⟩
abbrev ptsObj (a b : Int) (vc vh vt vl vg : Value) : Obj := .cells #[.int .i64 a, .int .i64 b, vc, vh, vt, vl, vg] 42
/-- parts that lie in block t -/
def PfAt (w1 : World) (x : Itk) (a b : Int) (v : Value) (W : World) : Prop :=
  ∃ t Ac nc kc Ah nh kh At nt kt Al nl kl Ag ng kg r, v = .pointer (some ⟨t, 0, none⟩) ∧ w1.heap.size ≤ t ∧ W.heap[t]? = some (ptsObj a b (.slice Ac nc kc) (.slice Ah nh kh) (.slice At nt kt) (.slice Al nl kl) (.slice Ag ng kg)) ∧ PtsV W w1.heap.size x (.slice Ac nc kc) (.slice Ah nh kh) (.slice At nt kt) (.slice Al nl kl) (.slice Ag ng kg) r ∧ RowKit.Below w1.heap.size w1 W
theorem pf_new {w1 we : World} {x : Itk} {Ac Ah At Al Ag : Option Addr} {nc kc nh kh nt kt nl kl ng kg : Nat} {r : List (List UInt8)} (h : PtsV we w1.heap.size x (.slice Ac nc kc) (.slice Ah nh kh) (.slice At nt kt) (.slice Al nl kl) (.slice Ag ng kg) r) (hb : RowKit.Below w1.heap.size w1 we) (a b : Int) :
    PfAt w1 x a b (.pointer (some ⟨we.heap.size, 0, none⟩)) (we.alloc (ptsObj a b (.slice Ac nc kc) (.slice Ah nh kh) (.slice At nt kt) (.slice Al nl kl) (.slice Ag ng kg))) :=
  ⟨_, _, _, _, _, _, _, _, _, _, _, _, _, _, _, _, r, rfl, hb.size, heap_alloc_new we _, h.up ((Below.refl _ _).alloc (Nat.le_refl _) _), hb.alloc hb.size _⟩
theorem pf_set {w1 we : World} {x : Itk} {t : Nat} {Ac Ah At Al Ag : Option Addr} {nc kc nh kh nt kt nl kl ng kg : Nat} {r : List (List UInt8)} {a0 a1 a2 a3 a4 a5 a6 : Value} (h3 : we.heap[t]? = some (.cells #[a0, a1, a2, a3, a4, a5, a6] 42 (0, 0))) (ht : w1.heap.size ≤ t) (h : PtsV we w1.heap.size x (.slice Ac nc kc) (.slice Ah nh kh) (.slice At nt kt) (.slice Al nl kl) (.slice Ag ng kg) r) (hb : RowKit.Below w1.heap.size w1 we) (a b : Int) :
    PfAt w1 x a b (.pointer (some ⟨t, 0, none⟩)) (((((((we.setCell ⟨t, 0, none⟩ (.int .i64 a)).setCell ⟨t, 1, none⟩ (.int .i64 b)).setCell ⟨t, 2, none⟩ (.slice Ac nc kc)).setCell ⟨t, 3, none⟩ (.slice Ah nh kh)).setCell ⟨t, 4, none⟩ (.slice At nt kt)).setCell ⟨t, 5, none⟩ (.slice Al nl kl)).setCell ⟨t, 6, none⟩ (.slice Ag ng kg)) := by
  have e1 := heap_set_row (o := 6) (u := .slice Ag ng kg) (heap_set_row (o := 5) (u := .slice Al nl kl) (heap_set_row (o := 4) (u := .slice At nt kt) (heap_set_row (o := 3) (u := .slice Ah nh kh) (heap_set_row (o := 2) (u := .slice Ac nc kc) (heap_set_row (o := 1) (u := .int .i64 b) (heap_set_row (o := 0) (u := .int .i64 a) h3))))))
  simp only [List.setIfInBounds_toArray, List.set_cons_zero, List.set_cons_succ] at e1
  refine ⟨_, _, _, _, _, _, _, _, _, _, _, _, _, _, _, _, r, rfl, ht, e1, h.keepB h3 fun k _ hk => ?_, (((((((hb.setCell (p := ⟨t, 0, none⟩) ht _).setCell (p := ⟨t, 1, none⟩) ht _).setCell (p := ⟨t, 2, none⟩) ht _).setCell (p := ⟨t, 3, none⟩) ht _).setCell (p := ⟨t, 4, none⟩) ht _).setCell (p := ⟨t, 5, none⟩) ht _).setCell (p := ⟨t, 6, none⟩) ht _)⟩
  repeat rw [Below.heap_setCell _ _ _ _ hk]
def PtsPost (w : World) (x : Itk) (e : Ending) (w' : World) : Prop := ∃ vc vh vt vl vg r, e = .returned (ptsAgg x.clk.slack x.clk.idle vc vh vt vl vg) ∧ PtsV w' w.heap.size x vc vh vt vl vg r ∧ RowKit.Below w.heap.size w w'
theorem tab_up {w W : World} {nm : String} {k : IntKind} {zs : List Int} (h : Lib.TabBelow Tryz.prog w.heap.size w nm k zs) (hb : RowKit.Below w.heap.size w W) : Lib.TabBelow Tryz.prog W.heap.size W nm k zs := fun w' hw => h w' (hb.trans (hw.mono hb.size))
theorem ItkOk.hadrow {N : Nat} {x : Itk} (h : ItkOk N x) (hok : HadOk x.had) : ∀ p ∈ x.had, p.2.length ≤ N := fun p hp => by
  have := h.rows p.1
  unfold hadRow at this
  rw [getB_of_mem hok.up (k := p.1) (v := p.2) hp] at this
  exact this
set_option maxRecDepth 100000 in
set_option maxHeartbeats 4000000 in
theorem parts_any (w : World) (F : Nat → Prop) (bi N : Nat) (x : Itk) (h : ItkAt w F bi N x) (hN : N ≤ 90000) (hm : MaxAt w) (htab : Lib.TabBelow Tryz.prog w.heap.size w "internal/strconv.uint64pow10" .u64 Lib.pow10Tab) :
    Calls Tryz.prog 17 #[.pointer (some ⟨bi, 0, none⟩)] w (PtsPost w x) := by
  have HI := Lib.hid h
  obtain ⟨A, hM, hO, _⟩ := h
  have HMM := Lib.hid hM; have HO := Lib.hid hO; have HM := Lib.hid hm; have HT := Lib.hid htab
  clear hM hO hm htab
  have hb1 : RowKit.Below w.heap.size w (w.alloc (.cells #[.int .i64 0, .int .i64 0, .slice none 0 0, .slice none 0 0, .slice none 0 0, .slice none 0 0, .slice none 0 0] 42)) := (Below.refl _ _).alloc (Nat.le_refl _) _
  have HB1 := Lib.hid hb1
  have hs1 : w.heap.size < (w.alloc (.cells #[.int .i64 0, .int .i64 0, .slice none 0 0, .slice none 0 0, .slice none 0 0, .slice none 0 0, .slice none 0 0] 42)).heap.size := by simp
  have HX1 := Lib.hid (heap_alloc_new w (.cells #[.int .i64 0, .int .i64 0, .slice none 0 0, .slice none 0 0, .slice none 0 0, .slice none 0 0, .slice none 0 0] 42))
  clear hb1
  go_enter Tryz.func17, Tryz.ntmps17
  go_wp2
  generalize w.alloc (.cells #[.int .i64 0, .int .i64 0, .slice none 0 0, .slice none 0 0, .slice none 0 0, .slice none 0 0, .slice none 0 0] 42) = w1 at *
  have HCE := Lib.hid (show ∀ W, RowKit.Below w.heap.size w W → Calls Tryz.prog 45 #[.pointer (some ⟨A.bc, 0, none⟩)] W (CePost W (encC x.clk)) from fun W hW =>
    clkenc_any W A.bc A.bm x.clk (HMM.out.clk.up hW) (Nat.le_trans HO.out.src (by omega)) (tab_up HT.out hW))
  have HHE := Lib.hid (show ∀ W, RowKit.Below w.heap.size w W → Calls Tryz.prog 46 #[.pointer (some ⟨A.bs, 0, none⟩)] W (EncPost W (encH x.had)) from fun W hW =>
    encode_any W A.G A.bs A.bh x.had A.V (HMM.out.had.up hW) (Nat.le_trans HO.out.had hN) (fun p hp => Nat.le_trans (HO.out.hadrow HMM.out.had.ok p hp) hN))
  have HTK := Lib.hid (show ∀ W, RowKit.Below w.heap.size w W → Calls Tryz.prog 47 #[.pointer (some ⟨bi, 0, none⟩)] W (OwnPost W x.taken) from fun W hW => itaken_any W F bi N x (HI.out.up hW) (by omega))
  have HLT := Lib.hid (show ∀ W, RowKit.Below w.heap.size w W → Calls Tryz.prog 48 #[.pointer (some ⟨bi, 0, none⟩)] W (OwnPost W x.late) from fun W hW => ilate_any W F bi N x (HI.out.up hW) (by omega))
  have HGO := Lib.hid (show ∀ W, RowKit.Below w.heap.size w W → Calls Tryz.prog 49 #[.pointer (some ⟨bi, 0, none⟩)] W (GonePost W x.gone) from fun W hW => igone_any W F bi N x (HI.out.up hW) (by omega))
  have HSS := Lib.hid (show ∀ W, RowKit.Below w.heap.size w W → W.cell? ⟨bi, 0, none⟩ = some (.pointer (some ⟨A.bc, 0, none⟩)) ∧ W.cell? ⟨bi, 1, none⟩ = some (.pointer (some ⟨A.bs, 0, none⟩)) from fun W hW => by
    have hb := (HMM.out.up hW).blk
    exact ⟨(cell_of_row W bi 0 _ _ (0, 0) hb).trans rfl, (cell_of_row W bi 1 _ _ (0, 0) hb).trans rfl⟩)
  have HCK := Lib.hid HMM.out.clk.ok
  have HBX := Lib.hid (show RowKit.Below w.heap.size w w1.drew from below_drewN HB1.out 1)
  have HBY := Lib.hid (show RowKit.Below w1.heap.size w1 w1.drew from below_drewN (Below.refl _ _) 1)
  have HBD := Lib.hid (show RowKit.Below w.heap.size w (w1.alloc (.cells #[.int .i64 0, .int .i64 0, .slice none 0 0, .slice none 0 0, .slice none 0 0, .slice none 0 0, .slice none 0 0] 42)).drew from below_drewN (HB1.out.alloc HB1.out.size _) 1)
  have HBE := Lib.hid (show RowKit.Below w1.heap.size w1 (w1.alloc (.cells #[.int .i64 0, .int .i64 0, .slice none 0 0, .slice none 0 0, .slice none 0 0, .slice none 0 0, .slice none 0 0] 42)).drew from below_drewN ((Below.refl _ _).alloc (Nat.le_refl _) _) 1)
  have HTZ := Lib.hid (show ((w1.alloc (.cells #[.int .i64 0, .int .i64 0, .slice none 0 0, .slice none 0 0, .slice none 0 0, .slice none 0 0, .slice none 0 0] 42)).drew).heap[w1.heap.size]? = some (.cells #[.int .i64 0, .int .i64 0, .slice none 0 0, .slice none 0 0, .slice none 0 0, .slice none 0 0, .slice none 0 0] 42) from heap_alloc_new w1 _)
  have hS := HSS.out _ HBX.out
  have hcl : (encC x.clk).length ≤ 10000000 := by
    have h1 := HMM.out.clk.ok
    have h2 := srcB_len h1 x.clk.src.length
    rw [List.take_length] at h2
    have h3 := HO.out.src
    have k1 := h1.slack; have k2 := h1.idle; have k3 := h1.now; have k4 := h1.mark
    have h4 := lineB_len [99, 108, 111, 99, 107] [x.clk.slack, x.clk.idle, x.clk.now, x.clk.mark] (by intro v hv; simp at hv; rcases hv with rfl | rfl | rfl | rfl <;> omega)
    simp only [List.length_cons, List.length_nil] at h4
    unfold encC; rw [List.length_append]; omega
  have HCL := Lib.hid hcl
  clear hcl HI HMM HO
  generalize A.bc = bc at *
  generalize A.bs = bs at *
  go_cut [3] (fun v wc => PfAt w1 x 0 0 v wc)
  case first =>
    go_region_held3 (fun W => W.cell? ⟨bi, 0, none⟩ = some (.pointer (some ⟨bc, 0, none⟩)) ∧ W.cell? ⟨bi, 1, none⟩ = some (.pointer (some ⟨bs, 0, none⟩))) (first | with_reducible assumption | with_reducible exact HSS.out _ HBX.out | with_reducible exact HSS.out _ HBD.out | with_reducible exact HSS.out _ (HBX.out.alloc HBX.out.size _) | with_reducible exact HSS.out _ (((((((HBX.out.setCell (p := ⟨_, 0, none⟩) HTN _).setCell (p := ⟨_, 1, none⟩) HTN _).setCell (p := ⟨_, 2, none⟩) HTN _).setCell (p := ⟨_, 3, none⟩) HTN _).setCell (p := ⟨_, 4, none⟩) HTN _).setCell (p := ⟨_, 5, none⟩) HTN _).setCell (p := ⟨_, 6, none⟩) HTN _) | go_keep)
      (first
        | (go_at_call 45; first | ((with_reducible refine (HCE.out _ HBX.out).mono ?_); rintro r wa ⟨vc, rfl, oc, hba0⟩; have HSZ := HBY.out.size; obtain ⟨Ac, kc, rfl⟩ := oc.form; have OC := Lib.hid (oc.base_le HSZ); have hba := hba0; (first | (have HT4 := Lib.hid ((hba.block _ (heap_lt HT3.out)).trans HT3.out); clear HT3; have HT3 := HT4; clear HT4) | skip); have HBX2 := Lib.hid (HBX.out.trans (hba.mono HBX.out.size)); have HBY2 := Lib.hid (HBY.out.trans (hba.mono HBY.out.size)); clear HBX HBY; have HBX := HBX2; have HBY := HBY2; clear HBX2 HBY2 hS; have hS := HSS.out _ HBX.out; clear oc hba hba0 HSZ) | ((with_reducible refine (HCE.out _ HBD.out).mono ?_); rintro r wa ⟨vc, rfl, oc, hba0⟩; have HSZ := HBE.out.size; obtain ⟨Ac, kc, rfl⟩ := oc.form; have OC := Lib.hid (oc.base_le HSZ); have HT3 := Lib.hid ((hba0.block w1.heap.size (heap_lt HTZ.out)).trans HTZ.out); have HTN := HB1.out.size; have HTM := Nat.le_refl w1.heap.size; have HBX2 := Lib.hid (HBD.out.trans (hba0.mono HBD.out.size)); have HBY2 := Lib.hid (HBE.out.trans (hba0.mono HBE.out.size)); clear HBX HBY; have HBX := HBX2; have HBY := HBY2; clear HBX2 HBY2 hS; have hS := HSS.out _ HBX.out; clear oc hba0 HSZ))
        | (go_at_call 46; first | ((with_reducible refine (HHE.out _ HBX.out).mono ?_); rintro r wb ⟨vh, rfl, oh, hba0⟩; have HSZ := HBY.out.size; obtain ⟨Ah, kh, rfl⟩ := oh.form; have AP1 := Lib.hid (own_apart OC.out oh (by first | exact Nat.le_refl _ | (simp; done) | (simp; omega))); have OH := Lib.hid (oh.base_le HSZ); have hba := hba0; (first | (have HT4 := Lib.hid ((hba.block _ (heap_lt HT3.out)).trans HT3.out); clear HT3; have HT3 := HT4; clear HT4) | skip); have OC2 := Lib.hid (OC.out.below hba (Nat.le_refl _)); clear OC; have OC := OC2; clear OC2; have HBX2 := Lib.hid (HBX.out.trans (hba.mono HBX.out.size)); have HBY2 := Lib.hid (HBY.out.trans (hba.mono HBY.out.size)); clear HBX HBY; have HBX := HBX2; have HBY := HBY2; clear HBX2 HBY2 hS; have hS := HSS.out _ HBX.out; clear oh hba hba0 HSZ) | ((with_reducible refine (HHE.out _ (HBX.out.alloc HBX.out.size _)).mono ?_); rintro r wb ⟨vh, rfl, oh, hba0⟩; have HSZ := alloc_size2 HBY.out hba0; obtain ⟨Ah, kh, rfl⟩ := oh.form; have AP1 := Lib.hid (own_apart OC.out oh (by first | exact Nat.le_refl _ | (simp; done) | (simp; omega))); have OH := Lib.hid (oh.base_le HSZ); have hba := alloc_below hba0; have HT3 := Lib.hid (alloc_blk hba0); have HTN := HBX.out.size; have HTM := HBY.out.size; have OC2 := Lib.hid (OC.out.below hba (Nat.le_refl _)); clear OC; have OC := OC2; clear OC2; have HBX2 := Lib.hid (HBX.out.trans (hba.mono HBX.out.size)); have HBY2 := Lib.hid (HBY.out.trans (hba.mono HBY.out.size)); clear HBX HBY; have HBX := HBX2; have HBY := HBY2; clear HBX2 HBY2 hS; have hS := HSS.out _ HBX.out; clear oh hba hba0 HSZ))
        | (go_at_call 47; first | ((with_reducible refine (HTK.out _ HBX.out).mono ?_); rintro r wc ⟨vt, rfl, ot, hba0⟩; have HSZ := HBY.out.size; obtain ⟨At, kt, rfl⟩ := ownsRow_form ot; have OT := Lib.hid (OwnE.base_le ot HSZ); have hba := hba0; (first | (have HT4 := Lib.hid ((hba.block _ (heap_lt HT3.out)).trans HT3.out); clear HT3; have HT3 := HT4; clear HT4) | skip); have OC2 := Lib.hid (OC.out.below hba (Nat.le_refl _)); clear OC; have OC := OC2; clear OC2; have OH2 := Lib.hid (OH.out.below hba (Nat.le_refl _)); clear OH; have OH := OH2; clear OH2; have HBX2 := Lib.hid (HBX.out.trans (hba.mono HBX.out.size)); have HBY2 := Lib.hid (HBY.out.trans (hba.mono HBY.out.size)); clear HBX HBY; have HBX := HBX2; have HBY := HBY2; clear HBX2 HBY2 hS; have hS := HSS.out _ HBX.out; clear ot hba hba0 HSZ) | ((with_reducible refine (HTK.out _ (HBX.out.alloc HBX.out.size _)).mono ?_); rintro r wc ⟨vt, rfl, ot, hba0⟩; have HSZ := alloc_size2 HBY.out hba0; obtain ⟨At, kt, rfl⟩ := ownsRow_form ot; have OT := Lib.hid (OwnE.base_le ot HSZ); have hba := alloc_below hba0; have HT3 := Lib.hid (alloc_blk hba0); have HTN := HBX.out.size; have HTM := HBY.out.size; have OC2 := Lib.hid (OC.out.below hba (Nat.le_refl _)); clear OC; have OC := OC2; clear OC2; have OH2 := Lib.hid (OH.out.below hba (Nat.le_refl _)); clear OH; have OH := OH2; clear OH2; have HBX2 := Lib.hid (HBX.out.trans (hba.mono HBX.out.size)); have HBY2 := Lib.hid (HBY.out.trans (hba.mono HBY.out.size)); clear HBX HBY; have HBX := HBX2; have HBY := HBY2; clear HBX2 HBY2 hS; have hS := HSS.out _ HBX.out; clear ot hba hba0 HSZ))
        | (go_at_call 48; first | ((with_reducible refine (HLT.out _ HBX.out).mono ?_); rintro r wd ⟨vl, rfl, ol, hba0⟩; have HSZ := HBY.out.size; obtain ⟨Al, kl, rfl⟩ := ownsRow_form ol; have AP2 := Lib.hid (own_apart OT.out ol (by first | exact Nat.le_refl _ | (simp; done) | (simp; omega))); have OL := Lib.hid (OwnE.base_le ol HSZ); have hba := hba0; (first | (have HT4 := Lib.hid ((hba.block _ (heap_lt HT3.out)).trans HT3.out); clear HT3; have HT3 := HT4; clear HT4) | skip); have OC2 := Lib.hid (OC.out.below hba (Nat.le_refl _)); clear OC; have OC := OC2; clear OC2; have OH2 := Lib.hid (OH.out.below hba (Nat.le_refl _)); clear OH; have OH := OH2; clear OH2; have OT2 := Lib.hid (ownsRow_below OT.out hba (Nat.le_refl _)); clear OT; have OT := OT2; clear OT2; have HBX2 := Lib.hid (HBX.out.trans (hba.mono HBX.out.size)); have HBY2 := Lib.hid (HBY.out.trans (hba.mono HBY.out.size)); clear HBX HBY; have HBX := HBX2; have HBY := HBY2; clear HBX2 HBY2 hS; have hS := HSS.out _ HBX.out; clear ol hba hba0 HSZ) | ((with_reducible refine (HLT.out _ (HBX.out.alloc HBX.out.size _)).mono ?_); rintro r wd ⟨vl, rfl, ol, hba0⟩; have HSZ := alloc_size2 HBY.out hba0; obtain ⟨Al, kl, rfl⟩ := ownsRow_form ol; have AP2 := Lib.hid (own_apart OT.out ol (by first | exact Nat.le_refl _ | (simp; done) | (simp; omega))); have OL := Lib.hid (OwnE.base_le ol HSZ); have hba := alloc_below hba0; have HT3 := Lib.hid (alloc_blk hba0); have HTN := HBX.out.size; have HTM := HBY.out.size; have OC2 := Lib.hid (OC.out.below hba (Nat.le_refl _)); clear OC; have OC := OC2; clear OC2; have OH2 := Lib.hid (OH.out.below hba (Nat.le_refl _)); clear OH; have OH := OH2; clear OH2; have OT2 := Lib.hid (ownsRow_below OT.out hba (Nat.le_refl _)); clear OT; have OT := OT2; clear OT2; have HBX2 := Lib.hid (HBX.out.trans (hba.mono HBX.out.size)); have HBY2 := Lib.hid (HBY.out.trans (hba.mono HBY.out.size)); clear HBX HBY; have HBX := HBX2; have HBY := HBY2; clear HBX2 HBY2 hS; have hS := HSS.out _ HBX.out; clear ol hba hba0 HSZ))
        | (go_at_call 49; first | ((with_reducible refine (HGO.out _ HBX.out).mono ?_); rintro r we ⟨vg, rg, rfl, hrg, og, hba0⟩; have HSZ := HBY.out.size; obtain ⟨Ag, kg, rfl⟩ := ownsRow_form og; have OG := Lib.hid (ownsRow_base og HSZ); have HRG := Lib.hid hrg; clear hrg; have hba := hba0; (first | (have HT4 := Lib.hid ((hba.block _ (heap_lt HT3.out)).trans HT3.out); clear HT3; have HT3 := HT4; clear HT4) | skip); have OC2 := Lib.hid (OC.out.below hba (Nat.le_refl _)); clear OC; have OC := OC2; clear OC2; have OH2 := Lib.hid (OH.out.below hba (Nat.le_refl _)); clear OH; have OH := OH2; clear OH2; have OT2 := Lib.hid (ownsRow_below OT.out hba (Nat.le_refl _)); clear OT; have OT := OT2; clear OT2; have OL2 := Lib.hid (ownsRow_below OL.out hba (Nat.le_refl _)); clear OL; have OL := OL2; clear OL2; have HBX2 := Lib.hid (HBX.out.trans (hba.mono HBX.out.size)); have HBY2 := Lib.hid (HBY.out.trans (hba.mono HBY.out.size)); clear HBX HBY; have HBX := HBX2; have HBY := HBY2; clear HBX2 HBY2 hS; have hS := HSS.out _ HBX.out; clear og hba hba0 HSZ; (first | (have HT5 := HT3.out; obtain ⟨z0, z1, z2, z3, z4, z5, z6, y0, y1, y2, y3, y4, y5, y6⟩ := pts_cells HT5) | skip)) | ((with_reducible refine (HGO.out _ (HBX.out.alloc HBX.out.size _)).mono ?_); rintro r we ⟨vg, rg, rfl, hrg, og, hba0⟩; have HSZ := alloc_size2 HBY.out hba0; obtain ⟨Ag, kg, rfl⟩ := ownsRow_form og; have OG := Lib.hid (ownsRow_base og HSZ); have HRG := Lib.hid hrg; clear hrg; have hba := alloc_below hba0; have HT3 := Lib.hid (alloc_blk hba0); have HTN := HBX.out.size; have HTM := HBY.out.size; have OC2 := Lib.hid (OC.out.below hba (Nat.le_refl _)); clear OC; have OC := OC2; clear OC2; have OH2 := Lib.hid (OH.out.below hba (Nat.le_refl _)); clear OH; have OH := OH2; clear OH2; have OT2 := Lib.hid (ownsRow_below OT.out hba (Nat.le_refl _)); clear OT; have OT := OT2; clear OT2; have OL2 := Lib.hid (ownsRow_below OL.out hba (Nat.le_refl _)); clear OL; have OL := OL2; clear OL2; have HBX2 := Lib.hid (HBX.out.trans (hba.mono HBX.out.size)); have HBY2 := Lib.hid (HBY.out.trans (hba.mono HBY.out.size)); clear HBX HBY; have HBX := HBX2; have HBY := HBY2; clear HBX2 HBY2 hS; have hS := HSS.out _ HBX.out; clear og hba hba0 HSZ; obtain ⟨z0, z1, z2, z3, z4, z5, z6, y0, y1, y2, y3, y4, y5, y6⟩ := pts_cells HT3.out)))
    all_goals
      have HFV := Lib.hid (show PtsV we w1.heap.size x _ _ _ _ _ rg from ⟨OC.out, OH.out, OT.out, OL.out, OG.out, HRG.out, AP1.out, AP2.out⟩)
      go_wp2_with fail
      go_meet
      first
        | with_reducible exact pf_new HFV.out HBY.out 0 0
        | with_reducible exact pf_set HT3.out HTM HFV.out HBY.out 0 0
  case rest =>
    obtain ⟨t, Ac, nc, kc, Ah, nh, kh, At, nt, kt, Al, nl, kl, Ag, ng, kg, r, rfl, ht, hblk, hV, hB⟩ := hcut
    have HV := Lib.hid hV; have HB := Lib.hid hB; have HBK := Lib.hid hblk
    have hby := hV.clk.byt
    have hnc := hby.len
    have hcl := HCL.out
    have HTM := Lib.hid (terms_any wc Ac nc kc x.clk HCK.out hby (by omega) (HM.out.up (HB1.out.trans (hB.mono HB1.out.size))))
    obtain ⟨z0, z1, z2, z3, z4, z5, z6, y0, y1, y2, y3, y4, y5, y6⟩ := pts_cells hblk
    clear hcl hnc hby hblk hV hB
    go_wp2_with fail
    with_reducible refine HTM.out.mono ?_
    rintro r6 w6 ⟨rfl, hb6⟩
    clear z0 z1 z2 z3 z4 z5 z6 y0 y1 y2 y3 y4 y5 y6 HTM
    have hblk6 := (hb6.block _ (heap_lt HBK.out)).trans HBK.out
    have hX6 := (hb6.block _ (by have := HB.out.size; omega)).trans ((HB.out.block _ hs1).trans HX1.out)
    have HV6 := Lib.hid (HV.out.up hb6)
    have HB6 := Lib.hid (HB.out.trans (hb6.mono HB.out.size))
    have hne : w.heap.size ≠ t := by omega
    obtain ⟨z0, z1, z2, z3, z4, z5, z6, y0, y1, y2, y3, y4, y5, y6⟩ := pts_cells hblk6
    have e1 := heap_set_row (o := 1) (u := .int .i64 x.clk.idle) (heap_set_row (o := 0) (u := .int .i64 x.clk.slack) hblk6)
    simp only [List.setIfInBounds_toArray, List.set_cons_zero, List.set_cons_succ] at e1
    have HBK7 := Lib.hid e1
    have HX7 := Lib.hid (show ((w6.setCell ⟨t, 0, none⟩ (.int .i64 x.clk.slack)).setCell ⟨t, 1, none⟩ (.int .i64 x.clk.idle)).heap[w.heap.size]? = _ from (Below.heap_setCell _ _ _ _ hne).trans ((Below.heap_setCell _ _ _ _ hne).trans hX6))
    have HV7 := Lib.hid (show PtsV ((w6.setCell ⟨t, 0, none⟩ (.int .i64 x.clk.slack)).setCell ⟨t, 1, none⟩ (.int .i64 x.clk.idle)) w1.heap.size x _ _ _ _ _ r from HV6.out.keepB hblk6 fun b _ hb => (Below.heap_setCell _ _ _ _ hb).trans (Below.heap_setCell _ _ _ _ hb))
    have HB7 := Lib.hid (show RowKit.Below w1.heap.size w1 ((w6.setCell ⟨t, 0, none⟩ (.int .i64 x.clk.slack)).setCell ⟨t, 1, none⟩ (.int .i64 x.clk.idle)) from (HB6.out.setCell (p := ⟨t, 0, none⟩) ht _).setCell (p := ⟨t, 1, none⟩) ht _)
    clear e1 hX6 hblk6 hb6 HV HB HBK HV6 HB6
    go_upto_region 3 with fail
    clear z0 z1 z2 z3 z4 z5 z6 y0 y1 y2 y3 y4 y5 y6
    generalize (w6.setCell ⟨t, 0, none⟩ (.int .i64 x.clk.slack)).setCell ⟨t, 1, none⟩ (.int .i64 x.clk.idle) = w7 at *
    obtain ⟨z0, z1, z2, z3, z4, z5, z6, _, _, _, _, _, _, _⟩ := pts_cells HBK7.out
    obtain ⟨x0, x1, x2, x3, x4, x5, x6, y0, y1, y2, y3, y4, y5, y6⟩ := pts_cells HX7.out
    have e1 := heap_set_row (o := 6) (u := .slice Ag ng kg) (heap_set_row (o := 5) (u := .slice Al nl kl) (heap_set_row (o := 4) (u := .slice At nt kt) (heap_set_row (o := 3) (u := .slice Ah nh kh) (heap_set_row (o := 2) (u := .slice Ac nc kc) (heap_set_row (o := 1) (u := .int .i64 x.clk.idle) (heap_set_row (o := 0) (u := .int .i64 x.clk.slack) HX7.out))))))
    simp only [List.setIfInBounds_toArray, List.set_cons_zero, List.set_cons_succ] at e1
    have HR := Lib.hid (show PtsPost w x (.returned (ptsAgg x.clk.slack x.clk.idle (.slice Ac nc kc) (.slice Ah nh kh) (.slice At nt kt) (.slice Al nl kl) (.slice Ag ng kg))) (((((((w7.setCell ⟨w.heap.size, 0, none⟩ (.int .i64 x.clk.slack)).setCell ⟨w.heap.size, 1, none⟩ (.int .i64 x.clk.idle)).setCell ⟨w.heap.size, 2, none⟩ (.slice Ac nc kc)).setCell ⟨w.heap.size, 3, none⟩ (.slice Ah nh kh)).setCell ⟨w.heap.size, 4, none⟩ (.slice At nt kt)).setCell ⟨w.heap.size, 5, none⟩ (.slice Al nl kl)).setCell ⟨w.heap.size, 6, none⟩ (.slice Ag ng kg)) from by
      have hk : ∀ b, b ≠ w.heap.size → (((((((w7.setCell ⟨w.heap.size, 0, none⟩ (.int .i64 x.clk.slack)).setCell ⟨w.heap.size, 1, none⟩ (.int .i64 x.clk.idle)).setCell ⟨w.heap.size, 2, none⟩ (.slice Ac nc kc)).setCell ⟨w.heap.size, 3, none⟩ (.slice Ah nh kh)).setCell ⟨w.heap.size, 4, none⟩ (.slice At nt kt)).setCell ⟨w.heap.size, 5, none⟩ (.slice Al nl kl)).setCell ⟨w.heap.size, 6, none⟩ (.slice Ag ng kg)).heap[b]? = w7.heap[b]? := fun b hb => by
        repeat rw [Below.heap_setCell _ _ _ _ hb]
      have hV8 := HV7.out.keepB HX7.out fun b _ hb => hk b hb
      refine ⟨_, _, _, _, _, r, rfl, ⟨ownsRow_base hV8.clk (by omega), ownsRow_base hV8.had (by omega), ownsRow_base hV8.taken (by omega), ownsRow_base hV8.late (by omega), ownsRow_base hV8.gone (by omega), hV8.rise, hV8.ap1, hV8.ap2⟩, ?_⟩
      have hb := HB1.out.trans (HB7.out.mono (Nat.le_of_lt hs1))
      exact ((((((hb.setCell (p := ⟨w.heap.size, 0, none⟩) (Nat.le_refl _) _).setCell (p := ⟨w.heap.size, 1, none⟩) (Nat.le_refl _) _).setCell (p := ⟨w.heap.size, 2, none⟩) (Nat.le_refl _) _).setCell (p := ⟨w.heap.size, 3, none⟩) (Nat.le_refl _) _).setCell (p := ⟨w.heap.size, 4, none⟩) (Nat.le_refl _) _).setCell (p := ⟨w.heap.size, 5, none⟩) (Nat.le_refl _) _).setCell (p := ⟨w.heap.size, 6, none⟩) (Nat.le_refl _) _)
    go_wp2
    have key : ∀ o, _ = _ := fun o => cell_of_row _ w.heap.size o _ _ (0, 0) e1
    have r0 := key 0; have r1 := key 1; have r2 := key 2; have r3 := key 3; have r4 := key 4; have r5 := key 5; have r6' := key 6
    exact bodyPost_ret (v := ptsAgg x.clk.slack x.clk.idle (.slice Ac nc kc) (.slice Ah nh kh) (.slice At nt kt) (.slice Al nl kl) (.slice Ag ng kg)) (by simp [results, Tryz.results17, go_sem, r0, r1, r2, r3, r4, r5, r6']) rfl HR.out
end Go.Proofs.YtdjoaboalknlkaaGreatDoor
