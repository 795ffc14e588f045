/-
  Layer 8, the document's: Offer, Admit.
  Layer 8, the document's: Admit, Drop.
-/
import Derived.Test.YtoljbbmjbgepiaaGreatDoorMRItk7
namespace Go.Proofs.YtoljbbmjbgepiaaGreatDoor
open Go.RowKit Go.Maps Go.Sort

theorem RItk.setClk {w w' : World} {bm bc N M : Nat} {S S' : Nat → Prop} {x : Itk} {c : Clk} (h : RItk w bm bc S N x) (hc : RClk w' bc S' M c) (hk : Keep (fun b => b = bc) w w') (hS : ∀ q, S q → S' q) (hn : ¬ S' bm) (hM : N ≤ M) : RItk w' bm bc S' M { x with clk := c } := by
  obtain ⟨vh, vt, vl, vg, hb, hp⟩ := h.blk
  have hp' := (hp.stay hk (fun b e => by rw [e]; exact h.clk.ns)).wide hS hM
  exact ⟨⟨vh, vt, vl, vg, (hk.block bm h.lt (fun e => h.ne e)).trans hb, ⟨hp'.had, hp'.taken, hp'.late, hp'.gone⟩⟩, hc, hn, h.ne, h.ok, Nat.le_trans h.tl hM, Nat.le_trans h.ll hM⟩
/-- on the way through Offer -/
structure OfM (w : World) (bm bc N : Nat) (S S4 : Nat → Prop) (x : Itk) (e : Ev) (w4 : World) : Prop where
  itk : RItk w4 bm bc S4 N x
  keep : Keep (fun b => b = bm ∨ b = bc) w w4
  new : ∀ q, S4 q → S q ∨ w.heap.size < q
  ev : EvIn w4 w.heap.size e
  lt : w.heap.size < w4.heap.size
  bmlt : bm < w.heap.size
  bclt : bc < w.heap.size
theorem OfM.start {w : World} {bm bc N : Nat} {S : Nat → Prop} {x : Itk} (h : RItk w bm bc S N x) (e : Ev) : OfM w bm bc N S S x e (w.alloc (evObj e)) :=
  ⟨h.up ((Below.refl _ _).alloc (Nat.le_refl _) _), Keep.of_below ((Below.refl _ _).alloc (Nat.le_refl _) _), fun q hq => .inl hq, EvIn.new w e, by simp, h.lt, h.clk.lt⟩
theorem OfM.up {w w4 w5 : World} {bm bc N : Nat} {S S4 : Nat → Prop} {x : Itk} {e : Ev} (h : OfM w bm bc N S S4 x e w4) (hb : Below w4.heap.size w4 w5) : OfM w bm bc N S S4 x e w5 :=
  ⟨h.itk.up hb, h.keep.trans (G := fun _ => False) (Keep.of_below hb) (fun _ _ h => h.elim), h.new, h.ev.below hb h.lt, Nat.lt_of_lt_of_le h.lt hb.size, h.bmlt, h.bclt⟩
theorem OfM.clk {w w4 w5 : World} {bm bc N M : Nat} {S S4 S5 : Nat → Prop} {x : Itk} {e : Ev} {c : Clk} (h : OfM w bm bc N S S4 x e w4) (hc : RClk w5 bc S5 M c) (hk : Keep (fun b => b = bc) w4 w5) (hS : ∀ q, S4 q → S5 q) (hS' : ∀ q, S5 q → S4 q ∨ (w4.heap.size ≤ q ∧ q < w5.heap.size)) (hM : N ≤ M) : OfM w bm bc M S S5 { x with clk := c } e w5 := by
  have h1 := h.bmlt; have h2 := h.bclt; have h3 := h.lt; have h4 := hk.size
  refine ⟨h.itk.setClk hc hk hS (fun hs => ?_) hM, h.keep.trans hk (fun _ _ h => .inr h), fun q hq => ?_, ev_out hk h.lt (by show ¬ w.heap.size = bc; omega) h.ev, by omega, h1, h2⟩
  · rcases hS' bm hs with h' | h'
    · exact h.itk.ns h'
    · have := h.itk.lt; omega
  · rcases hS' q hq with h' | h'
    · exact h.new q h'
    · right; omega
theorem OfM.set {w w4 w5 : World} {bm bc N M : Nat} {S S4 : Nat → Prop} {x x' : Itk} {e : Ev} (h : OfM w bm bc N S S4 x e w4) (hb : Below w4.heap.size w4 w5) {o : Nat} {v : Value} (hi : RItk (w5.setCell ⟨bm, o, none⟩ v) bm bc (Newer S4 w4 w5) M x') :
    OfM w bm bc M S (Newer S4 w4 w5) x' e (w5.setCell ⟨bm, o, none⟩ v) := by
  have h5 := h.up hb
  have hK := keepSet w5 bm o v
  have h1 := h.bmlt
  have h2 := h.lt
  refine ⟨hi, h5.keep.trans hK (fun _ _ h => .inl h), fun q hq => ?_, ev_out hK h5.lt (by show ¬ w.heap.size = bm; omega) h5.ev, by have := h5.lt; simpa [World.setCell] using this, h1, h.bclt⟩
  rcases hq with hq | hq
  · exact h.new q hq
  · right; omega
theorem OfM.deeds {w w4 : World} {bm bc N : Nat} {S S4 : Nat → Prop} {x : Itk} {e : Ev} (h : OfM w bm bc N S S4 x e w4) : RDeeds w bm bc N S x w4 :=
  ⟨S4, h.itk, h.keep, fun q hq => (h.new q hq).imp id (fun h => by omega)⟩
theorem OfM.then_ {w w4 w5 : World} {bm bc N M : Nat} {S S4 : Nat → Prop} {x y : Itk} {e : Ev} (h : OfM w bm bc N S S4 x e w4) (hd : RDeeds w4 bm bc M S4 y w5) : RDeeds w bm bc M S y w5 := by
  obtain ⟨S5, h1, h2, h3⟩ := hd
  have h4 := h.lt
  refine ⟨S5, h1, h.keep.trans h2 (fun _ _ h => h), fun q hq => ?_⟩
  rcases h3 q hq with h' | h'
  · exact (h.new q h').imp id (fun h => by omega)
  · right; omega
def ROfferPost (w : World) (bm bc N : Nat) (S : Nat → Prop) (x : Itk) (n : Int) (r : Ending) (w' : World) : Prop := r = .returned (.int .i64 n) ∧ RDeeds w bm bc N S x w'
def OfCut (w : World) (bm bc N : Nat) (S : Nat → Prop) (x : Itk) (wx : World) : Prop := RDeeds w bm bc N S x wx
theorem verdict_pos {x : Itk} {e : Ev} (h : x.refuses e = true) : 0 < x.verdict e := by
  unfold Itk.refuses at h
  unfold Itk.verdict
  cases hw : x.wrong e
  · rw [hw] at h; simp at h; simp [h]
  · simp
theorem verdict_zero {x : Itk} {e : Ev} (h : x.refuses e = false) : x.verdict e = 0 := by
  unfold Itk.refuses at h
  unfold Itk.verdict
  simp at h
  simp [h.1, h.2]

set_option maxRecDepth 100000 in
set_option maxHeartbeats 4000000 in
theorem roffer_any (w : World) (bm bc : Nat) (S : Nat → Prop) (N : Nat) (x : Itk) (h : RItk w bm bc S N x) (hN : N ≤ 60000) (e : Ev) (hs : e.small) (hso : SortedE x.taken) (now : Int) :
    Calls Tryz.prog 34 #[.pointer (some ⟨bm, 0, none⟩), e.agg, .int .i64 now] w (ROfferPost w bm bc (N + 3) S (x.offer e now) (x.offered e now)) := by
  have HT1 := Lib.hid (OfM.start h e)
  have hbm : bm < w.heap.size := h.lt
  have HSM := Lib.hid hs; have HSO := Lib.hid hso
  have HOF := Lib.hid (show x.offer e now = if (x.tick now).refuses e then x.tick now else if ((x.tick now).clk.tick now).hears e.src e.at_ then ((x.tick now).hear e now).took e else ((x.tick now).hear e now).lates e from rfl)
  have HOV := Lib.hid (show x.offered e now = if (x.tick now).refuses e then (x.tick now).verdict e else if ((x.tick now).clk.tick now).hears e.src e.at_ then 0 else 2 from rfl)
  clear h hs hso
  unfold Ev.agg
  go_enter Tryz.func34, Tryz.ntmps34
  obtain ⟨vh, vt, vl, vg, hic, _, _⟩ := HT1.out.itk.cells
  obtain ⟨c0, c1, c2, c3, c4⟩ := hic
  go_wp2_with fail
  generalize w.alloc (evObj e) = w1 at *
  refine (rtick_any w1 bc S N x.clk HT1.out.itk.clk (by omega) now).mono ?_
  rintro r w2 ⟨rfl, hc2, hk2⟩
  have HT2 := Lib.hid (HT1.out.clk hc2 hk2 (fun q hq => hq) (fun q hq => .inl hq) (Nat.le_refl _))
  clear c0 c1 c2 c3 c4 hc2 hk2 HT1
  have HX2 := Lib.hid (show ({ x with clk := x.clk.tick now } : Itk) = x.tick now from rfl)
  rw [HX2.out] at HT2
  have HTK2 := Lib.hid (show (x.tick now).taken = x.taken from rfl)
  have HHR2 := Lib.hid (show (x.tick now).hear e now = { x.tick now with clk := (x.tick now).clk.hear e.src e.at_ now } from rfl)
  generalize x.tick now = x2 at *
  obtain ⟨e0, e1, e2, e3, e4, e5, e6, e7⟩ := HT2.out.ev
  go_wp2_with fail
  refine (rwrong_any w2 bm bc S N x2 HT2.out.itk (by omega) e HSM.out).mono ?_
  rintro r w3 ⟨rfl, hb3⟩
  have HT3 := Lib.hid (HT2.out.up hb3)
  clear e0 e1 e2 e3 e4 e5 e6 e7 hb3 HT2
  cases href : x2.refuses e
  · have HVZ := Lib.hid (verdict_zero href)
    have hnr := not_refused href
    have HMAY := Lib.hid hnr.1; have HHAD := Lib.hid hnr.2.2
    have HFI2 := Lib.hid (show x.offer e now = if (x2.clk.tick now).hears e.src e.at_ then (x2.hear e now).took e else (x2.hear e now).lates e by rw [HOF.out, href]; rfl)
    have HVI2 := Lib.hid (show x.offered e now = if (x2.clk.tick now).hears e.src e.at_ then 0 else 2 by rw [HOV.out, href]; rfl)
    clear href hnr HOF HOV
    rw [HVZ.out]
    obtain ⟨vh, vt, vl, vg, hic, _, _⟩ := HT3.out.itk.cells
    obtain ⟨c0, c1, c2, c3, c4⟩ := hic
    obtain ⟨e0, e1, e2, e3, e4, e5, e6, e7⟩ := HT3.out.ev
    go_wp2
    go_still_tail 9, (by kernel_rfl)
    change wpList _ _ _ _ _ (w3.drewN 1)
    have HT3d := Lib.hid (HT3.out.up (below_drewN (Below.refl w3.heap.size w3) 1))
    clear c0 c1 c2 c3 c4 e0 e1 e2 e3 e4 e5 e6 e7 HT3
    generalize w3.drewN 1 = w3d at *
    go_wp2_with fail
    refine (rhear_any w3d bc S N x2.clk HT3d.out.itk.clk (by omega) e.src HSM.out.1 e.at_ now).mono ?_
    rintro r wA ⟨rfl, S4, hc4, hk4, hS4, hS4'⟩
    have HTA := Lib.hid (HT3d.out.clk hc4 hk4 hS4' hS4 (Nat.le_succ _))
    rw [← HHR2.out] at HTA
    clear hc4 hk4 hS4 hS4' HT3d
    have HX4 := Lib.hid (show (x2.hear e now).taken = x2.taken ∧ (x2.hear e now).had = x2.had ∧ (x2.hear e now).late = x2.late from ⟨rfl, rfl, rfl⟩)
    generalize x2.hear e now = x4 at *
    have hll := HTA.out.itk.ll
    obtain ⟨vh, vt, vl, vg, hic, hp4, _⟩ := HTA.out.itk.cells
    obtain ⟨Al, cl, rfl, hel, _⟩ := hp4.late
    have HELA := Lib.hid hel
    obtain ⟨c0, c1, c2, c3, c4⟩ := hic
    have hbm4 : bm < wA.heap.size := HTA.out.itk.lt
    have hlt4 := HTA.out.lt
    clear hel hp4
    generalize (x2.clk.tick now).hears e.src e.at_ = hh at *
    cases hh
    · have HV := Lib.hid (show x.offered e now = 2 by rw [HVI2.out]; rfl)
      have HLT := Lib.hid (show x.offer e now = if idOf e ∈ x4.late.map idOf then x4 else { x4 with late := x4.late ++ [e] } by rw [HFI2.out]; rfl)
      clear HVI2 HFI2
      obtain ⟨e0, e1, e2, e3, e4, e5, e6, e7⟩ := HTA.out.ev
      go_wp2
      go_still_tail 5, (by kernel_rfl)
      change wpList _ _ _ _ _ (wA.drewN 1)
      have HTAd := Lib.hid (HTA.out.up (below_drewN (Below.refl wA.heap.size wA) 1))
      have HELd := Lib.hid (show Evs (wA.drewN 1) (wA.drewN 1).heap.size Al x4.late.length cl x4.late from Cel.drewN HELA.out 1)
      clear c0 c1 c2 c3 c4 e0 e1 e2 e3 e4 e5 e6 e7 HTA HELA hbm4 hlt4
      generalize wA.drewN 1 = wAd at *
      go_wp2_with fail
      have hszd := HTAd.out.lt
      refine (rtwin_any wAd Al x4.late.length cl x4.late HELd.out (by omega) e).mono ?_
      rintro r w4 ⟨rfl, hb4⟩
      have HT4 := Lib.hid (HTAd.out.up hb4)
      clear hb4 HTAd HELd
      have HTB := Lib.hid (show twinB x4.late e = decide (idOf e ∈ x4.late.map idOf) from rfl)
      cases htw : twinB x4.late e
      · have HFIN := Lib.hid (show x.offer e now = { x4 with late := x4.late ++ [e] } by
          rw [HLT.out, if_neg]
          intro hin; rw [HTB.out, decide_eq_true hin] at htw; cases htw)
        clear htw HTB HLT
        obtain ⟨vh, vt, vl, vg, hic, hp4, _⟩ := HT4.out.itk.cells
        obtain ⟨Al2, cl2, hvl', hel', _⟩ := hp4.late
        have HEL := Lib.hid hel'
        obtain ⟨c0, c1, c2, c3, c4⟩ := hic
        rw [hvl'] at c3
        have hbm4 : bm < w4.heap.size := HT4.out.itk.lt
        have hlt4 := HT4.out.lt
        clear hel' hp4 hvl'
        go_wp2
        have HUPW := Lib.hid (show ∀ w9, Below w4.heap.size w4 w9 → OfM w bm bc (N + 1) S S4 x4 e w9 from fun w9 h9 => HT4.out.up h9)
        have HSS4 := Lib.hid (show ∀ w9, OfM w bm bc (N + 1) S S4 x4 e w9 → (w9.cell? ⟨w.heap.size, 0, none⟩ = some (.string ⟨e.src.toArray⟩) ∧ w9.cell? ⟨w.heap.size, 1, none⟩ = some (.int .i64 e.num) ∧ w9.cell? ⟨w.heap.size, 2, none⟩ = some (.int .i64 e.at_) ∧ w9.cell? ⟨w.heap.size, 3, none⟩ = some (.int .i64 e.kind) ∧ w9.cell? ⟨w.heap.size, 4, none⟩ = some (.string ⟨e.per.toArray⟩) ∧ w9.cell? ⟨w.heap.size, 5, none⟩ = some (.string ⟨e.item.toArray⟩) ∧ w9.cell? ⟨w.heap.size, 6, none⟩ = some (.int .i64 e.val) ∧ w9.cell? ⟨w.heap.size, 7, none⟩ = some (.string ⟨e.text.toArray⟩)) from fun w9 h9 => h9.ev)
        have HSK4 := Lib.hid (show ∀ w9 v, OfM w bm bc (N + 1) S S4 x4 e w9 → ((w9.setCell ⟨bm, 3, none⟩ v).cell? ⟨w.heap.size, 0, none⟩ = some (.string ⟨e.src.toArray⟩) ∧ (w9.setCell ⟨bm, 3, none⟩ v).cell? ⟨w.heap.size, 1, none⟩ = some (.int .i64 e.num) ∧ (w9.setCell ⟨bm, 3, none⟩ v).cell? ⟨w.heap.size, 2, none⟩ = some (.int .i64 e.at_) ∧ (w9.setCell ⟨bm, 3, none⟩ v).cell? ⟨w.heap.size, 3, none⟩ = some (.int .i64 e.kind) ∧ (w9.setCell ⟨bm, 3, none⟩ v).cell? ⟨w.heap.size, 4, none⟩ = some (.string ⟨e.per.toArray⟩) ∧ (w9.setCell ⟨bm, 3, none⟩ v).cell? ⟨w.heap.size, 5, none⟩ = some (.string ⟨e.item.toArray⟩) ∧ (w9.setCell ⟨bm, 3, none⟩ v).cell? ⟨w.heap.size, 6, none⟩ = some (.int .i64 e.val) ∧ (w9.setCell ⟨bm, 3, none⟩ v).cell? ⟨w.heap.size, 7, none⟩ = some (.string ⟨e.text.toArray⟩)) from fun w9 v h9 => ev_out (keepSet w9 bm 3 v) h9.lt (by show ¬ w.heap.size = bm; omega) h9.ev)
        have HFR4 := Lib.hid (show ∀ w9, OfM w bm bc (N + 1) S S4 x4 e w9 → (∃ u, w9.cell? ⟨bm, 3, none⟩ = some u) ∧ w9.frozen? ⟨bm, 3, none⟩ = false from fun w9 h9 => by
          obtain ⟨vh, vt3, vl3, vg3, hic, _, hfz⟩ := h9.itk.cells
          exact ⟨⟨_, hic.c3⟩, hfz 3⟩)
        have HWA := Lib.hid (show Below w4.heap.size w4 ((w4.alloc (.cells #[] 28)).drew) from below_drew ((Below.refl _ _).alloc (Nat.le_refl _) _))
        have HWB := Lib.hid (show Below w4.heap.size w4 (((w4.alloc (.cells #[] 28)).alloc (evObj e)).drew) from below_drew (((Below.refl _ _).alloc (Nat.le_refl _) _).alloc (by simp) _))
        have HWC := Lib.hid (show Below w4.heap.size w4 (((w4.alloc (evObj e)).alloc (.cells #[] 28)).drew) from below_drew (((Below.refl _ _).alloc (Nat.le_refl _) _).alloc (by simp) _))
        have HSL := Lib.hid (show ∀ W, Below w4.heap.size w4 W → Cel W w4.heap.size 8 Al2 x4.late.length cl2 (evCells x4.late) from fun W hW => Cel.below HEL.out hW)
        have HOA := Lib.hid (show ((w4.alloc (.cells #[] 28)).drew).ownsRow w4.heap.size 28 8 (.slice (some ⟨w4.heap.size, 0, none⟩) 0 0) 0 [] from World.ownsRow_lit w4 #[] 0 (Nat.le_refl _) (by simp [maxLen]) rfl)
        have HOB := Lib.hid (show (((w4.alloc (.cells #[] 28)).alloc (evObj e)).drew).ownsRow w4.heap.size 28 8 (.slice (some ⟨w4.heap.size, 0, none⟩) 0 0) 0 [] from World.ownsRow.alloc HOA.out _)
        have HOC := Lib.hid (show (((w4.alloc (evObj e)).alloc (.cells #[] 28)).drew).ownsRow w4.heap.size 28 8 (.slice (some ⟨w4.heap.size + 1, 0, none⟩) 0 0) 0 [] from by
          have := World.ownsRow_lit (w4.alloc (evObj e)) (base := w4.heap.size) (e := 28) (size := 8) #[] 0 (by first | omega | (simp; done) | (simp; omega)) (by simp [maxLen]) rfl
          rw [show (w4.alloc (evObj e)).heap.size = w4.heap.size + 1 by simp] at this
          exact this)
        have HNB := Lib.hid (show Cel (((w4.alloc (.cells #[] 28)).alloc (evObj e)).drew) (w4.heap.size + 1 + 1) 8 (some ⟨w4.heap.size + 1, 0, none⟩) 1 1 e.cells from by
          have := Cel.new (size := 8) (n := 1) (w4.alloc (.cells #[] 28)) e.cells.toArray 28 (by unfold maxLen; omega) rfl
          rw [show (w4.alloc (.cells #[] 28)).heap.size = w4.heap.size + 1 by simp] at this
          exact Cel.drewN this 1)
        have HNC := Lib.hid (show Cel (((w4.alloc (evObj e)).alloc (.cells #[] 28)).drew) (w4.heap.size + 1) 8 (some ⟨w4.heap.size, 0, none⟩) 1 1 e.cells from by
          have := Cel.new (size := 8) (n := 1) w4 e.cells.toArray 28 (by unfold maxLen; omega) rfl
          exact Cel.drewN (Cel.alloc this (by simp) _) 1)
        obtain ⟨i0, hi, hz0, hz1, hz2⟩ := info_parts ev_info
        have HI := Lib.hid hi; have HZ0 := Lib.hid hz0; have HZ1 := Lib.hid hz1; have HZ2 := Lib.hid hz2
        clear hi hz0 hz1 hz2
        obtain ⟨e0, e1, e2, e3, e4, e5, e6, e7⟩ := HSS4.out w4 HT4.out
        have hEV4 := HSS4.out w4 HT4.out
        go_region_law (first
          | (refine step_app rfl (.tmp 39) (.tmp 43) 22 rfl 28 i0 _ 8 96 Tryz.underlying22 HI.out HZ0.out HZ1.out HZ2.out rfl (by decide) w4.heap.size (.slice (some ⟨w4.heap.size, 0, none⟩) 0 0) 0 [] rfl HOA.out w4.heap.size _ _ _ (evCells x4.late) rfl (HSL.out _ HWA.out) (cells_ones _) (by unfold maxLen; omega) (by omega) (by first | omega | (simp; done) | (simp; omega)) ?_; intro v6 w6 ho6 hg6 hv6; have HO6 := Lib.hid ho6; have HB6 := Lib.hid (show Below w4.heap.size w4 w6 from Below.grown HWA.out hg6 HWA.out.size (fun k hk => by simp [Value.ownBlock] at hk; omega)); have hS6 := HSS4.out w6 (HUPW.out _ HB6.out); have HP6 := Lib.hid (show ∀ k, v6.ownBlock = some k → w4.heap.size ≤ k from fun k hk => by rcases hv6 with h | h <;> (rw [h] at hk; simp [Value.ownBlock] at hk; omega)); clear ho6 hg6 hv6)
          | (refine step_app rfl (.tmp 39) (.tmp 43) 22 rfl 28 i0 _ 8 96 Tryz.underlying22 HI.out HZ0.out HZ1.out HZ2.out rfl (by decide) w4.heap.size (.slice (some ⟨w4.heap.size, 0, none⟩) 0 0) 0 [] rfl HOB.out w4.heap.size _ _ _ (evCells x4.late) rfl (HSL.out _ HWB.out) (cells_ones _) (by unfold maxLen; omega) (by omega) (by first | omega | (simp; done) | (simp; omega)) ?_; intro v6 w6 ho6 hg6 hv6; have HO6 := Lib.hid ho6; have HB6 := Lib.hid (show Below w4.heap.size w4 w6 from Below.grown HWB.out hg6 HWB.out.size (fun k hk => by simp [Value.ownBlock] at hk; omega)); have hS6 := HSS4.out w6 (HUPW.out _ HB6.out); have HN6 := Lib.hid (show Cel w6 (w4.heap.size + 1 + 1) 8 (some ⟨w4.heap.size + 1, 0, none⟩) 1 1 e.cells from Cel.stay (S := fun q => q = w4.heap.size + 1) HNB.out (fun a ha _ => by injection ha with ha; rw [← ha]) (by first | omega | (simp; done)) (fun b off hb _ => hg6.cell_far ⟨b, off, none⟩ (by first | omega | (simp; done) | (simp; omega)) (by simp [Value.ownBlock]; omega))); have HP6 := Lib.hid (show ∀ k, v6.ownBlock = some k → w4.heap.size ≤ k from fun k hk => by rcases hv6 with h | h <;> (rw [h] at hk; simp [Value.ownBlock] at hk; omega)); clear ho6 hg6 hv6)
          | (refine step_app rfl (.tmp 39) (.tmp 43) 22 rfl 28 i0 _ 8 96 Tryz.underlying22 HI.out HZ0.out HZ1.out HZ2.out rfl (by decide) w4.heap.size (.slice (some ⟨w4.heap.size + 1, 0, none⟩) 0 0) 0 [] rfl HOC.out w4.heap.size _ _ _ (evCells x4.late) rfl (HSL.out _ HWC.out) (cells_ones _) (by unfold maxLen; omega) (by omega) (by first | omega | (simp; done) | (simp; omega)) ?_; intro v6 w6 ho6 hg6 hv6; have HO6 := Lib.hid ho6; have HB6 := Lib.hid (show Below w4.heap.size w4 w6 from Below.grown HWC.out hg6 HWC.out.size (fun k hk => by simp [Value.ownBlock] at hk; omega)); have hS6 := HSS4.out w6 (HUPW.out _ HB6.out); have HN6 := Lib.hid (show Cel w6 (w4.heap.size + 1) 8 (some ⟨w4.heap.size, 0, none⟩) 1 1 e.cells from Cel.stay (S := fun q => q = w4.heap.size) HNC.out (fun a ha _ => by injection ha with ha; rw [← ha]) (by first | omega | (simp; done)) (fun b off hb _ => hg6.cell_far ⟨b, off, none⟩ (by first | omega | (simp; done) | (simp; omega)) (by simp [Value.ownBlock]; omega))); have HP6 := Lib.hid (show ∀ k, v6.ownBlock = some k → w4.heap.size ≤ k from fun k hk => by rcases hv6 with h | h <;> (rw [h] at hk; simp [Value.ownBlock] at hk; omega)); clear ho6 hg6 hv6)
          | (refine step_app rfl (.tmp 44) (.tmp 46) 22 rfl 28 i0 _ 8 96 Tryz.underlying22 HI.out HZ0.out HZ1.out HZ2.out rfl (by decide) w4.heap.size v6 (0 + x4.late.length) ([] ++ evCells x4.late) rfl HO6.out _ _ _ _ e.cells rfl HN6.out (cells_one e) (by unfold maxLen; omega) (by omega) (by have := HB6.out.size; omega) ?_; intro v7 w7 ho7 hg7 hv7; have HB7 := Lib.hid (show Below w4.heap.size w4 w7 from Below.grown HB6.out hg7 (by have := HB6.out.size; first | omega | (simp; omega)) (fun k hk => HP6.out k hk)); obtain ⟨B7, c7, rfl⟩ := ownsRow_form ho7; have HO7 := Lib.hid ho7; have hT8 := HUPW.out _ HB7.out; have hS7 := HSS4.out w7 hT8; obtain ⟨⟨u8, d2⟩, d2f⟩ := HFR4.out _ hT8; clear ho7 hg7 hv7)
          | (refine step_app rfl (.tmp 44) (.tmp 46) 22 rfl 28 i0 _ 8 96 Tryz.underlying22 HI.out HZ0.out HZ1.out HZ2.out rfl (by decide) w4.heap.size v6 (0 + x4.late.length) ([] ++ evCells x4.late) rfl (World.ownsRow.alloc HO6.out _) (w6.heap.size + 1) _ _ _ e.cells rfl (Cel.new (size := 8) (n := 1) w6 e.cells.toArray _ (by unfold maxLen; omega) rfl) (cells_one e) (by unfold maxLen; omega) (by omega) (by have := HB6.out.size; simp; omega) ?_; intro v7 w7 ho7 hg7 hv7; have HB7 := Lib.hid (show Below w4.heap.size w4 w7 from Below.grown (HB6.out.alloc HB6.out.size _) hg7 (by have := HB6.out.size; first | omega | (simp; omega)) (fun k hk => HP6.out k hk)); obtain ⟨B7, c7, rfl⟩ := ownsRow_form ho7; have HO7 := Lib.hid ho7; have hT8 := HUPW.out _ HB7.out; have hS7 := HSS4.out w7 hT8; obtain ⟨⟨u8, d2⟩, d2f⟩ := HFR4.out _ hT8; clear ho7 hg7 hv7))
        all_goals
          have HO8 := Lib.hid (show OwnE w7 w4.heap.size (.slice B7 (x4.late ++ [e]).length c7) (x4.late ++ [e]) from by
            have h9 := HO7.out
            unfold OwnE
            rw [evCells_one, show (x4.late ++ [e]).length = 0 + x4.late.length + 1 by simp]
            exact h9)
          have HT9 := Lib.hid (HT4.out.set (o := 3) HB7.out ((HT4.out.itk.newer HB7.out (Nat.le_succ _)).lateSet (es := x4.late ++ [e]) (Cel.of_own HO8.out) (own_new HO8.out (Nat.le_refl _)) (by simp; omega)))
          have HD := Lib.hid (show RDeeds w bm bc (N + 3) S (x.offer e now) (w7.setCell ⟨bm, 3, none⟩ (.slice B7 (x4.late.length + 1) c7)) from by
            rw [HFIN.out]
            have := HT9.out.deeds.more (by omega : N + 1 + 1 ≤ N + 3)
            simpa using this)
          clear c0 c1 c2 c3 c4 e0 e1 e2 e3 e4 e5 e6 e7 hEV4 hT8 hS7 d2 d2f
          go_wp2
          go_ret
          exact ⟨ret_int HV.out.symm, HD.out⟩
      · have HFIN := Lib.hid (show x.offer e now = x4 by
          rw [HLT.out, if_pos]
          rw [HTB.out] at htw; exact of_decide_eq_true htw)
        have HD := Lib.hid (show RDeeds w bm bc (N + 3) S (x.offer e now) w4 by rw [HFIN.out]; exact HT4.out.deeds.more (by omega))
        clear htw HTB HLT
        go_wp2
        go_ret
        exact ⟨ret_int HV.out.symm, HD.out⟩
    · have HV := Lib.hid (show x.offered e now = 0 by rw [HVI2.out]; rfl)
      have HFIN := Lib.hid (show x.offer e now = x4.took e by rw [HFI2.out]; rfl)
      clear HVI2 HFI2 c0 c1 c2 c3 c4
      obtain ⟨e0, e1, e2, e3, e4, e5, e6, e7⟩ := HTA.out.ev
      go_wp2_with fail
      refine (rtake_any wA bm bc S4 (N + 1) x4 HTA.out.itk (by omega) e HSM.out HMAY.out (by rw [HX4.out.2.1]; exact HHAD.out) (by rw [HX4.out.1, HTK2.out]; exact HSO.out)).mono ?_
      rintro r w5 ⟨rfl, hd5⟩
      have HD := Lib.hid (show RDeeds w bm bc (N + 3) S (x.offer e now) w5 by rw [HFIN.out]; exact HTA.out.then_ hd5)
      clear hd5 e0 e1 e2 e3 e4 e5 e6 e7
      go_wp2
      go_ret
      exact ⟨ret_int HV.out.symm, HD.out⟩
  · have hvp := verdict_pos href
    have HR := Lib.hid (show x.offer e now = x2 by rw [HOF.out, href]; rfl)
    have HV := Lib.hid (show x.offered e now = x2.verdict e by rw [HOV.out, href]; rfl)
    have HD := Lib.hid (show RDeeds w bm bc (N + 3) S (x.offer e now) w3 by rw [HR.out]; exact HT3.out.deeds.more (by omega))
    clear href
    generalize x2.verdict e = vd at *
    go_wp2
    go_ret
    exact ⟨ret_int HV.out.symm, HD.out⟩
end Go.Proofs.YtoljbbmjbgepiaaGreatDoor
namespace Go.Proofs.YtoljbbmjbgepiaaGreatDoor
open Go.RowKit Go.Maps Go.Sort

set_option maxRecDepth 100000 in
set_option maxHeartbeats 4000000 in
theorem radmit_any (w : World) (bm bc : Nat) (S : Nat → Prop) (N : Nat) (x : Itk) (h : RItk w bm bc S N x) (hN : N ≤ 60000) (e : Ev) (hs : e.small) (hso : SortedE x.taken) :
    Calls Tryz.prog 105 #[.pointer (some ⟨bm, 0, none⟩), e.agg] w (ROfferPost w bm bc (N + 3) S (x.admits e) (x.admitted e)) := by
  have HT1 := Lib.hid (OfM.start h e)
  have hbm : bm < w.heap.size := h.lt
  have HSM := Lib.hid hs; have HSO := Lib.hid hso
  have HOF := Lib.hid (show x.admits e = if x.refuses e then x else (x.hear e x.clk.now).took e from rfl)
  have HOV := Lib.hid (show x.admitted e = if x.refuses e then x.verdict e else 0 from rfl)
  have HHR2 := Lib.hid (show x.hear e x.clk.now = { x with clk := x.clk.hear e.src e.at_ x.clk.now } from rfl)
  clear h hs hso
  unfold Ev.agg
  go_enter Tryz.func105, Tryz.ntmps105
  obtain ⟨e0, e1, e2, e3, e4, e5, e6, e7⟩ := HT1.out.ev
  go_wp2_with fail
  generalize w.alloc (evObj e) = w2 at *
  refine (rwrong_any w2 bm bc S N x HT1.out.itk (by omega) e HSM.out).mono ?_
  rintro r w3 ⟨rfl, hb3⟩
  have HT3 := Lib.hid (HT1.out.up hb3)
  clear e0 e1 e2 e3 e4 e5 e6 e7 hb3 HT1
  cases href : x.refuses e
  · have HVZ := Lib.hid (verdict_zero href)
    have hnr := not_refused href
    have HMAY := Lib.hid hnr.1; have HHAD := Lib.hid hnr.2.2
    have HFIN := Lib.hid (show x.admits e = (x.hear e x.clk.now).took e by rw [HOF.out, href]; rfl)
    have HV := Lib.hid (show x.admitted e = 0 by rw [HOV.out, href]; rfl)
    clear href hnr HOF HOV
    rw [HVZ.out]
    obtain ⟨vh, vt, vl, vg, hic, _, _⟩ := HT3.out.itk.cells
    obtain ⟨c0, c1, c2, c3, c4⟩ := hic
    obtain ⟨e0, e1, e2, e3, e4, e5, e6, e7⟩ := HT3.out.ev
    obtain ⟨A6, n6, cp6, hblk6, _, _⟩ := HT3.out.itk.clk.view
    have k2 := (RCells.of hblk6).c2
    clear hblk6
    go_wp2
    go_still_tail 15, (by kernel_rfl)
    change wpList _ _ _ _ _ (w3.drewN 1)
    have HT3d := Lib.hid (HT3.out.up (below_drewN (Below.refl w3.heap.size w3) 1))
    clear c0 c1 c2 c3 c4 e0 e1 e2 e3 e4 e5 e6 e7 k2 HT3
    generalize w3.drewN 1 = w3d at *
    go_wp2_with fail
    refine (rhear_any w3d bc S N x.clk HT3d.out.itk.clk (by omega) e.src HSM.out.1 e.at_ x.clk.now).mono ?_
    rintro r w4 ⟨rfl, S4, hc4, hk4, hS4, hS4'⟩
    have HT4 := Lib.hid (HT3d.out.clk hc4 hk4 hS4' hS4 (Nat.le_succ _))
    rw [← HHR2.out] at HT4
    clear hc4 hk4 hS4 hS4' HT3d
    have HX4 := Lib.hid (show (x.hear e x.clk.now).taken = x.taken ∧ (x.hear e x.clk.now).had = x.had from ⟨rfl, rfl⟩)
    generalize x.hear e x.clk.now = x4 at *
    generalize (x.clk.tick x.clk.now).hears e.src e.at_ = hh at *
    obtain ⟨e0, e1, e2, e3, e4, e5, e6, e7⟩ := HT4.out.ev
    go_wp2_with fail
    refine (rtake_any w4 bm bc S4 (N + 1) x4 HT4.out.itk (by omega) e HSM.out HMAY.out (by rw [HX4.out.2]; exact HHAD.out) (by rw [HX4.out.1]; exact HSO.out)).mono ?_
    rintro r w5 ⟨rfl, hd5⟩
    have HD := Lib.hid (show RDeeds w bm bc (N + 3) S (x.admits e) w5 by rw [HFIN.out]; exact HT4.out.then_ hd5)
    clear hd5 e0 e1 e2 e3 e4 e5 e6 e7
    go_wp2
    go_ret
    exact ⟨ret_int HV.out.symm, HD.out⟩
  · have hvp := verdict_pos href
    have HR := Lib.hid (show x.admits e = x by rw [HOF.out, href]; rfl)
    have HV := Lib.hid (show x.admitted e = x.verdict e by rw [HOV.out, href]; rfl)
    have HD := Lib.hid (show RDeeds w bm bc (N + 3) S (x.admits e) w3 by rw [HR.out]; exact HT3.out.deeds.more (by omega))
    clear href
    generalize x.verdict e = vd at *
    go_wp2
    go_ret
    exact ⟨ret_int HV.out.symm, HD.out⟩

/-- not that person's -/
def offB (p : List UInt8) (e : Ev) : Bool := e.per != p
/-- two rows of the call's own -/
structure Two (w : World) (l m : List Ev) (v u : Value) (wr : World) : Prop where
  one : OwnE wr w.heap.size v l
  two : OwnE wr w.heap.size u m
  ne : v.ownBlock ≠ u.ownBlock
  bel : Below w.heap.size w wr
theorem Two.left {w wr w2 : World} {l m l' : List Ev} {v u v' : Value} (h : Two w l m v u wr) (y : Ev) (ho : OwnE w2 w.heap.size v' l') (hg : (wr.alloc (evObj y)).grownBy w2 v.ownBlock) (hv : v'.ownBlock = v.ownBlock ∨ v'.ownBlock = some (wr.heap.size + 1)) : Two w l' m v' u w2 := by
  have hs := h.bel.size
  refine ⟨ho, World.ownsRow.kept (World.ownsRow.alloc h.two _) hg (.inr (Ne.symm h.ne)), ?_, Below.grown (h.bel.alloc hs _) hg (by simp; omega) (fun k hk => (World.ownsRow.lt h.one k hk).1)⟩
  rcases hv with e | e
  · rw [e]; exact h.ne
  · intro e'
    have := (World.ownsRow.lt h.two _ (e'.symm.trans e)).2
    try simp at this
    omega
theorem Two.swap {w wr : World} {l m : List Ev} {v u : Value} (h : Two w l m v u wr) : Two w m l u v wr := ⟨h.two, h.one, Ne.symm h.ne, h.bel⟩
def TwRel1 (w : World) (es : List Ev) (p : Ev → Bool) (u v i : Value) (wr : World) : Prop := ∃ k : Nat, i = .int .i64 k ∧ k ≤ es.length ∧ Two w ((es.take k).filter p) [] v u wr
def TwRel2 (w : World) (es l : List Ev) (p : Ev → Bool) (v u i : Value) (wr : World) : Prop := ∃ k : Nat, i = .int .i64 k ∧ k ≤ es.length ∧ Two w l ((es.take k).filter p) v u wr
def RDropPost (w : World) (bm bc N : Nat) (S : Nat → Prop) (x : Itk) (p : Ev → Bool) (r : Ending) (w' : World) : Prop := r = .returned (.int .i64 (dropN x p)) ∧ RDeeds w bm bc N S (x.drop p) w'

set_option maxRecDepth 100000 in
set_option maxHeartbeats 4000000 in
theorem rdrop_any (w : World) (bm bc : Nat) (S : Nat → Prop) (N : Nat) (x : Itk) (h : RItk w bm bc S N x) (hN : N ≤ 80000) (p : List UInt8) :
    Calls Tryz.prog 108 #[.pointer (some ⟨bm, 0, none⟩), .string ⟨p.toArray⟩] w (RDropPost w bm bc N S x (offB p)) := by
  have HH := Lib.hid h
  have hbm : bm < w.heap.size := h.lt
  have htl := h.tl; have hll := h.ll
  obtain ⟨vh, vt, vl, vg, hic, hp4, _⟩ := h.cells
  obtain ⟨At, ct, rfl, het, _⟩ := hp4.taken
  obtain ⟨Al, cl, rfl, hel, _⟩ := hp4.late
  have HET := Lib.hid het; have HEL := Lib.hid hel
  obtain ⟨c0, c1, c2, c3, c4⟩ := hic
  have HC2 := Lib.hid c2; have HC3 := Lib.hid c3
  clear het hel hp4 h
  have HDN := Lib.hid (show dropN x (offB p) = x.taken.length + x.late.length - (x.taken.filter (offB p)).length - (x.late.filter (offB p)).length from rfl)
  have HDR := Lib.hid (show x.drop (offB p) = { ({ x with taken := x.taken.filter (offB p) } : Itk) with late := x.late.filter (offB p) } from rfl)
  have hf1 := List.length_filter_le (offB p) x.taken
  have hf2 := List.length_filter_le (offB p) x.late
  obtain ⟨i0, hi, hz0, hz1, hz2⟩ := info_parts ev_info
  have HI := Lib.hid hi; have HZ0 := Lib.hid hz0; have HZ1 := Lib.hid hz1; have HZ2 := Lib.hid hz2
  clear hi hz0 hz1 hz2
  go_enter Tryz.func108, Tryz.ntmps108
  go_wp2
  go_quiet (fail)
  clear c0 c1 c2 c3 c4
  have HSTART := Lib.hid (show TwRel1 w x.taken (offB p) (.slice (some ⟨w.heap.size + 1, 0, none⟩) 0 0) (.slice (some ⟨w.heap.size, 0, none⟩) 0 0) (.int .i64 ((0 : Nat) : Int)) (((w.drewN nq).alloc (.cells #[] 28)).alloc (.cells #[] 28)) from ⟨0, rfl, Nat.zero_le _, by
    have h1 : OwnE ((w.drewN nq).alloc (.cells #[] 28)) w.heap.size (.slice (some ⟨w.heap.size, 0, none⟩) 0 0) [] := World.ownsRow_lit (w.drewN nq) #[] 0 (Nat.le_refl _) (by simp [maxLen]) rfl
    have h2 := World.ownsRow_lit ((w.drewN nq).alloc (.cells #[] 28)) (base := w.heap.size) (e := 28) (size := 8) #[] 0 (by simp) (by simp [maxLen]) rfl
    rw [show ((w.drewN nq).alloc (.cells #[] 28)).heap.size = w.heap.size + 1 by simp] at h2
    exact ⟨World.ownsRow.alloc h1 _, h2, by simp [Value.ownBlock], ((below_drewN (Below.refl _ _) nq).alloc (Nat.le_refl _) _).alloc (by simp) _⟩⟩)
  go_wp2
  go_loopw [6, 8] (fun v i wr => TwRel1 w x.taken (offB p) (.slice (some ⟨w.heap.size + 1, 0, none⟩) 0 0) v i wr) (fun _ i _ => x.taken.length - (intOf i).toNat)
  case atStart => exact HSTART.out
  case round =>
    obtain ⟨k, rfl, hk, htwo⟩ := hrel
    have HTW := Lib.hid htwo
    have hbel := htwo.bel
    have hs0 := hbel.size
    clear htwo
    have c2r : wr.cell? ⟨bm, 2, none⟩ = _ := (hbel.cell (p := ⟨bm, 2, none⟩) (by show bm < _; omega)).trans HC2.out
    by_cases hkn : k < x.taken.length
    · obtain ⟨b, off, rfl, hb, hev⟩ := HET.out.ev k hkn
      obtain ⟨e0, e1, e2, e3, e4, e5, e6, e7⟩ := hev.below hbel hb
      clear hev
      have HTK := Lib.hid (wfilt_take x.taken (offB p) k hkn)
      have hlen : ((x.taken.take k).filter (offB p)).length ≤ k := by
        have := List.length_filter_le (offB p) (x.taken.take k); rw [List.length_take] at this; omega
      generalize x.taken[k] = y at *
      have t1 : (k : Int) < x.taken.length := by omega
      rcases Bool.eq_false_or_eq_true (y.per == p) with hp | hp
      · have b1 : (y.per != p) = false := by simp [bne, hp]
        have HT : Hid ((x.taken.take (k + 1)).filter (offB p) = (x.taken.take k).filter (offB p)) := by have := HTK.out; rw [show offB p y = false from b1] at this; unfold Hid; simpa using this
        have HR := Lib.hid (show TwRel1 w x.taken (offB p) (.slice (some ⟨w.heap.size + 1, 0, none⟩) 0 0) u6 (.int .i64 ((k + 1 : Nat) : Int)) wr from ⟨k + 1, rfl, by omega, by rw [HT.out]; exact HTW.out⟩)
        clear HTK HT
        go_wp2
        go_roundw
        case rel => exact HR.out
        case measure => simp [intOf]; omega
      · have b1 : (y.per != p) = true := by simp [bne, hp]
        have HT : Hid ((x.taken.take (k + 1)).filter (offB p) = (x.taken.take k).filter (offB p) ++ [y]) := by have := HTK.out; rw [show offB p y = true from b1] at this; unfold Hid; simpa using this
        clear HTK
        generalize (x.taken.take k).filter (offB p) = out at *
        go_wp2_with (at_builtin; refine wpList_app (P := Tryz.prog) rfl (.tmp 42) (.tmp 50) 22 rfl 28 i0 _ 8 96 Tryz.underlying22 HI.out HZ0.out HZ1.out HZ2.out rfl (by decide) w.heap.size _ out.length (evCells out) rfl ?c1 (wr.heap.size + 1) _ _ _ y.cells rfl ?c2 (cells_one y) ?c4 ?c5 ?c6 ?_)
        case c1 => exact World.ownsRow.alloc HTW.out.one _
        case c2 => exact Cel.new wr _ _ (by unfold maxLen; omega) rfl
        case c4 => unfold maxLen; omega
        case c5 => omega
        case c6 => first | omega | (simp; omega)
        intro v' w2 hown2 hg2 hvv
        have hown3 : OwnE w2 w.heap.size v' (out ++ [y]) := by unfold OwnE; rw [evCells_one, List.length_append]; exact hown2
        have htw2 := HTW.out.left y hown3 hg2 hvv
        have HR := Lib.hid (show TwRel1 w x.taken (offB p) (.slice (some ⟨w.heap.size + 1, 0, none⟩) 0 0) v' (.int .i64 ((k + 1 : Nat) : Int)) w2 from ⟨k + 1, rfl, by omega, by rw [HT.out]; exact htw2⟩)
        clear hown2 hown3 hg2 hvv htw2 e0 e1 e2 e3 e4 e5 e6 e7 c2r
        go_wp2
        go_roundw
        case rel => exact HR.out
        case measure => simp [intOf]; omega
    · have t1 : ¬ (k : Int) < x.taken.length := by omega
      have HKK := Lib.hid (show x.taken.take k = x.taken from List.take_of_length_le (by omega))
      rw [HKK.out] at HTW
      have HST2 := Lib.hid (show TwRel2 w x.late (x.taken.filter (offB p)) (offB p) u6 (.slice (some ⟨w.heap.size + 1, 0, none⟩) 0 0) (.int .i64 ((0 : Nat) : Int)) wr from ⟨0, rfl, Nat.zero_le _, HTW.out⟩)
      clear HTW
      go_wp2
      go_loopw [7, 9] (fun v i wr => TwRel2 w x.late (x.taken.filter (offB p)) (offB p) u6 v i wr) (fun _ i _ => x.late.length - (intOf i).toNat)
      case atStart => exact HST2.out
      case round =>
        obtain ⟨k, rfl, hk, htwo⟩ := hrel
        have HTW := Lib.hid htwo
        have hbel := htwo.bel
        have hs0 := hbel.size
        clear htwo
        have c3r : wr.cell? ⟨bm, 3, none⟩ = _ := (hbel.cell (p := ⟨bm, 3, none⟩) (by show bm < _; omega)).trans HC3.out
        by_cases hkn : k < x.late.length
        · obtain ⟨b, off, rfl, hb, hev⟩ := HEL.out.ev k hkn
          obtain ⟨e0, e1, e2, e3, e4, e5, e6, e7⟩ := hev.below hbel hb
          clear hev
          have HTK := Lib.hid (wfilt_take x.late (offB p) k hkn)
          have hlen : ((x.late.take k).filter (offB p)).length ≤ k := by
            have := List.length_filter_le (offB p) (x.late.take k); rw [List.length_take] at this; omega
          generalize x.late[k] = y at *
          have t1 : (k : Int) < x.late.length := by omega
          rcases Bool.eq_false_or_eq_true (y.per == p) with hp | hp
          · have b1 : (y.per != p) = false := by simp [bne, hp]
            have HT : Hid ((x.late.take (k + 1)).filter (offB p) = (x.late.take k).filter (offB p)) := by have := HTK.out; rw [show offB p y = false from b1] at this; unfold Hid; simpa using this
            have HR := Lib.hid (show TwRel2 w x.late (x.taken.filter (offB p)) (offB p) u6 u7 (.int .i64 ((k + 1 : Nat) : Int)) wr from ⟨k + 1, rfl, by omega, by rw [HT.out]; exact HTW.out⟩)
            clear HTK HT
            go_wp2
            go_roundw
            case rel => exact HR.out
            case measure => simp [intOf]; omega
          · have b1 : (y.per != p) = true := by simp [bne, hp]
            have HT : Hid ((x.late.take (k + 1)).filter (offB p) = (x.late.take k).filter (offB p) ++ [y]) := by have := HTK.out; rw [show offB p y = true from b1] at this; unfold Hid; simpa using this
            clear HTK
            generalize (x.late.take k).filter (offB p) = out at *
            go_wp2_with (at_builtin; refine wpList_app (P := Tryz.prog) rfl (.tmp 71) (.tmp 79) 22 rfl 28 i0 _ 8 96 Tryz.underlying22 HI.out HZ0.out HZ1.out HZ2.out rfl (by decide) w.heap.size _ out.length (evCells out) rfl ?c1 (wr.heap.size + 1) _ _ _ y.cells rfl ?c2 (cells_one y) ?c4 ?c5 ?c6 ?_)
            case c1 => exact World.ownsRow.alloc HTW.out.swap.one _
            case c2 => exact Cel.new wr _ _ (by unfold maxLen; omega) rfl
            case c4 => unfold maxLen; omega
            case c5 => omega
            case c6 => first | omega | (simp; omega)
            intro v' w2 hown2 hg2 hvv
            have hown3 : OwnE w2 w.heap.size v' (out ++ [y]) := by unfold OwnE; rw [evCells_one, List.length_append]; exact hown2
            have htw2 := HTW.out.swap.left y hown3 hg2 hvv
            have HR := Lib.hid (show TwRel2 w x.late (x.taken.filter (offB p)) (offB p) u6 v' (.int .i64 ((k + 1 : Nat) : Int)) w2 from ⟨k + 1, rfl, by omega, by rw [HT.out]; exact htw2.swap⟩)
            clear hown2 hown3 hg2 hvv htw2 e0 e1 e2 e3 e4 e5 e6 e7 c3r
            go_wp2
            go_roundw
            case rel => exact HR.out
            case measure => simp [intOf]; omega
        · have t1 : ¬ (k : Int) < x.late.length := by omega
          have HKK := Lib.hid (show x.late.take k = x.late from List.take_of_length_le (by omega))
          rw [HKK.out] at HTW
          have hone := HTW.out.one; have htwo := HTW.out.two
          obtain ⟨B6, k6, hv6, _⟩ := hone.form
          obtain ⟨B7, k7, hv7, _⟩ := htwo.form
          subst hv6; subst hv7
          obtain ⟨vh9, vt9, vl9, vg9, hic9, _, hfz9⟩ := (HH.out.up hbel).cells
          have d2 := hic9.c2; have d3 := hic9.c3; have f2 := hfz9 2; have f3 := hfz9 3
          have HFI := Lib.hid (show RDeeds w bm bc N S (x.drop (offB p)) ((wr.setCell ⟨bm, 2, none⟩ (.slice B6 (x.taken.filter (offB p)).length k6)).setCell ⟨bm, 3, none⟩ (.slice B7 (x.late.filter (offB p)).length k7)) from by
            have hI := HH.out.newer hbel (Nat.le_refl N)
            have h1 := hI.takenSet (Cel.of_own hone) (own_new hone (Nat.le_refl _)) (by omega)
            have hK := keepSet wr bm 2 (.slice B6 (x.taken.filter (offB p)).length k6)
            have h2 := h1.lateSet (Evs.at_stay (Cel.of_own htwo) (own_new (S := S) htwo (Nat.le_refl _)) hK (fun b e => by rw [e]; exact hI.ns)) (own_new htwo (Nat.le_refl _)) (by omega)
            rw [HDR.out]
            refine ⟨_, h2, ((Keep.of_below (F := fun b => b = bm ∨ b = bc) hbel).trans hK (fun _ _ h => .inl h)).trans (keepSet _ bm 3 _) (fun _ _ h => .inl h), fun q hq => ?_⟩
            rcases hq with hq | hq
            · exact .inl hq
            · exact .inr hq.1)
          clear hone htwo HTW hic9 hfz9
          go_wp2
          go_ret
          exact ⟨ret_int HDN.out.symm, HFI.out⟩
end Go.Proofs.YtoljbbmjbgepiaaGreatDoor
