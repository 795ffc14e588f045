/-
  Layer 8, the document's: take.
-/
import Derived.Test.YtoljbbmjbgepiaaGreatDoorMRItk6
import Derived.Test.YtoljbbmjbgepiaaGreatDoorMItkOffer
import Derived.Deep.RegionHeld3
import Derived.Deep.DeepCutAuto
namespace Go.Proofs.YtoljbbmjbgepiaaGreatDoor
open Go.RowKit Go.Maps Go.Sort

/-- on the way through take: the intake, the event in its box -/
structure TkM (w : World) (bm bc N : Nat) (S S4 : Nat → Prop) (x : Itk) (e : Ev) (w4 : World) : Prop where
  itk : RItk w4 bm bc S4 N x
  keep : Keep (· = bm) w w4
  new : ∀ q, S4 q → S q ∨ w.heap.size < q
  ev : EvIn w4 w.heap.size e
  lt : w.heap.size < w4.heap.size
  bmlt : bm < w.heap.size
theorem TkM.start {w : World} {bm bc N : Nat} {S : Nat → Prop} {x : Itk} (h : RItk w bm bc S N x) (e : Ev) : TkM w bm bc N S S x e (w.alloc (evObj e)) :=
  ⟨h.up ((Below.refl _ _).alloc (Nat.le_refl _) _), Keep.of_below ((Below.refl _ _).alloc (Nat.le_refl _) _), fun q hq => .inl hq, EvIn.new w e, by simp, h.lt⟩
theorem TkM.up {w w4 w5 : World} {bm bc N : Nat} {S S4 : Nat → Prop} {x : Itk} {e : Ev} (h : TkM w bm bc N S S4 x e w4) (hb : Below w4.heap.size w4 w5) : TkM w bm bc N S S4 x e w5 :=
  ⟨h.itk.up hb, h.keep.trans (G := fun _ => False) (Keep.of_below hb) (fun _ _ h => h.elim), h.new, h.ev.below hb h.lt, Nat.lt_of_lt_of_le h.lt hb.size, h.bmlt⟩
theorem TkM.set {w w4 w5 : World} {bm bc N M : Nat} {S S4 : Nat → Prop} {x x' : Itk} {e : Ev} (h : TkM w bm bc N S S4 x e w4) (hb : Below w4.heap.size w4 w5) {o : Nat} {v : Value} (hi : RItk (w5.setCell ⟨bm, o, none⟩ v) bm bc (Newer S4 w4 w5) M x') :
    TkM w bm bc M S (Newer S4 w4 w5) x' e (w5.setCell ⟨bm, o, none⟩ v) := by
  have h5 := h.up hb
  have hK := keepSet w5 bm o v
  have h1 := h.bmlt
  have h2 := h.lt
  refine ⟨hi, h5.keep.trans hK (fun _ _ h => h), fun q hq => ?_, ev_out hK h5.lt (by show ¬ w.heap.size = bm; omega) h5.ev, by have := h5.lt; simpa [World.setCell] using this, h1⟩
  rcases hq with hq | hq
  · exact h.new q hq
  · right; omega
theorem TkM.deeds {w w4 : World} {bm bc N : Nat} {S S4 : Nat → Prop} {x : Itk} {e : Ev} (h : TkM w bm bc N S S4 x e w4) : RDeeds w bm bc N S x w4 :=
  ⟨S4, h.itk, h.keep.mono (fun _ _ h => .inl h), fun q hq => (h.new q hq).imp id (fun h => by omega)⟩
theorem RItk.more {w : World} {bm bc N M : Nat} {S : Nat → Prop} {x : Itk} (h : RItk w bm bc S N x) (hM : N ≤ M) : RItk w bm bc S M x := h.wide (fun _ h => h) h.ns h.clk.ns h.clk.low hM
theorem RDeeds.more {w w' : World} {bm bc N M : Nat} {S : Nat → Prop} {x : Itk} (h : RDeeds w bm bc N S x w') (hM : N ≤ M) : RDeeds w bm bc M S x w' := by
  obtain ⟨S', h1, h2, h3⟩ := h; exact ⟨S', h1.more hM, h2, h3⟩
def TkCut (w : World) (bm bc N : Nat) (S : Nat → Prop) (x : Itk) (e : Ev) (wx : World) : Prop := ∃ S4, TkM w bm bc N S S4 x e wx
def RTakePost (w : World) (bm bc N : Nat) (S : Nat → Prop) (x : Itk) (r : Ending) (w' : World) : Prop := r = .returned (.tuple #[]) ∧ RDeeds w bm bc N S x w'
theorem own_new {w w' : World} {S : Nat → Prop} {base n : Nat} {e : TypeId} {size : Nat} {A : Option Addr} {c : Nat} {xs : List Value} (h : w'.ownsRow base e size (.slice A n c) n xs) (hb : w.heap.size ≤ base) : VwIn (Newer S w w') A n :=
  (own_in9 h).mono fun b hb' => .inr ⟨by omega, hb'.2⟩

set_option maxRecDepth 100000 in
set_option maxHeartbeats 4000000 in
theorem rtake_any (w : World) (bm bc : Nat) (S : Nat → Prop) (N : Nat) (x : Itk) (h : RItk w bm bc S N x) (hN : N ≤ 70000) (e : Ev) (hs : e.small) (hmay : mayB e = true) (hhad : hadB x.had e.src e.num = false) (hso : SortedE x.taken) :
    Calls Tryz.prog 75 #[.pointer (some ⟨bm, 0, none⟩), e.agg] w (RTakePost w bm bc (N + 2) S (x.took e)) := by
  have HT1 := Lib.hid (TkM.start h e)
  have hbm : bm < w.heap.size := h.lt
  have hpb := may_put hmay hhad
  have HPB := Lib.hid hpb
  have hpb' := hpb
  unfold putsB at hpb'
  simp only [Bool.and_eq_true, decide_eq_true_eq, Bool.not_eq_true'] at hpb'
  have HNM := Lib.hid hpb'.1.1.1
  have hn1 := hpb'.1.1.2; have hn2 := hpb'.1.2
  have HSM := Lib.hid hs
  have HOK := Lib.hid h.ok
  have htl := h.tl; have hll := h.ll
  have HHB := Lib.hid hhad
  have HSRT := Lib.hid (show sortL (x.taken ++ [e]) = insE e x.taken by rw [sortL_snoc, sortL_same hso])
  have HTOOK := Lib.hid (show x.took e = if e.kind = 14 then ({ x.put e with gone := e.per :: x.gone } : Itk).drop (keepB e.per) else x.put e from rfl)
  have HPUT := Lib.hid (show x.put e = { x with had := putH x.had e.src e.num, taken := insE e x.taken } from rfl)
  clear h hmay hhad hso hpb hpb' hs
  unfold Ev.agg
  go_enter Tryz.func75, Tryz.ntmps75
  go_wp2
  have hbw1 : bm < (w.alloc (evObj e)).heap.size := by simp; omega
  generalize w.alloc (evObj e) = w1 at *
  obtain ⟨vh, vt, vl, vg, hic, hp, hfz⟩ := HT1.out.itk.cells
  obtain ⟨Ah, ch, R, rfl, hads, hkeys, hRl, hRr⟩ := hp.had
  have HADS := Lib.hid hads; have HKEYS := Lib.hid hkeys; have HRR := Lib.hid hRr
  obtain ⟨c0, c1, c2, c3, c4⟩ := hic
  obtain ⟨e0, e1, e2, e3, e4, e5, e6, e7⟩ := HT1.out.ev
  clear hp hfz hads hkeys hRr
  -- walk
  have HADS2 := Lib.hid (HADS.out.stay (F := fun _ => False) (Keep.of_below (show Below w1.heap.size w1 w1.drew from (Below.refl _ _).drew)) (fun _ h => h.elim))
  have HPC := Lib.hid (rput_any w1.drew S Ah R.length ch R HADS2.out (by omega) (fun q hq => by have := HRR.out q hq; omega) (had_up HOK.out HKEYS.out) e.src HNM.out HSM.out.1 e.num hn1 hn2 (fun hin => by
    have := had_dec HOK.out HKEYS.out e.src e.num
    rw [HHB.out, decide_eq_true hin] at this; cases this))
  have HT1d := Lib.hid (HT1.out.up (show Below w1.heap.size w1 w1.drew from (Below.refl _ _).drew))
  have HUP1 := Lib.hid (show ∀ w9, Below w1.drew.heap.size w1.drew w9 → TkM w bm bc N S S x e w9 from fun w9 h9 => HT1d.out.up h9)
  have HSS1 := Lib.hid (show ∀ w9, TkM w bm bc N S S x e w9 → (w9.cell? ⟨w.heap.size, 0, none⟩ = some (.string ⟨e.src.toArray⟩) ∧ w9.cell? ⟨w.heap.size, 1, none⟩ = some (.int .i64 e.num) ∧ w9.cell? ⟨w.heap.size, 2, none⟩ = some (.int .i64 e.at_) ∧ w9.cell? ⟨w.heap.size, 3, none⟩ = some (.int .i64 e.kind) ∧ w9.cell? ⟨w.heap.size, 4, none⟩ = some (.string ⟨e.per.toArray⟩) ∧ w9.cell? ⟨w.heap.size, 5, none⟩ = some (.string ⟨e.item.toArray⟩) ∧ w9.cell? ⟨w.heap.size, 6, none⟩ = some (.int .i64 e.val) ∧ w9.cell? ⟨w.heap.size, 7, none⟩ = some (.string ⟨e.text.toArray⟩)) from fun w9 h9 => h9.ev)
  have HSK1 := Lib.hid (show ∀ w9 v, TkM w bm bc N S S x e w9 → ((w9.setCell ⟨bm, 1, none⟩ v).cell? ⟨w.heap.size, 0, none⟩ = some (.string ⟨e.src.toArray⟩) ∧ (w9.setCell ⟨bm, 1, none⟩ v).cell? ⟨w.heap.size, 1, none⟩ = some (.int .i64 e.num) ∧ (w9.setCell ⟨bm, 1, none⟩ v).cell? ⟨w.heap.size, 2, none⟩ = some (.int .i64 e.at_) ∧ (w9.setCell ⟨bm, 1, none⟩ v).cell? ⟨w.heap.size, 3, none⟩ = some (.int .i64 e.kind) ∧ (w9.setCell ⟨bm, 1, none⟩ v).cell? ⟨w.heap.size, 4, none⟩ = some (.string ⟨e.per.toArray⟩) ∧ (w9.setCell ⟨bm, 1, none⟩ v).cell? ⟨w.heap.size, 5, none⟩ = some (.string ⟨e.item.toArray⟩) ∧ (w9.setCell ⟨bm, 1, none⟩ v).cell? ⟨w.heap.size, 6, none⟩ = some (.int .i64 e.val) ∧ (w9.setCell ⟨bm, 1, none⟩ v).cell? ⟨w.heap.size, 7, none⟩ = some (.string ⟨e.text.toArray⟩)) from fun w9 v h9 => ev_out (keepSet w9 bm 1 v) h9.lt (by show ¬ w.heap.size = bm; omega) h9.ev)
  have HFR1 := Lib.hid (show ∀ w9, TkM w bm bc N S S x e w9 → (∃ u, w9.cell? ⟨bm, 1, none⟩ = some u) ∧ w9.frozen? ⟨bm, 1, none⟩ = false from fun w9 h9 => by
    obtain ⟨vh, vt3, vl3, vg3, hic, _, hfz⟩ := h9.itk.cells
    exact ⟨⟨_, hic.c1⟩, hfz 1⟩)
  have hEV1 := HSS1.out w1 HT1.out
  clear c0 c2 c3 c4 e0 e1 e2 e3 e4 e5 e6 e7
  obtain ⟨e0, e1, e2, e3, e4, e5, e6, e7⟩ := hEV1
  have hEV1 := HSS1.out w1 HT1.out
  go_wp2_with fail
  go_cut [] (fun wx => TkCut w bm bc (N + 1) S ({ x with had := putH x.had e.src e.num } : Itk) e wx)
  case first =>
    go_region_law ((go_simp; go_at_call 115; (with_reducible refine HPC.out.mono ?_); rintro r9 w3 ⟨A', c', R', rfl, hkeys', hads', hb3, hlen'⟩; have HK' := Lib.hid hkeys'; have HA' := Lib.hid hads'; have HB3 := Lib.hid hb3; have hT3 := HUP1.out _ hb3; obtain ⟨⟨u3, d1⟩, d1f⟩ := HFR1.out _ hT3; clear hkeys' hads' hb3))
    all_goals
      have HT4 := Lib.hid (HT1d.out.set (o := 1) HB3.out ((HT1d.out.itk.newer HB3.out (by omega : N ≤ N + 1)).hadSet HA'.out (keys_put HOK.out HKEYS.out HPB.out HK'.out) (by omega) (rows_put HK'.out (fun q hq => by have := HRR.out q hq; omega) (by rw [insN_length]; have := rowH_len HRR.out e.src; omega)) (HOK.out.put HPB.out)))
      go_wp2_with fail
      go_meet
      exact ⟨_, HT4.out⟩
  obtain ⟨S4, hT4⟩ := hcut
  have HT4 := Lib.hid hT4
  clear hT4 c1 e0 e1 e2 e3 e4 e5 e6 e7 hEV1 HADS HADS2 HPC HT1 HT1d HUP1 HSS1 HSK1 HFR1 HKEYS HRR hRl
  generalize wc = w4 at *
  have HX1 := Lib.hid (show ({ x with had := putH x.had e.src e.num } : Itk).taken = x.taken ∧ ({ x with had := putH x.had e.src e.num } : Itk).late = x.late ∧ ({ x with had := putH x.had e.src e.num } : Itk).gone = x.gone ∧ x.put e = { ({ x with had := putH x.had e.src e.num } : Itk) with taken := insE e x.taken } from ⟨rfl, rfl, rfl, rfl⟩)
  generalize ({ x with had := putH x.had e.src e.num } : Itk) = x1 at *
  obtain ⟨vh4, vt4, vl4, vg4, hic4, hp4, hfz4⟩ := HT4.out.itk.cells
  obtain ⟨At, ct, rfl, hev4, hvw4⟩ := hp4.taken
  rw [HX1.out.1] at hev4 hvw4 hic4
  have HEV4 := Lib.hid hev4
  obtain ⟨c0, c1, c2, c3, c4⟩ := hic4
  have hbm4 : bm < w4.heap.size := HT4.out.itk.lt
  have hlt4 := HT4.out.lt
  clear hp4 hfz4 hev4 hvw4 c0 c1 c3 c4
  obtain ⟨i0, hi, hz0, hz1, hz2⟩ := info_parts ev_info
  have HI := Lib.hid hi; have HZ0 := Lib.hid hz0; have HZ1 := Lib.hid hz1; have HZ2 := Lib.hid hz2
  clear hi hz0 hz1 hz2
  go_wp2_with fail
  go_cut [] (fun wx => TkCut w bm bc (N + 1) S (x.put e) e wx)
  case first =>
    have HT4d := Lib.hid (HT4.out.up (show Below w4.heap.size w4 w4.drew from (Below.refl _ _).drew))
    have HUP4 := Lib.hid (show ∀ w9, Below w4.drew.heap.size w4.drew w9 → TkM w bm bc (N + 1) S S4 x1 e w9 from fun w9 h9 => HT4d.out.up h9)
    have HSS4 := Lib.hid (show ∀ w9, TkM w bm bc (N + 1) S S4 x1 e w9 → (w9.cell? ⟨w.heap.size, 0, none⟩ = some (.string ⟨e.src.toArray⟩) ∧ w9.cell? ⟨w.heap.size, 1, none⟩ = some (.int .i64 e.num) ∧ w9.cell? ⟨w.heap.size, 2, none⟩ = some (.int .i64 e.at_) ∧ w9.cell? ⟨w.heap.size, 3, none⟩ = some (.int .i64 e.kind) ∧ w9.cell? ⟨w.heap.size, 4, none⟩ = some (.string ⟨e.per.toArray⟩) ∧ w9.cell? ⟨w.heap.size, 5, none⟩ = some (.string ⟨e.item.toArray⟩) ∧ w9.cell? ⟨w.heap.size, 6, none⟩ = some (.int .i64 e.val) ∧ w9.cell? ⟨w.heap.size, 7, none⟩ = some (.string ⟨e.text.toArray⟩)) from fun w9 h9 => h9.ev)
    have HSK4 := Lib.hid (show ∀ w9 v, TkM w bm bc (N + 1) S S4 x1 e w9 → ((w9.setCell ⟨bm, 2, none⟩ v).cell? ⟨w.heap.size, 0, none⟩ = some (.string ⟨e.src.toArray⟩) ∧ (w9.setCell ⟨bm, 2, none⟩ v).cell? ⟨w.heap.size, 1, none⟩ = some (.int .i64 e.num) ∧ (w9.setCell ⟨bm, 2, none⟩ v).cell? ⟨w.heap.size, 2, none⟩ = some (.int .i64 e.at_) ∧ (w9.setCell ⟨bm, 2, none⟩ v).cell? ⟨w.heap.size, 3, none⟩ = some (.int .i64 e.kind) ∧ (w9.setCell ⟨bm, 2, none⟩ v).cell? ⟨w.heap.size, 4, none⟩ = some (.string ⟨e.per.toArray⟩) ∧ (w9.setCell ⟨bm, 2, none⟩ v).cell? ⟨w.heap.size, 5, none⟩ = some (.string ⟨e.item.toArray⟩) ∧ (w9.setCell ⟨bm, 2, none⟩ v).cell? ⟨w.heap.size, 6, none⟩ = some (.int .i64 e.val) ∧ (w9.setCell ⟨bm, 2, none⟩ v).cell? ⟨w.heap.size, 7, none⟩ = some (.string ⟨e.text.toArray⟩)) from fun w9 v h9 => ev_out (keepSet w9 bm 2 v) h9.lt (by show ¬ w.heap.size = bm; omega) h9.ev)
    have HFR4 := Lib.hid (show ∀ w9, TkM w bm bc (N + 1) S S4 x1 e w9 → (∃ u, w9.cell? ⟨bm, 2, none⟩ = some u) ∧ w9.frozen? ⟨bm, 2, none⟩ = false from fun w9 h9 => by
      obtain ⟨vh, vt3, vl3, vg3, hic, _, hfz⟩ := h9.itk.cells
      exact ⟨⟨_, hic.c2⟩, hfz 2⟩)
    have hEV4 := HSS4.out w4 HT4.out
    have HWA := Lib.hid (show Below w4.heap.size w4 ((w4.alloc (.cells #[] 28)).drew) from below_drew ((Below.refl _ _).alloc (Nat.le_refl _) _))
    have HWB := Lib.hid (show Below w4.heap.size w4 (((w4.alloc (.cells #[] 28)).alloc (evObj e)).drew) from below_drew (((Below.refl _ _).alloc (Nat.le_refl _) _).alloc (by simp) _))
    have HWC := Lib.hid (show Below w4.heap.size w4 (((w4.alloc (evObj e)).alloc (.cells #[] 28)).drew) from below_drew (((Below.refl _ _).alloc (Nat.le_refl _) _).alloc (by simp) _))
    have HSL := Lib.hid (show ∀ W, Below w4.heap.size w4 W → Cel W w4.heap.size 8 At x.taken.length ct (evCells x.taken) from fun W hW => Cel.below HEV4.out hW)
    have HUPW := Lib.hid (show ∀ w9, Below w4.heap.size w4 w9 → TkM w bm bc (N + 1) S S4 x1 e w9 from fun w9 h9 => HT4.out.up h9)
    have HOA := Lib.hid (show ((w4.alloc (.cells #[] 28)).drew).ownsRow w4.heap.size 28 8 (.slice (some ⟨w4.heap.size, 0, none⟩) 0 0) 0 [] from World.ownsRow_lit w4 #[] 0 (Nat.le_refl _) (by simp [maxLen]) rfl)
    have HOB := Lib.hid (show (((w4.alloc (.cells #[] 28)).alloc (evObj e)).drew).ownsRow w4.heap.size 28 8 (.slice (some ⟨w4.heap.size, 0, none⟩) 0 0) 0 [] from World.ownsRow.alloc HOA.out _)
    have HOC := Lib.hid (show (((w4.alloc (evObj e)).alloc (.cells #[] 28)).drew).ownsRow w4.heap.size 28 8 (.slice (some ⟨w4.heap.size + 1, 0, none⟩) 0 0) 0 [] from by
      have := World.ownsRow_lit (w4.alloc (evObj e)) (base := w4.heap.size) (e := 28) (size := 8) #[] 0 (by first | omega | (simp; done) | (simp; omega)) (by simp [maxLen]) rfl
      rw [show (w4.alloc (evObj e)).heap.size = w4.heap.size + 1 by simp] at this
      exact this)
    have HNB := Lib.hid (show Cel (((w4.alloc (.cells #[] 28)).alloc (evObj e)).drew) (w4.heap.size + 2) 8 (some ⟨w4.heap.size + 1, 0, none⟩) 1 1 e.cells from by
      have := Cel.new (size := 8) (n := 1) (w4.alloc (.cells #[] 28)) e.cells.toArray 28 (by unfold maxLen; omega) rfl
      rw [show (w4.alloc (.cells #[] 28)).heap.size = w4.heap.size + 1 by simp] at this
      exact Cel.drewN this 1)
    have HNC := Lib.hid (show Cel (((w4.alloc (evObj e)).alloc (.cells #[] 28)).drew) (w4.heap.size + 1) 8 (some ⟨w4.heap.size, 0, none⟩) 1 1 e.cells from by
      have := Cel.new (size := 8) (n := 1) w4 e.cells.toArray 28 (by unfold maxLen; omega) rfl
      exact Cel.drewN (Cel.alloc this (by simp) _) 1)
    have HSO := Lib.hid (show ∀ (W : World) (B : Option Addr) (c : Nat), W.ownsRow w4.heap.size 28 8 (.slice B (0 + x.taken.length + 1) c) (0 + x.taken.length + 1) ([] ++ evCells x.taken ++ e.cells) → Calls Tryz.prog 116 #[.slice B (x.taken.length + 1) c] W (OwnPost W (insE e x.taken)) from fun W B c ho => by
      rw [← HSRT.out]
      refine rsort_any W B _ c (x.taken ++ [e]) ?_ (by omega)
      have := Cel.of_own ho
      unfold Evs
      rw [evCells_one]
      simpa using this)
    obtain ⟨e0, e1, e2, e3, e4, e5, e6, e7⟩ := hEV4
    have hEV4 := HSS4.out w4 HT4.out
    go_region_law (first
      | (refine step_app rfl (.tmp 20) (.tmp 24) 22 rfl 28 i0 _ 8 96 Tryz.underlying22 HI.out HZ0.out HZ1.out HZ2.out rfl (by decide) w4.heap.size (.slice (some ⟨w4.heap.size, 0, none⟩) 0 0) 0 [] rfl HOA.out w4.heap.size _ _ _ (evCells x.taken) rfl (HSL.out _ HWA.out) (cells_ones _) (by unfold maxLen; omega) (by omega) (by first | omega | (simp; done) | (simp; omega)) ?_; intro v6 w6 ho6 hg6 hv6; have HO6 := Lib.hid ho6; have HB6 := Lib.hid (show Below w4.heap.size w4 w6 from Below.grown HWA.out hg6 HWA.out.size (fun k hk => by simp [Value.ownBlock] at hk; omega)); have hS6 := HSS4.out w6 (HUPW.out _ HB6.out); have HP6 := Lib.hid (show ∀ k, v6.ownBlock = some k → w4.heap.size ≤ k from fun k hk => by rcases hv6 with h | h <;> (rw [h] at hk; simp [Value.ownBlock] at hk; omega)); clear ho6 hg6 hv6)
      | (refine step_app rfl (.tmp 20) (.tmp 24) 22 rfl 28 i0 _ 8 96 Tryz.underlying22 HI.out HZ0.out HZ1.out HZ2.out rfl (by decide) w4.heap.size (.slice (some ⟨w4.heap.size, 0, none⟩) 0 0) 0 [] rfl HOB.out w4.heap.size _ _ _ (evCells x.taken) rfl (HSL.out _ HWB.out) (cells_ones _) (by unfold maxLen; omega) (by omega) (by first | omega | (simp; done) | (simp; omega)) ?_; intro v6 w6 ho6 hg6 hv6; have HO6 := Lib.hid ho6; have HB6 := Lib.hid (show Below w4.heap.size w4 w6 from Below.grown HWB.out hg6 HWB.out.size (fun k hk => by simp [Value.ownBlock] at hk; omega)); have hS6 := HSS4.out w6 (HUPW.out _ HB6.out); have HN6 := Lib.hid (show Cel w6 (w4.heap.size + 2) 8 (some ⟨w4.heap.size + 1, 0, none⟩) 1 1 e.cells from Cel.stay (S := fun q => q = w4.heap.size + 1) HNB.out (fun a ha _ => by injection ha with ha; rw [← ha]) (Nat.le_refl _) (fun b off hb _ => hg6.cell_far ⟨b, off, none⟩ (by first | omega | (simp; done) | (simp; omega)) (by simp [Value.ownBlock]; omega))); have HP6 := Lib.hid (show ∀ k, v6.ownBlock = some k → w4.heap.size ≤ k from fun k hk => by rcases hv6 with h | h <;> (rw [h] at hk; simp [Value.ownBlock] at hk; omega)); clear ho6 hg6 hv6)
      | (refine step_app rfl (.tmp 20) (.tmp 24) 22 rfl 28 i0 _ 8 96 Tryz.underlying22 HI.out HZ0.out HZ1.out HZ2.out rfl (by decide) w4.heap.size (.slice (some ⟨w4.heap.size + 1, 0, none⟩) 0 0) 0 [] rfl HOC.out w4.heap.size _ _ _ (evCells x.taken) rfl (HSL.out _ HWC.out) (cells_ones _) (by unfold maxLen; omega) (by omega) (by first | omega | (simp; done) | (simp; omega)) ?_; intro v6 w6 ho6 hg6 hv6; have HO6 := Lib.hid ho6; have HB6 := Lib.hid (show Below w4.heap.size w4 w6 from Below.grown HWC.out hg6 HWC.out.size (fun k hk => by simp [Value.ownBlock] at hk; omega)); have hS6 := HSS4.out w6 (HUPW.out _ HB6.out); have HN6 := Lib.hid (show Cel w6 (w4.heap.size + 1) 8 (some ⟨w4.heap.size, 0, none⟩) 1 1 e.cells from Cel.stay (S := fun q => q = w4.heap.size) HNC.out (fun a ha _ => by injection ha with ha; rw [← ha]) (Nat.le_refl _) (fun b off hb _ => hg6.cell_far ⟨b, off, none⟩ (by first | omega | (simp; done) | (simp; omega)) (by simp [Value.ownBlock]; omega))); have HP6 := Lib.hid (show ∀ k, v6.ownBlock = some k → w4.heap.size ≤ k from fun k hk => by rcases hv6 with h | h <;> (rw [h] at hk; simp [Value.ownBlock] at hk; omega)); clear ho6 hg6 hv6)
      | (refine step_app rfl (.tmp 25) (.tmp 27) 22 rfl 28 i0 _ 8 96 Tryz.underlying22 HI.out HZ0.out HZ1.out HZ2.out rfl (by decide) w4.heap.size v6 (0 + x.taken.length) ([] ++ evCells x.taken) rfl HO6.out _ _ _ _ e.cells rfl HN6.out (cells_one e) (by unfold maxLen; omega) (by omega) (by have := HB6.out.size; omega) ?_; intro v7 w7 ho7 hg7 hv7; have HB7 := Lib.hid (show Below w4.heap.size w4 w7 from Below.grown HB6.out hg7 (by have := HB6.out.size; first | omega | (simp; omega)) (fun k hk => HP6.out k hk)); obtain ⟨B7, c7, rfl⟩ := ownsRow_form ho7; have HO7 := Lib.hid ho7; have hS7 := HSS4.out w7 (HUPW.out _ HB7.out); clear ho7 hg7 hv7)
      | (refine step_app rfl (.tmp 25) (.tmp 27) 22 rfl 28 i0 _ 8 96 Tryz.underlying22 HI.out HZ0.out HZ1.out HZ2.out rfl (by decide) w4.heap.size v6 (0 + x.taken.length) ([] ++ evCells x.taken) rfl (World.ownsRow.alloc HO6.out _) (w6.heap.size + 1) _ _ _ e.cells rfl (Cel.new (size := 8) (n := 1) w6 e.cells.toArray _ (by unfold maxLen; omega) rfl) (cells_one e) (by unfold maxLen; omega) (by omega) (by have := HB6.out.size; simp; omega) ?_; intro v7 w7 ho7 hg7 hv7; have HB7 := Lib.hid (show Below w4.heap.size w4 w7 from Below.grown (HB6.out.alloc HB6.out.size _) hg7 (by have := HB6.out.size; first | omega | (simp; omega)) (fun k hk => HP6.out k hk)); obtain ⟨B7, c7, rfl⟩ := ownsRow_form ho7; have HO7 := Lib.hid ho7; have hS7 := HSS4.out w7 (HUPW.out _ HB7.out); clear ho7 hg7 hv7)
      | (go_simp; go_at_call 116; (with_reducible refine (HSO.out _ _ _ HO7.out).mono ?_); rintro r9 w8 ⟨v8, rfl, ho8, hb8⟩; obtain ⟨B8, c8, hv8, _⟩ := ho8.form; subst hv8; have HO8 := Lib.hid ho8; have HB8 := Lib.hid (show Below w4.heap.size w4 w8 from HB7.out.trans (hb8.mono HB7.out.size)); have HS8 := Lib.hid HB7.out.size; have hT8 := HUPW.out _ HB8.out; have hS8 := HSS4.out _ hT8; obtain ⟨⟨u8, d2⟩, d2f⟩ := HFR4.out _ hT8; clear ho8 hb8))
    all_goals
      have HT9 := Lib.hid (HT4.out.set (o := 2) HB8.out ((HT4.out.itk.newer HB8.out (Nat.le_refl _)).takenSet (es := insE e x.taken) (Cel.of_own HO8.out) (own_new HO8.out HS8.out) (by rw [insE_length]; omega)))
      go_wp2_with fail
      go_meet
      exact ⟨_, by rw [HX1.out.2.2.2]; exact HT9.out⟩
  case rest =>
    obtain ⟨S5, hT5⟩ := hcut
    have HT5 := Lib.hid hT5
    clear hT5 HT4 c2 HEV4 hbm4 hlt4
    generalize wc = w5 at *
    have hk3 : w5.cell? ⟨w.heap.size, 3, none⟩ = some (.int .i64 e.kind) := HT5.out.ev.2.2.2.1
    by_cases hk : e.kind = 14
    · have k14 : (e.kind == 14) = true := by simp [hk]
      have HTK := Lib.hid (show x.took e = ({ x.put e with gone := e.per :: x.gone } : Itk).drop (keepB e.per) by rw [HTOOK.out, if_pos hk])
      clear HTOOK hk
      go_wp2_with fail
      clear k14 hk3
      obtain ⟨vh5, vt5, vl5, vg5, hic5, hp5, hfz5⟩ := HT5.out.itk.cells
      obtain ⟨Ag, cg, gs, rfl, hgs, hgv, hgr, hgl⟩ := hp5.gone; have HGR := Lib.hid hgr; have HGS := Lib.hid hgs; have HGV := Lib.hid hgv; clear hgs hgv hgr
      obtain ⟨c0, c1, c2, c3, c4⟩ := hic5
      clear hp5 hfz5
      have HT5d := Lib.hid (HT5.out.up (show Below w5.heap.size w5 w5.drew from (Below.refl _ _).drew))
      have HUP5 := Lib.hid (show ∀ w9, Below w5.drew.heap.size w5.drew w9 → TkM w bm bc (N + 1) S S5 (x.put e) e w9 from fun w9 h9 => HT5d.out.up h9)
      have HSS5 := Lib.hid (show ∀ w9, TkM w bm bc (N + 1) S S5 (x.put e) e w9 → (w9.cell? ⟨w.heap.size, 0, none⟩ = some (.string ⟨e.src.toArray⟩) ∧ w9.cell? ⟨w.heap.size, 1, none⟩ = some (.int .i64 e.num) ∧ w9.cell? ⟨w.heap.size, 2, none⟩ = some (.int .i64 e.at_) ∧ w9.cell? ⟨w.heap.size, 3, none⟩ = some (.int .i64 e.kind) ∧ w9.cell? ⟨w.heap.size, 4, none⟩ = some (.string ⟨e.per.toArray⟩) ∧ w9.cell? ⟨w.heap.size, 5, none⟩ = some (.string ⟨e.item.toArray⟩) ∧ w9.cell? ⟨w.heap.size, 6, none⟩ = some (.int .i64 e.val) ∧ w9.cell? ⟨w.heap.size, 7, none⟩ = some (.string ⟨e.text.toArray⟩)) from fun w9 h9 => h9.ev)
      have HSK5 := Lib.hid (show ∀ w9 v, TkM w bm bc (N + 1) S S5 (x.put e) e w9 → ((w9.setCell ⟨bm, 4, none⟩ v).cell? ⟨w.heap.size, 0, none⟩ = some (.string ⟨e.src.toArray⟩) ∧ (w9.setCell ⟨bm, 4, none⟩ v).cell? ⟨w.heap.size, 1, none⟩ = some (.int .i64 e.num) ∧ (w9.setCell ⟨bm, 4, none⟩ v).cell? ⟨w.heap.size, 2, none⟩ = some (.int .i64 e.at_) ∧ (w9.setCell ⟨bm, 4, none⟩ v).cell? ⟨w.heap.size, 3, none⟩ = some (.int .i64 e.kind) ∧ (w9.setCell ⟨bm, 4, none⟩ v).cell? ⟨w.heap.size, 4, none⟩ = some (.string ⟨e.per.toArray⟩) ∧ (w9.setCell ⟨bm, 4, none⟩ v).cell? ⟨w.heap.size, 5, none⟩ = some (.string ⟨e.item.toArray⟩) ∧ (w9.setCell ⟨bm, 4, none⟩ v).cell? ⟨w.heap.size, 6, none⟩ = some (.int .i64 e.val) ∧ (w9.setCell ⟨bm, 4, none⟩ v).cell? ⟨w.heap.size, 7, none⟩ = some (.string ⟨e.text.toArray⟩)) from fun w9 v h9 => ev_out (keepSet w9 bm 4 v) h9.lt (by show ¬ w.heap.size = bm; omega) h9.ev)
      have HFR5 := Lib.hid (show ∀ w9, TkM w bm bc (N + 1) S S5 (x.put e) e w9 → (∃ u, w9.cell? ⟨bm, 4, none⟩ = some u) ∧ w9.frozen? ⟨bm, 4, none⟩ = false from fun w9 h9 => by
        obtain ⟨vh, vt3, vl3, vg3, hic, _, hfz⟩ := h9.itk.cells
        exact ⟨⟨_, hic.c4⟩, hfz 4⟩)
      have hEV5 := HSS5.out w5 HT5.out
      obtain ⟨e0, e1, e2, e3, e4, e5, e6, e7⟩ := hEV5
      have hEV5 := HSS5.out w5 HT5.out
      have HC5 := Lib.hid (rput08_any w5.drew S5 Ag gs.length cg gs (Cel.drewN HGS.out 1) HGV.out (by omega) e.per)
      clear c0 c1 c2 c3
      go_wp2_with fail
      go_cut [] (fun wx => TkCut w bm bc (N + 2) S ({ x.put e with gone := e.per :: (x.put e).gone } : Itk) e wx)
      case first =>
        go_region_law ((go_simp; go_at_call 42; (with_reducible refine HC5.out.mono ?_); rintro r9 w8 ⟨B8, c8, rfl, hs8, hv8, hb8⟩; have HS8 := Lib.hid hs8; have HV8 := Lib.hid hv8; have HB8 := Lib.hid hb8; have hT8 := HUP5.out _ hb8; obtain ⟨⟨u8, d2⟩, d2f⟩ := HFR5.out _ hT8; clear hs8 hv8 hb8))
        all_goals
          have HT6 := Lib.hid (HT5d.out.set (o := 4) HB8.out ((HT5d.out.itk.newer HB8.out (by omega : N + 1 ≤ N + 2)).goneSet HS8.out HV8.out (putT_rising HGR.out e.per) (by have := putT_len gs e.per; omega)))
          go_wp2_with fail
          go_meet
          exact ⟨_, HT6.out⟩
      obtain ⟨S6, hT6⟩ := hcut
      have HT6 := Lib.hid hT6
      clear hT6 c4 e0 e1 e2 e3 e4 e5 e6 e7 hEV5 HC5 HT5 HT5d HUP5 HSS5 HSK5 HFR5 HGS HGV HGR
      generalize wc = w6 at *
      obtain ⟨vh6, vt6, vl6, vg6, hic6, hp6, hfz6⟩ := HT6.out.itk.cells
      obtain ⟨At6, ct6, rfl, hev6, hvw6⟩ := hp6.taken; have HEV6 := Lib.hid (show Evs w6 w6.heap.size At6 (insE e x.taken).length ct6 (insE e x.taken) from hev6); clear hev6 hvw6; have hic6 : ICells w6 bm bc vh6 (.slice At6 (insE e x.taken).length ct6) vl6 vg6 := hic6
      obtain ⟨c0, c1, c2, c3, c4⟩ := hic6
      clear hp6 hfz6
      have HT6d := Lib.hid (HT6.out.up (show Below w6.heap.size w6 w6.drew from (Below.refl _ _).drew))
      have HUP6 := Lib.hid (show ∀ w9, Below w6.drew.heap.size w6.drew w9 → TkM w bm bc (N + 2) S S6 ({ x.put e with gone := e.per :: (x.put e).gone } : Itk) e w9 from fun w9 h9 => HT6d.out.up h9)
      have HSS6 := Lib.hid (show ∀ w9, TkM w bm bc (N + 2) S S6 ({ x.put e with gone := e.per :: (x.put e).gone } : Itk) e w9 → (w9.cell? ⟨w.heap.size, 0, none⟩ = some (.string ⟨e.src.toArray⟩) ∧ w9.cell? ⟨w.heap.size, 1, none⟩ = some (.int .i64 e.num) ∧ w9.cell? ⟨w.heap.size, 2, none⟩ = some (.int .i64 e.at_) ∧ w9.cell? ⟨w.heap.size, 3, none⟩ = some (.int .i64 e.kind) ∧ w9.cell? ⟨w.heap.size, 4, none⟩ = some (.string ⟨e.per.toArray⟩) ∧ w9.cell? ⟨w.heap.size, 5, none⟩ = some (.string ⟨e.item.toArray⟩) ∧ w9.cell? ⟨w.heap.size, 6, none⟩ = some (.int .i64 e.val) ∧ w9.cell? ⟨w.heap.size, 7, none⟩ = some (.string ⟨e.text.toArray⟩)) from fun w9 h9 => h9.ev)
      have HSK6 := Lib.hid (show ∀ w9 v, TkM w bm bc (N + 2) S S6 ({ x.put e with gone := e.per :: (x.put e).gone } : Itk) e w9 → ((w9.setCell ⟨bm, 2, none⟩ v).cell? ⟨w.heap.size, 0, none⟩ = some (.string ⟨e.src.toArray⟩) ∧ (w9.setCell ⟨bm, 2, none⟩ v).cell? ⟨w.heap.size, 1, none⟩ = some (.int .i64 e.num) ∧ (w9.setCell ⟨bm, 2, none⟩ v).cell? ⟨w.heap.size, 2, none⟩ = some (.int .i64 e.at_) ∧ (w9.setCell ⟨bm, 2, none⟩ v).cell? ⟨w.heap.size, 3, none⟩ = some (.int .i64 e.kind) ∧ (w9.setCell ⟨bm, 2, none⟩ v).cell? ⟨w.heap.size, 4, none⟩ = some (.string ⟨e.per.toArray⟩) ∧ (w9.setCell ⟨bm, 2, none⟩ v).cell? ⟨w.heap.size, 5, none⟩ = some (.string ⟨e.item.toArray⟩) ∧ (w9.setCell ⟨bm, 2, none⟩ v).cell? ⟨w.heap.size, 6, none⟩ = some (.int .i64 e.val) ∧ (w9.setCell ⟨bm, 2, none⟩ v).cell? ⟨w.heap.size, 7, none⟩ = some (.string ⟨e.text.toArray⟩)) from fun w9 v h9 => ev_out (keepSet w9 bm 2 v) h9.lt (by show ¬ w.heap.size = bm; omega) h9.ev)
      have HFR6 := Lib.hid (show ∀ w9, TkM w bm bc (N + 2) S S6 ({ x.put e with gone := e.per :: (x.put e).gone } : Itk) e w9 → (∃ u, w9.cell? ⟨bm, 2, none⟩ = some u) ∧ w9.frozen? ⟨bm, 2, none⟩ = false from fun w9 h9 => by
        obtain ⟨vh, vt3, vl3, vg3, hic, _, hfz⟩ := h9.itk.cells
        exact ⟨⟨_, hic.c2⟩, hfz 2⟩)
      have hEV6 := HSS6.out w6 HT6.out
      obtain ⟨e0, e1, e2, e3, e4, e5, e6, e7⟩ := hEV6
      have hEV6 := HSS6.out w6 HT6.out
      have HC6 := Lib.hid (rwith08_any w6.drew e.per At6 (insE e x.taken).length ct6 (insE e x.taken) (Cel.drewN HEV6.out 1) (by rw [insE_length]; omega))
      clear c0 c1 c3 c4
      go_wp2_with fail
      go_cut [] (fun wx => TkCut w bm bc (N + 2) S ({ ({ x.put e with gone := e.per :: (x.put e).gone } : Itk) with taken := (insE e x.taken).filter (keepB e.per) } : Itk) e wx)
      case first =>
        go_region_law ((go_simp; go_at_call 36; (with_reducible refine HC6.out.mono ?_); rintro r9 w8 ⟨v8, rfl, ho8, hb8⟩; obtain ⟨B8, c8, hv8, _⟩ := ho8.form; subst hv8; have HO8 := Lib.hid ho8; have HB8 := Lib.hid hb8; have hT8 := HUP6.out _ hb8; obtain ⟨⟨u8, d2⟩, d2f⟩ := HFR6.out _ hT8; clear ho8 hb8))
        all_goals
          have HT7 := Lib.hid (HT6d.out.set (o := 2) HB8.out ((HT6d.out.itk.newer HB8.out (Nat.le_refl _)).takenSet (Cel.of_own HO8.out) (own_new HO8.out (Nat.le_refl _)) (by have := List.length_filter_le (keepB e.per) (insE e x.taken); rw [insE_length] at this; omega)))
          go_wp2_with fail
          go_meet
          exact ⟨_, HT7.out⟩
      obtain ⟨S7, hT7⟩ := hcut
      have HT7 := Lib.hid hT7
      clear hT7 c2 e0 e1 e2 e3 e4 e5 e6 e7 hEV6 HC6 HT6 HT6d HUP6 HSS6 HSK6 HFR6 HEV6
      generalize wc = w7 at *
      obtain ⟨vh7, vt7, vl7, vg7, hic7, hp7, hfz7⟩ := HT7.out.itk.cells
      obtain ⟨Al7, cl7, rfl, hev7, hvw7⟩ := hp7.late; have HEV7 := Lib.hid (show Evs w7 w7.heap.size Al7 x.late.length cl7 x.late from hev7); clear hev7 hvw7; have hic7 : ICells w7 bm bc vh7 vt7 (.slice Al7 x.late.length cl7) vg7 := hic7
      obtain ⟨c0, c1, c2, c3, c4⟩ := hic7
      clear hp7 hfz7
      have HT7d := Lib.hid (HT7.out.up (show Below w7.heap.size w7 w7.drew from (Below.refl _ _).drew))
      have HUP7 := Lib.hid (show ∀ w9, Below w7.drew.heap.size w7.drew w9 → TkM w bm bc (N + 2) S S7 ({ ({ x.put e with gone := e.per :: (x.put e).gone } : Itk) with taken := (insE e x.taken).filter (keepB e.per) } : Itk) e w9 from fun w9 h9 => HT7d.out.up h9)
      have HSS7 := Lib.hid (show ∀ w9, TkM w bm bc (N + 2) S S7 ({ ({ x.put e with gone := e.per :: (x.put e).gone } : Itk) with taken := (insE e x.taken).filter (keepB e.per) } : Itk) e w9 → (w9.cell? ⟨w.heap.size, 0, none⟩ = some (.string ⟨e.src.toArray⟩) ∧ w9.cell? ⟨w.heap.size, 1, none⟩ = some (.int .i64 e.num) ∧ w9.cell? ⟨w.heap.size, 2, none⟩ = some (.int .i64 e.at_) ∧ w9.cell? ⟨w.heap.size, 3, none⟩ = some (.int .i64 e.kind) ∧ w9.cell? ⟨w.heap.size, 4, none⟩ = some (.string ⟨e.per.toArray⟩) ∧ w9.cell? ⟨w.heap.size, 5, none⟩ = some (.string ⟨e.item.toArray⟩) ∧ w9.cell? ⟨w.heap.size, 6, none⟩ = some (.int .i64 e.val) ∧ w9.cell? ⟨w.heap.size, 7, none⟩ = some (.string ⟨e.text.toArray⟩)) from fun w9 h9 => h9.ev)
      have HSK7 := Lib.hid (show ∀ w9 v, TkM w bm bc (N + 2) S S7 ({ ({ x.put e with gone := e.per :: (x.put e).gone } : Itk) with taken := (insE e x.taken).filter (keepB e.per) } : Itk) e w9 → ((w9.setCell ⟨bm, 3, none⟩ v).cell? ⟨w.heap.size, 0, none⟩ = some (.string ⟨e.src.toArray⟩) ∧ (w9.setCell ⟨bm, 3, none⟩ v).cell? ⟨w.heap.size, 1, none⟩ = some (.int .i64 e.num) ∧ (w9.setCell ⟨bm, 3, none⟩ v).cell? ⟨w.heap.size, 2, none⟩ = some (.int .i64 e.at_) ∧ (w9.setCell ⟨bm, 3, none⟩ v).cell? ⟨w.heap.size, 3, none⟩ = some (.int .i64 e.kind) ∧ (w9.setCell ⟨bm, 3, none⟩ v).cell? ⟨w.heap.size, 4, none⟩ = some (.string ⟨e.per.toArray⟩) ∧ (w9.setCell ⟨bm, 3, none⟩ v).cell? ⟨w.heap.size, 5, none⟩ = some (.string ⟨e.item.toArray⟩) ∧ (w9.setCell ⟨bm, 3, none⟩ v).cell? ⟨w.heap.size, 6, none⟩ = some (.int .i64 e.val) ∧ (w9.setCell ⟨bm, 3, none⟩ v).cell? ⟨w.heap.size, 7, none⟩ = some (.string ⟨e.text.toArray⟩)) from fun w9 v h9 => ev_out (keepSet w9 bm 3 v) h9.lt (by show ¬ w.heap.size = bm; omega) h9.ev)
      have HFR7 := Lib.hid (show ∀ w9, TkM w bm bc (N + 2) S S7 ({ ({ x.put e with gone := e.per :: (x.put e).gone } : Itk) with taken := (insE e x.taken).filter (keepB e.per) } : Itk) e w9 → (∃ u, w9.cell? ⟨bm, 3, none⟩ = some u) ∧ w9.frozen? ⟨bm, 3, none⟩ = false from fun w9 h9 => by
        obtain ⟨vh, vt3, vl3, vg3, hic, _, hfz⟩ := h9.itk.cells
        exact ⟨⟨_, hic.c3⟩, hfz 3⟩)
      have hEV7 := HSS7.out w7 HT7.out
      obtain ⟨e0, e1, e2, e3, e4, e5, e6, e7⟩ := hEV7
      have hEV7 := HSS7.out w7 HT7.out
      have HC7 := Lib.hid (rwith08_any w7.drew e.per Al7 x.late.length cl7 x.late (Cel.drewN HEV7.out 1) (by omega))
      clear c0 c1 c2 c4
      go_wp2_with fail
      go_region_law ((go_simp; go_at_call 36; (with_reducible refine HC7.out.mono ?_); rintro r9 w8 ⟨v8, rfl, ho8, hb8⟩; obtain ⟨B8, c8, hv8, _⟩ := ho8.form; subst hv8; have HO8 := Lib.hid ho8; have HB8 := Lib.hid hb8; have hT8 := HUP7.out _ hb8; obtain ⟨⟨u8, d2⟩, d2f⟩ := HFR7.out _ hT8; clear ho8 hb8))
      all_goals
        have HT8 := Lib.hid (HT7d.out.set (o := 3) HB8.out ((HT7d.out.itk.newer HB8.out (Nat.le_refl _)).lateSet (Cel.of_own HO8.out) (own_new HO8.out (Nat.le_refl _)) (by have := List.length_filter_le (keepB e.per) x.late; omega)))
        go_wp2
        go_end0
        exact ⟨rfl, by rw [HTK.out]; exact HT8.out.deeds⟩
    · have k14 : (e.kind == 14) = false := by simp [hk]
      have HTK := Lib.hid (show x.took e = x.put e by rw [HTOOK.out, if_neg hk])
      clear HTOOK hk
      have HD := Lib.hid (show RDeeds w bm bc (N + 2) S (x.put e) w5 from RDeeds.more HT5.out.deeds (by omega))
      go_wp2
      go_end0
      exact ⟨rfl, by rw [HTK.out]; exact HD.out⟩
end Go.Proofs.YtoljbbmjbgepiaaGreatDoor
