/-
  Layer 8, the document's: Settled.
  The law's Even: both intakes tell the same.
-/
import Derived.Test.YtoljbbmjbgepiaaGreatDoorMRItk3
import Derived.Test.YtoljbbmjbgepiaaGreatDoorMItkHad
import Derived.Test.YtoljbbmjbgepiaaGreatDoorMEnc3
import Derived.Test.YtoljbbmjbgepiaaGreatDoorMRItk9
import Derived.Test.YtoljbbmjbgepiaaGreatDoorMItkSet
import Derived.Test.YtoljbbmjbgepiaaGreatDoorMItkGone
import Derived.Test.YtoljbbmjbgepiaaGreatDoorMGrPlain
namespace Go.Proofs.YtoljbbmjbgepiaaGreatDoor
open Go.RowKit Go.Maps Go.Sort

structure ICells5 (w : World) (bm bc : Nat) (vt : Value) (m : Int) : Prop where
  c0 : w.cell? ⟨bm, 0, none⟩ = some (.pointer (some ⟨bc, 0, none⟩))
  c2 : w.cell? ⟨bm, 2, none⟩ = some vt
  k3 : w.cell? ⟨bc, 3, none⟩ = some (.int .i64 m)
theorem ICells5.below {w w' : World} {B bm bc : Nat} {vt : Value} {m : Int} (h : ICells5 w bm bc vt m) (hb : Below B w w') (hB : bm < B) (hC : bc < B) : ICells5 w' bm bc vt m :=
  ⟨(hb.cell (p := ⟨bm, 0, none⟩) hB).trans h.c0, (hb.cell (p := ⟨bm, 2, none⟩) hB).trans h.c2, (hb.cell (p := ⟨bc, 3, none⟩) hC).trans h.k3⟩
def setlB (m : Int) (e : Ev) : Bool := decide (e.at_ ≤ m)
set_option maxRecDepth 100000 in
set_option maxHeartbeats 4000000 in
theorem rsettled_any (w : World) (bm bc : Nat) (S : Nat → Prop) (N : Nat) (x : Itk) (h : RItk w bm bc S N x) (hN : N ≤ 80000) :
    Calls Tryz.prog 71 #[.pointer (some ⟨bm, 0, none⟩)] w (SievePost w x.taken (setlB x.clk.mark)) := by
  obtain ⟨vh, vt, vl, vg, hblk, hparts⟩ := h.blk
  have hbm : bm < w.heap.size := (Array.getElem?_eq_some_iff.1 hblk).1
  have hbc : bc < w.heap.size := h.clk.lt
  obtain ⟨At, ct, hvt, hev, _⟩ := hparts.taken
  subst hvt
  obtain ⟨A6, n6, cp6, hblk6, _, _⟩ := h.clk.view
  have HIC := Lib.hid (show ICells5 w bm bc (.slice At x.taken.length ct) x.clk.mark from ⟨(cell_of_row w bm 0 _ _ (0, 0) hblk).trans rfl, (cell_of_row w bm 2 _ _ (0, 0) hblk).trans rfl, (RCells.of hblk6).c3⟩)
  have HH := Lib.hid hev
  have htl := h.tl
  clear h hblk hparts hev hblk6
  generalize x.clk.mark = mk at *
  generalize x.taken = es at *
  have hn9 : es.length ≤ 80000 := by omega
  obtain ⟨i0, hi, hz0, hz1, hz2⟩ := info_parts ev_info
  have HI := Lib.hid hi; have HZ0 := Lib.hid hz0; have HZ1 := Lib.hid hz1; have HZ2 := Lib.hid hz2
  clear hi hz0 hz1 hz2
  go_enter Tryz.func71, Tryz.ntmps71
  go_wp2
  go_loopw [3, 4] (fun v i wr => SieveRel w es.length es (setlB mk) v i wr) (fun _ i _ => es.length - (intOf i).toNat)
  case atStart => exact ⟨0, rfl, Nat.zero_le _, World.ownsRow_lit w #[] 0 (Nat.le_refl _) (by simp [maxLen]) rfl, (Below.refl _ _).alloc (Nat.le_refl _) _⟩
  case round =>
    obtain ⟨k, rfl, hk, hown, hbel⟩ := hrel
    have HO := Lib.hid hown; clear hown
    have hs0 := hbel.size
    obtain ⟨c0, c2, k3⟩ := HIC.out.below hbel hbm hbc
    by_cases hkn : k < es.length
    · obtain ⟨b, off, rfl, hb, hev⟩ := HH.out.ev k hkn
      obtain ⟨e0, e1, e2, e3, e4, e5, e6, e7⟩ := hev.below hbel hb
      clear hev
      have HTK := Lib.hid (wfilt_take es (setlB mk) k hkn)
      have hlen : ((es.take k).filter (setlB mk)).length ≤ k := by
        have := List.length_filter_le (setlB mk) (es.take k); rw [List.length_take] at this; omega
      generalize es[k] = y at *
      have t1 : (k : Int) < es.length := by omega
      by_cases hy : y.at_ ≤ mk
      · have HT : Hid ((es.take (k + 1)).filter (setlB mk) = (es.take k).filter (setlB mk) ++ [y]) := by have := HTK.out; rw [show setlB mk y = true from decide_eq_true hy] at this; unfold Hid; simpa using this
        clear HTK
        generalize (es.take k).filter (setlB mk) = out at *
        go_wp2
        go_quiet (fail)
        have hbq : Below w.heap.size w (wr.drewN nq) := below_drewN hbel nq
        have HOQ := Lib.hid (show OwnE (wr.drewN nq) w.heap.size u3 out from HO.out)
        have hsq : w.heap.size ≤ (wr.drewN nq).heap.size := hbq.size
        have c2' : (wr.drewN nq).cell? ⟨bm, 2, none⟩ = _ := c2
        obtain ⟨g0, g1, g2, g3, g4, g5, g6, g7⟩ : EvAt (wr.drewN nq) b (off + k * 8) y := ⟨e0, e1, e2, e3, e4, e5, e6, e7⟩
        clear e0 e1 e2 e3 e4 e5 e6 e7 c0 c2 k3 HO
        generalize wr.drewN nq = wq at *
        go_wp2_with (at_builtin; refine wpList_app (P := Tryz.prog) rfl (.tmp 31) (.tmp 39) 22 rfl 28 i0 _ 8 96 Tryz.underlying22 HI.out HZ0.out HZ1.out HZ2.out rfl (by decide) w.heap.size _ out.length (evCells out) rfl ?c1 (wq.heap.size + 1) _ _ _ y.cells rfl ?c2 (cells_one y) ?c4 ?c5 ?c6 ?_)
        case c1 => exact World.ownsRow.alloc HOQ.out _
        case c2 => exact Cel.new wq _ _ (by unfold maxLen; omega) rfl
        case c4 => unfold maxLen; omega
        case c5 => omega
        case c6 => first | omega | (simp; omega)
        intro v' w2 hown2 hg2 _
        have hb2 : Below w.heap.size w w2 := Below.grown (hbq.alloc (by omega) _) hg2 (by simp; omega) (fun k' hk' => (World.ownsRow.lt HOQ.out k' hk').1)
        have HR := Lib.hid (show SieveRel w es.length es (setlB mk) v' (.int .i64 ((k + 1 : Nat) : Int)) w2 from ⟨k + 1, rfl, by omega, by rw [HT.out]; unfold OwnE; rw [evCells_one, List.length_append]; exact hown2, hb2⟩)
        clear hown2 hg2 hb2 g0 g1 g2 g3 g4 g5 g6 g7 c2'
        go_wp2
        go_roundw
        case rel => exact HR.out
        case measure => simp [intOf]; omega
      · have HR := Lib.hid (show ∀ q, SieveRel w es.length es (setlB mk) u3 (.int .i64 ((k + 1 : Nat) : Int)) (wr.drewN q) from fun q => ⟨k + 1, rfl, by omega, by
          have := HTK.out; rw [show setlB mk y = false from decide_eq_false hy] at this
          simp only [Bool.false_eq_true, if_false, List.append_nil] at this
          rw [this]; exact HO.out, below_drewN hbel q⟩)
        clear HTK
        go_wp2
        go_quiet (fail)
        go_wp2
        go_roundw
        case rel => exact HR.out _
        case measure => simp [intOf]; omega
    · have t1 : ¬ (k : Int) < es.length := by omega
      have HKK := Lib.hid (show es.take k = es from List.take_of_length_le (by omega))
      go_wp2
      go_ret
      exact ⟨u3, rfl, by have := HO.out; rw [HKK.out] at this; exact this, hbel⟩
end Go.Proofs.YtoljbbmjbgepiaaGreatDoor
namespace Go.Proofs.YtoljbbmjbgepiaaGreatDoor
open Go.RowKit Go.Maps Go.Sort Go.Shelf

theorem set_filter {l : List Ev} {mk : Int} {k : Nat} (h : SetAt l mk k) : l.take k = l.filter (setlB mk) := by
  have e0 : l = l.take k ++ l.drop k := (List.take_append_drop k l).symm
  conv => rhs; rw [e0]
  rw [List.filter_append]
  have h1 : (l.take k).filter (setlB mk) = l.take k := List.filter_eq_self.2 fun e he => by
    obtain ⟨i, hi, rfl⟩ := List.getElem_of_mem he
    rw [List.length_take] at hi
    rw [List.getElem_take]
    exact decide_eq_true (h.2.1 i (by omega) (by omega))
  have h2 : (l.drop k).filter (setlB mk) = [] := List.filter_eq_nil_iff.2 fun e he => by
    obtain ⟨i, hi, rfl⟩ := List.getElem_of_mem he
    rw [List.length_drop] at hi
    rw [List.getElem_drop]
    have := h.2.2 (k + i) (by omega) (by omega)
    unfold setlB
    simp; omega
  rw [h1, h2, List.append_nil]
/-- both intakes, side by side -/
structure Pair (w : World) (F : Nat → Prop) (bi bm bc : Nat) (S : Nat → Prop) (N : Nat) (x : Itk) : Prop where
  itk : ItkAt w F bi N x
  ref : RItk w bm bc S N x
theorem Pair.up {w w' : World} {F S : Nat → Prop} {bi bm bc N : Nat} {x : Itk} (h : Pair w F bi bm bc S N x) (hb : Below w.heap.size w w') : Pair w' F bi bm bc S N x := ⟨h.itk.up hb, h.ref.up hb⟩
theorem evs_below {w w' : World} {B : Option Addr} {n c : Nat} {es : List Ev} (h : Evs w w.heap.size B n c es) (hb : Below w.heap.size w w') : Evs w' w'.heap.size B n c es := Cel.more (Cel.below h hb) hb.size
theorem strs_below {w w' : World} {B : Option Addr} {n c : Nat} {ss : List (List UInt8)} (h : Strs w w.heap.size B n c ss) (hb : Below w.heap.size w w') : Strs w' w'.heap.size B n c ss := Cel.more (Cel.below h hb) hb.size

/-- a region may be walked under a stronger condition -/
theorem wpAnyH_weak {P : Program} {md : Region.Mode} {ops : Array Oper} {Q : Exit → Act → World → Prop} {S S' : World → Prop} (hS : ∀ w, S' w → S w) : ∀ (fuel : Nat) (listed : Array Bool) (a : Act) (w : World), wpAnyH P md ops Q S' fuel listed a w → wpAnyH P md ops Q S fuel listed a w
  | 0, _, _, _, h => h
  | fuel + 1, _, _, _, h => ⟨h.1, fun i hi => wpOp_mono (fun a' w' h' => ⟨hS _ h'.1, wpAnyH_weak hS fuel _ a' w' h'.2⟩) (h.2 i hi)⟩

set_option linter.unusedSimpArgs false in
set_option maxRecDepth 100000 in
set_option maxHeartbeats 8000000 in
theorem even_any (w : World) (F : Nat → Prop) (bi bm bc : Nat) (S : Nat → Prop) (N : Nat) (x : Itk) (h : Pair w F bi bm bc S N x) (hN : N ≤ 80000) :
    Calls Tryz.prog 32 #[.pointer (some ⟨bi, 0, none⟩), .pointer (some ⟨bm, 0, none⟩)] w (Says true w) := by
  have HP := Lib.hid h
  obtain ⟨vh, vt, vl, vg, hic, hp, _⟩ := h.ref.cells
  obtain ⟨Ah, ch, R, rfl, hads, hkeys, hRl, hRr⟩ := hp.had
  obtain ⟨At, ct, rfl, het, _⟩ := hp.taken
  obtain ⟨Al, cl, rfl, hel, _⟩ := hp.late
  obtain ⟨Ag, cg, gs, rfl, hgs, _, hgr, hgl⟩ := hp.gone
  obtain ⟨A6, n6, cp6, hblk6, _, _⟩ := h.ref.clk.view
  have k3 := (RCells.of hblk6).c3
  have hbm : bm < w.heap.size := h.ref.lt
  have hbc : bc < w.heap.size := h.ref.clk.lt
  have htl := h.ref.tl; have hll := h.ref.ll
  obtain ⟨c0, c1, c2, c3, c4⟩ := hic
  have HSS := Lib.hid (show ∀ W, Below w.heap.size w W → W.cell? ⟨bm, 0, none⟩ = some (.pointer (some ⟨bc, 0, none⟩)) ∧ W.cell? ⟨bm, 1, none⟩ = some (.slice Ah R.length ch) ∧ W.cell? ⟨bm, 2, none⟩ = some (.slice At x.taken.length ct) ∧ W.cell? ⟨bm, 3, none⟩ = some (.slice Al x.late.length cl) ∧ W.cell? ⟨bm, 4, none⟩ = some (.slice Ag gs.length cg) ∧ W.cell? ⟨bc, 3, none⟩ = some (.int .i64 x.clk.mark) from fun W hW =>
    ⟨(hW.cell (p := ⟨bm, 0, none⟩) hbm).trans c0, (hW.cell (p := ⟨bm, 1, none⟩) hbm).trans c1, (hW.cell (p := ⟨bm, 2, none⟩) hbm).trans c2, (hW.cell (p := ⟨bm, 3, none⟩) hbm).trans c3, (hW.cell (p := ⟨bm, 4, none⟩) hbm).trans c4, (hW.cell (p := ⟨bc, 3, none⟩) hbc).trans k3⟩)
  have HET := Lib.hid het; have HEL := Lib.hid hel; have HGS := Lib.hid hgs; have HGR := Lib.hid hgr; have HADS := Lib.hid hads; have HKEYS := Lib.hid hkeys; have HRR := Lib.hid hRr
  have HOK := Lib.hid h.ref.ok
  have HROWL := Lib.hid (show ∀ p ∈ x.had, p.2.length ≤ 90000 from fun p hp => by
    obtain ⟨A, hM, hO, _⟩ := h.itk
    have := hO.rows p.1
    rw [row_of_mem h.ref.ok hp] at this; omega)
  have hhadl : x.had.length ≤ 80000 := by obtain ⟨A, hM, hO, _⟩ := h.itk; have := hO.had; omega
  clear hp hads hkeys hRr het hel hgs hgr hblk6 h
  have HMK := Lib.hid (show ∀ W, Below w.heap.size w W → Calls Tryz.prog 45 #[.pointer (some ⟨bi, 0, none⟩)] W fun r w' => r = .returned (.int .i64 x.clk.mark) ∧ W = w' from fun W hW => imark_any W F bi N x (HP.out.itk.up hW))
  have HTK := Lib.hid (show ∀ W, Below w.heap.size w W → Calls Tryz.prog 15 #[.pointer (some ⟨bi, 0, none⟩)] W (OwnPost W x.taken) from fun W hW => itaken_any W F bi N x (HP.out.itk.up hW) (by omega))
  have HLT := Lib.hid (show ∀ W, Below w.heap.size w W → Calls Tryz.prog 35 #[.pointer (some ⟨bi, 0, none⟩)] W (OwnPost W x.late) from fun W hW => ilate_any W F bi N x (HP.out.itk.up hW) (by omega))
  have HST := Lib.hid (show ∀ W, Below w.heap.size w W → Calls Tryz.prog 70 #[.pointer (some ⟨bi, 0, none⟩)] W (OwnPost W (x.taken.filter (setlB x.clk.mark))) from fun W hW => (settled_any W F bi N x (HP.out.itk.up hW) (by omega)).mono fun e w' ⟨k, v, hk, he, ho, hb⟩ => ⟨v, he, by rw [← set_filter hk]; exact ho, hb⟩)
  have HRS := Lib.hid (show ∀ W, Below w.heap.size w W → Calls Tryz.prog 71 #[.pointer (some ⟨bm, 0, none⟩)] W (OwnPost W (x.taken.filter (setlB x.clk.mark))) from fun W hW => (rsettled_any W bm bc S N x (HP.out.ref.up hW) (by omega)).mono fun e w' h => h)
  have HGN := Lib.hid (show ∀ W, Below w.heap.size w W → Calls Tryz.prog 17 #[.pointer (some ⟨bi, 0, none⟩)] W (SrcPost W gs) from fun W hW => (igone_any W F bi N x (HP.out.itk.up hW) (by omega)).mono fun e w' ⟨v, r, he, hr, ho, hb⟩ => ⟨v, he, by rw [← rising_unique hr HGR.out]; exact ho, hb⟩)
  have HHD := Lib.hid (show ∀ W, Below w.heap.size w W → Calls Tryz.prog 39 #[.pointer (some ⟨bi, 0, none⟩)] W (HadPost W x.had) from fun W hW => ihad_any W F bi N x (HP.out.itk.up hW) (by omega))
  have HTX := Lib.hid (show ∀ W, Below w.heap.size w W → Calls Tryz.prog 41 #[.slice Ah R.length ch] W (TxtPost W (encH x.had)) from fun W hW => rtext_any W S Ah ch R (HADS.out.stay (F := fun _ => False) (Keep.of_below hW) (fun _ h => h.elim)) x.had HKEYS.out HOK.out (by omega) (fun q hq => by have := HRR.out q hq; omega) HROWL.out)
  have HB := Lib.hid (show Below w.heap.size w w.drew from (Below.refl _ _).drew)
  go_enter Tryz.func32, Tryz.ntmps32
  go_wp2
  have hS := HSS.out w (Below.refl _ _)
  clear c0 c1 c2 c3 c4 k3
  -- region
  refine wp_region_held_drew (S := fun W => W.cell? ⟨bm, 0, none⟩ = some (.pointer (some ⟨bc, 0, none⟩)) ∧ W.cell? ⟨bm, 1, none⟩ = some (.slice Ah R.length ch) ∧ W.cell? ⟨bm, 2, none⟩ = some (.slice At x.taken.length ct) ∧ W.cell? ⟨bm, 3, none⟩ = some (.slice Al x.late.length cl) ∧ W.cell? ⟨bm, 4, none⟩ = some (.slice Ag gs.length cg) ∧ W.cell? ⟨bc, 3, none⟩ = some (.int .i64 x.clk.mark)) (by kernel_rfl) ?_ (fun hHeld => ?_)
  · exact HSS.out _ HB.out
  refine wpAnyH_take (i := 0) (oi := ⟨some 5, _, _, _, _, _⟩) (v := ?v0) rfl (by kernel_rfl) (by kernel_rfl) (by kernel_rfl) (fun _ _ _ h => h) (Or.inl ⟨by rfl, ?y0⟩) (by assumption) ?r0
  case y0 => (intro wz hSz; (try dsimp only at hSz); go_simp; (first | done | with_reducible rfl))
  try simp only [Act.put, List.setIfInBounds_toArray, List.set_cons_zero, List.set_cons_succ]
  refine wpAnyH_take (i := 2) (oi := ⟨some 7, _, _, _, _, _⟩) (v := ?v2) rfl (by kernel_rfl) (by kernel_rfl) (by kernel_rfl) (fun _ _ _ h => h) (Or.inl ⟨by rfl, ?y2⟩) (by assumption) ?r2
  case y2 => (intro wz hSz; (try dsimp only at hSz); go_simp; (first | done | with_reducible rfl))
  try simp only [Act.put, List.setIfInBounds_toArray, List.set_cons_zero, List.set_cons_succ]
  refine wpAnyH_take (i := 3) (oi := ⟨some 8, _, _, _, _, _⟩) (v := ?v3) rfl (by kernel_rfl) (by kernel_rfl) (by kernel_rfl) (fun _ _ _ h => h) (Or.inl ⟨by rfl, ?y3⟩) (by assumption) ?r3
  case y3 => (intro wz hSz; (try dsimp only at hSz); go_simp; (first | done | with_reducible rfl))
  try simp only [Act.put, List.setIfInBounds_toArray, List.set_cons_zero, List.set_cons_succ]
  refine wpAnyH_take (i := 4) (oi := ⟨some 9, _, _, _, _, _⟩) (v := ?v4) rfl (by kernel_rfl) (by kernel_rfl) (by kernel_rfl) (fun _ _ _ h => h) (Or.inl ⟨by rfl, ?y4⟩) (by assumption) ?r4
  case y4 => (intro wz hSz; (try dsimp only at hSz); go_simp; (first | done | with_reducible rfl))
  try simp only [Act.put, List.setIfInBounds_toArray, List.set_cons_zero, List.set_cons_succ]
  refine wpAnyH_take (i := 5) (oi := ⟨some 10, _, _, _, _, _⟩) (v := ?v5) rfl (by kernel_rfl) (by kernel_rfl) (by kernel_rfl) (fun _ _ _ h => h) (Or.inl ⟨by rfl, ?y5⟩) (by assumption) ?r5
  case y5 => (intro wz hSz; (try dsimp only at hSz); go_simp; (first | done | with_reducible rfl))
  try simp only [Act.put, List.setIfInBounds_toArray, List.set_cons_zero, List.set_cons_succ]
  refine wpAnyH_take (i := 6) (oi := ⟨some 11, _, _, _, _, _⟩) (v := ?v6) rfl (by kernel_rfl) (by kernel_rfl) (by kernel_rfl) (fun _ _ _ h => h) (Or.inl ⟨by rfl, ?y6⟩) (by assumption) ?r6
  case y6 => (intro wz hSz; (try dsimp only at hSz); go_simp; (first | done | with_reducible rfl))
  try simp only [Act.put, List.setIfInBounds_toArray, List.set_cons_zero, List.set_cons_succ]
  refine wpAnyH_take (i := 7) (oi := ⟨some 12, _, _, _, _, _⟩) (v := ?v7) rfl (by kernel_rfl) (by kernel_rfl) (by kernel_rfl) (fun _ _ _ h => h) (Or.inl ⟨by rfl, ?y7⟩) (by assumption) ?r7
  case y7 => (intro wz hSz; (try dsimp only at hSz); go_simp; (first | done | with_reducible rfl))
  try simp only [Act.put, List.setIfInBounds_toArray, List.set_cons_zero, List.set_cons_succ]
  refine wpAnyH_take (i := 8) (oi := ⟨some 13, _, _, _, _, _⟩) (v := ?v8) rfl (by kernel_rfl) (by kernel_rfl) (by kernel_rfl) (fun _ _ _ h => h) (Or.inl ⟨by rfl, ?y8⟩) (by assumption) ?r8
  case y8 => (intro wz hSz; (try dsimp only at hSz); go_simp; (first | done | with_reducible rfl))
  try simp only [Act.put, List.setIfInBounds_toArray, List.set_cons_zero, List.set_cons_succ]
  refine wpAnyH_ready (rs := [1]) (by kernel_rfl) (by simp) ?_
  refine AllReadyH.cons (o := ⟨some 6, _, _, _, _, _⟩) rfl (fun K hK => ?_) AllReadyH.nil
  go_simp
  go_wp2_with ((go_at_call 45; (with_reducible refine (HMK.out _ HB.out).mono ?_); rintro r9 w9 ⟨rfl, rfl⟩))
  refine hK.out _ _ ?_ (fun hHeld => ?_)
  · exact HSS.out _ HB.out
  clear hK K
  refine wpAnyH_take (i := 9) (oi := ⟨some 14, _, _, _, _, _⟩) (v := ?v9) rfl (by kernel_rfl) (by kernel_rfl) (by kernel_rfl) (fun _ _ _ h => h) (Or.inl ⟨by rfl, ?y9⟩) (by assumption) ?r9
  case y9 => (intro wz hSz; (try dsimp only at hSz); go_simp; (first | done | with_reducible rfl))
  try simp only [Act.put, List.setIfInBounds_toArray, List.set_cons_zero, List.set_cons_succ]
  refine wpAnyH_take (i := 10) (oi := ⟨some 15, _, _, _, _, _⟩) (v := ?v10) rfl (by kernel_rfl) (by kernel_rfl) (by kernel_rfl) (fun _ _ _ h => h) (Or.inl ⟨by rfl, ?y10⟩) (by assumption) ?r10
  case y10 => (intro wz hSz; (try dsimp only at hSz); go_simp; (first | done | with_reducible rfl))
  try simp only [Act.put, List.setIfInBounds_toArray, List.set_cons_zero, List.set_cons_succ]
  refine wpAnyH_take (i := 11) (oi := ⟨some 16, _, _, _, _, _⟩) (v := ?v11) rfl (by kernel_rfl) (by kernel_rfl) (by kernel_rfl) (fun _ _ _ h => h) (Or.inl ⟨by rfl, ?y11⟩) (by assumption) ?r11
  case y11 => (intro wz hSz; (try dsimp only at hSz); go_simp; (first | done | with_reducible rfl))
  try simp only [Act.put, List.setIfInBounds_toArray, List.set_cons_zero, List.set_cons_succ]
  refine wpAnyH_take (i := 13) (oi := ⟨some 18, _, _, _, _, _⟩) (v := ?v13) rfl (by kernel_rfl) (by kernel_rfl) (by kernel_rfl) (fun _ _ _ h => h) (Or.inl ⟨by rfl, ?y13⟩) (by assumption) ?r13
  case y13 => (intro wz hSz; (try dsimp only at hSz); go_simp; (first | done | with_reducible rfl))
  try simp only [Act.put, List.setIfInBounds_toArray, List.set_cons_zero, List.set_cons_succ]
  refine wpAnyH_take (i := 14) (oi := ⟨some 19, _, _, _, _, _⟩) (v := ?v14) rfl (by kernel_rfl) (by kernel_rfl) (by kernel_rfl) (fun _ _ _ h => h) (Or.inl ⟨by rfl, ?y14⟩) (by assumption) ?r14
  case y14 => (intro wz hSz; (try dsimp only at hSz); go_simp; (first | done | with_reducible rfl))
  try simp only [Act.put, List.setIfInBounds_toArray, List.set_cons_zero, List.set_cons_succ]
  refine wpAnyH_take (i := 15) (oi := ⟨some 20, _, _, _, _, _⟩) (v := ?v15) rfl (by kernel_rfl) (by kernel_rfl) (by kernel_rfl) (fun _ _ _ h => h) (Or.inl ⟨by rfl, ?y15⟩) (by assumption) ?r15
  case y15 => (intro wz hSz; (try dsimp only at hSz); go_simp; (first | done | with_reducible rfl))
  try simp only [Act.put, List.setIfInBounds_toArray, List.set_cons_zero, List.set_cons_succ]
  refine wpAnyH_take (i := 16) (oi := ⟨some 21, _, _, _, _, _⟩) (v := ?v16) rfl (by kernel_rfl) (by kernel_rfl) (by kernel_rfl) (fun _ _ _ h => h) (Or.inl ⟨by rfl, ?y16⟩) (by assumption) ?r16
  case y16 => (intro wz hSz; (try dsimp only at hSz); go_simp; (first | done | with_reducible rfl))
  try simp only [Act.put, List.setIfInBounds_toArray, List.set_cons_zero, List.set_cons_succ]
  refine wpAnyH_ready (rs := [12]) (by kernel_rfl) (by simp) ?_
  refine AllReadyH.cons (o := ⟨some 17, _, _, _, _, _⟩) rfl (fun K hK => ?_) AllReadyH.nil
  go_simp
  go_wp2_with ((go_at_call 15; (with_reducible refine (HTK.out _ HB.out).mono ?_); rintro r9 w9 ⟨v9, rfl, ho9, hb9⟩; obtain ⟨B9, c9, hv9, _⟩ := ho9.form; subst hv9; have H15 := Lib.hid (show Evs w9 w9.heap.size B9 _ c9 _ from Cel.of_own ho9); have HB2 := Lib.hid (HB.out.trans (hb9.mono HB.out.size)); clear HB; have HB := HB2; clear HB2; (try clear hS); have hS := HSS.out _ HB.out; clear ho9 hb9))
  refine hK.out _ _ ?_ (fun hHeld => ?_)
  · exact hS
  clear hK K
  refine wpAnyH_ready (rs := [17]) (by kernel_rfl) (by simp) ?_
  refine AllReadyH.cons (o := ⟨some 22, _, _, _, _, _⟩) rfl (fun K hK => ?_) AllReadyH.nil
  go_simp
  go_wp2_with ((go_at_call 14; (with_reducible refine (same02_any _ _ _ _ _ _ _ _ _ H15.out (evs_below HET.out HB.out) (by first | omega | (have := List.length_filter_le (setlB x.clk.mark) x.taken; omega))).mono ?_); rintro r9 w9 ⟨rfl, q9, hw9⟩; have HB2 := Lib.hid (show Below w.heap.size w w9 by rw [hw9]; exact below_drewN HB.out q9); clear HB; have HB := HB2; clear HB2 hw9; (try clear hS); have hS := HSS.out _ HB.out))
  refine hK.out _ _ ?_ (fun hHeld => ?_)
  · exact hS
  clear hK K
  refine wpAnyH_take (i := 18) (oi := ⟨some 23, _, _, _, _, _⟩) (v := ?v18) rfl (by kernel_rfl) (by kernel_rfl) (by kernel_rfl) (fun _ _ _ h => h) (Or.inl ⟨by rfl, ?y18⟩) (by assumption) ?r18
  case y18 => (intro wz hSz; (try dsimp only at hSz); go_simp; (first | done | with_reducible rfl))
  try simp only [Act.put, List.setIfInBounds_toArray, List.set_cons_zero, List.set_cons_succ]
  refine wpAnyH_take (i := 19) (oi := ⟨some 24, _, _, _, _, _⟩) (v := ?v19) rfl (by kernel_rfl) (by kernel_rfl) (by kernel_rfl) (fun _ _ _ h => h) (Or.inl ⟨by rfl, ?y19⟩) (by assumption) ?r19
  case y19 => (intro wz hSz; (try dsimp only at hSz); go_simp; (first | done | with_reducible rfl))
  try simp only [Act.put, List.setIfInBounds_toArray, List.set_cons_zero, List.set_cons_succ]
  refine wpAnyH_take (i := 20) (oi := ⟨some 25, _, _, _, _, _⟩) (v := ?v20) rfl (by kernel_rfl) (by kernel_rfl) (by kernel_rfl) (fun _ _ _ h => h) (Or.inl ⟨by rfl, ?y20⟩) (by assumption) ?r20
  case y20 => (intro wz hSz; (try dsimp only at hSz); go_simp; (first | done | with_reducible rfl))
  try simp only [Act.put, List.setIfInBounds_toArray, List.set_cons_zero, List.set_cons_succ]
  refine wpAnyH_take (i := 22) (oi := ⟨some 27, _, _, _, _, _⟩) (v := ?v22) rfl (by kernel_rfl) (by kernel_rfl) (by kernel_rfl) (fun _ _ _ h => h) (Or.inl ⟨by rfl, ?y22⟩) (by assumption) ?r22
  case y22 => (intro wz hSz; (try dsimp only at hSz); go_simp; (first | done | with_reducible rfl))
  try simp only [Act.put, List.setIfInBounds_toArray, List.set_cons_zero, List.set_cons_succ]
  refine wpAnyH_ready (rs := [21]) (by kernel_rfl) (by simp) ?_
  refine AllReadyH.cons (o := ⟨some 26, _, _, _, _, _⟩) rfl (fun K hK => ?_) AllReadyH.nil
  go_simp
  go_wp2_with ((go_at_call 70; (with_reducible refine (HST.out _ HB.out).mono ?_); rintro r9 w9 ⟨v9, rfl, ho9, hb9⟩; obtain ⟨B9, c9, hv9, _⟩ := ho9.form; subst hv9; have H70 := Lib.hid (show Evs w9 w9.heap.size B9 _ c9 _ from Cel.of_own ho9); have HB2 := Lib.hid (HB.out.trans (hb9.mono HB.out.size)); clear HB; have HB := HB2; clear HB2; (try clear hS); have hS := HSS.out _ HB.out; clear ho9 hb9))
  refine hK.out _ _ ?_ (fun hHeld => ?_)
  · exact hS
  clear hK K
  refine wpAnyH_ready (rs := [23]) (by kernel_rfl) (by simp) ?_
  refine AllReadyH.cons (o := ⟨some 28, _, _, _, _, _⟩) rfl (fun K hK => ?_) AllReadyH.nil
  go_simp
  go_wp2_with ((go_at_call 71; (with_reducible refine (HRS.out _ HB.out).mono ?_); rintro r9 w9 ⟨v9, rfl, ho9, hb9⟩; obtain ⟨B9, c9, hv9, _⟩ := ho9.form; subst hv9; have H71 := Lib.hid (show Evs w9 w9.heap.size B9 _ c9 _ from Cel.of_own ho9); have H70x := Lib.hid (evs_below H70.out hb9); clear H70; have H70 := H70x; clear H70x; have HB2 := Lib.hid (HB.out.trans (hb9.mono HB.out.size)); clear HB; have HB := HB2; clear HB2; (try clear hS); have hS := HSS.out _ HB.out; clear ho9 hb9))
  refine hK.out _ _ ?_ (fun hHeld => ?_)
  · exact hS
  clear hK K
  refine wpAnyH_ready (rs := [24]) (by kernel_rfl) (by simp) ?_
  refine AllReadyH.cons (o := ⟨some 29, _, _, _, _, _⟩) rfl (fun K hK => ?_) AllReadyH.nil
  go_simp
  go_wp2_with ((go_at_call 14; (with_reducible refine (same02_any _ _ _ _ _ _ _ _ _ H70.out H71.out (by first | omega | (have := List.length_filter_le (setlB x.clk.mark) x.taken; omega))).mono ?_); rintro r9 w9 ⟨rfl, q9, hw9⟩; have HB2 := Lib.hid (show Below w.heap.size w w9 by rw [hw9]; exact below_drewN HB.out q9); clear HB; have HB := HB2; clear HB2 hw9; (try clear hS); have hS := HSS.out _ HB.out))
  refine hK.out _ _ ?_ (fun hHeld => ?_)
  · exact hS
  clear hK K
  refine wpAnyH_take (i := 25) (oi := ⟨some 30, _, _, _, _, _⟩) (v := ?v25) rfl (by kernel_rfl) (by kernel_rfl) (by kernel_rfl) (fun _ _ _ h => h) (Or.inl ⟨by rfl, ?y25⟩) (by assumption) ?r25
  case y25 => (intro wz hSz; (try dsimp only at hSz); go_simp; (first | done | with_reducible rfl))
  try simp only [Act.put, List.setIfInBounds_toArray, List.set_cons_zero, List.set_cons_succ]
  refine wpAnyH_take (i := 26) (oi := ⟨some 31, _, _, _, _, _⟩) (v := ?v26) rfl (by kernel_rfl) (by kernel_rfl) (by kernel_rfl) (fun _ _ _ h => h) (Or.inl ⟨by rfl, ?y26⟩) (by assumption) ?r26
  case y26 => (intro wz hSz; (try dsimp only at hSz); go_simp; (first | done | with_reducible rfl))
  try simp only [Act.put, List.setIfInBounds_toArray, List.set_cons_zero, List.set_cons_succ]
  refine wpAnyH_take (i := 27) (oi := ⟨some 32, _, _, _, _, _⟩) (v := ?v27) rfl (by kernel_rfl) (by kernel_rfl) (by kernel_rfl) (fun _ _ _ h => h) (Or.inl ⟨by rfl, ?y27⟩) (by assumption) ?r27
  case y27 => (intro wz hSz; (try dsimp only at hSz); go_simp; (first | done | with_reducible rfl))
  try simp only [Act.put, List.setIfInBounds_toArray, List.set_cons_zero, List.set_cons_succ]
  refine wpAnyH_take (i := 29) (oi := ⟨some 34, _, _, _, _, _⟩) (v := ?v29) rfl (by kernel_rfl) (by kernel_rfl) (by kernel_rfl) (fun _ _ _ h => h) (Or.inl ⟨by rfl, ?y29⟩) (by assumption) ?r29
  case y29 => (intro wz hSz; (try dsimp only at hSz); go_simp; (first | done | with_reducible rfl))
  try simp only [Act.put, List.setIfInBounds_toArray, List.set_cons_zero, List.set_cons_succ]
  refine wpAnyH_take (i := 30) (oi := ⟨some 35, _, _, _, _, _⟩) (v := ?v30) rfl (by kernel_rfl) (by kernel_rfl) (by kernel_rfl) (fun _ _ _ h => h) (Or.inl ⟨by rfl, ?y30⟩) (by assumption) ?r30
  case y30 => (intro wz hSz; (try dsimp only at hSz); go_simp; (first | done | with_reducible rfl))
  try simp only [Act.put, List.setIfInBounds_toArray, List.set_cons_zero, List.set_cons_succ]
  refine wpAnyH_take (i := 31) (oi := ⟨some 36, _, _, _, _, _⟩) (v := ?v31) rfl (by kernel_rfl) (by kernel_rfl) (by kernel_rfl) (fun _ _ _ h => h) (Or.inl ⟨by rfl, ?y31⟩) (by assumption) ?r31
  case y31 => (intro wz hSz; (try dsimp only at hSz); go_simp; (first | done | with_reducible rfl))
  try simp only [Act.put, List.setIfInBounds_toArray, List.set_cons_zero, List.set_cons_succ]
  refine wpAnyH_take (i := 32) (oi := ⟨some 37, _, _, _, _, _⟩) (v := ?v32) rfl (by kernel_rfl) (by kernel_rfl) (by kernel_rfl) (fun _ _ _ h => h) (Or.inl ⟨by rfl, ?y32⟩) (by assumption) ?r32
  case y32 => (intro wz hSz; (try dsimp only at hSz); go_simp; (first | done | with_reducible rfl))
  try simp only [Act.put, List.setIfInBounds_toArray, List.set_cons_zero, List.set_cons_succ]
  refine wpAnyH_ready (rs := [28]) (by kernel_rfl) (by simp) ?_
  refine AllReadyH.cons (o := ⟨some 33, _, _, _, _, _⟩) rfl (fun K hK => ?_) AllReadyH.nil
  go_simp
  go_wp2_with ((go_at_call 35; (with_reducible refine (HLT.out _ HB.out).mono ?_); rintro r9 w9 ⟨v9, rfl, ho9, hb9⟩; obtain ⟨B9, c9, hv9, _⟩ := ho9.form; subst hv9; have H35 := Lib.hid (show Evs w9 w9.heap.size B9 _ c9 _ from Cel.of_own ho9); have HB2 := Lib.hid (HB.out.trans (hb9.mono HB.out.size)); clear HB; have HB := HB2; clear HB2; (try clear hS); have hS := HSS.out _ HB.out; clear ho9 hb9))
  refine hK.out _ _ ?_ (fun hHeld => ?_)
  · exact hS
  clear hK K
  refine wpAnyH_ready (rs := [33]) (by kernel_rfl) (by simp) ?_
  refine AllReadyH.cons (o := ⟨some 38, _, _, _, _, _⟩) rfl (fun K hK => ?_) AllReadyH.nil
  go_simp
  go_wp2_with ((go_at_call 14; (with_reducible refine (same02_any _ _ _ _ _ _ _ _ _ H35.out (evs_below HEL.out HB.out) (by first | omega | (have := List.length_filter_le (setlB x.clk.mark) x.taken; omega))).mono ?_); rintro r9 w9 ⟨rfl, q9, hw9⟩; have HB2 := Lib.hid (show Below w.heap.size w w9 by rw [hw9]; exact below_drewN HB.out q9); clear HB; have HB := HB2; clear HB2 hw9; (try clear hS); have hS := HSS.out _ HB.out))
  refine hK.out _ _ ?_ (fun hHeld => ?_)
  · exact hS
  clear hK K
  refine wpAnyH_take (i := 34) (oi := ⟨some 39, _, _, _, _, _⟩) (v := ?v34) rfl (by kernel_rfl) (by kernel_rfl) (by kernel_rfl) (fun _ _ _ h => h) (Or.inl ⟨by rfl, ?y34⟩) (by assumption) ?r34
  case y34 => (intro wz hSz; (try dsimp only at hSz); go_simp; (first | done | with_reducible rfl))
  try simp only [Act.put, List.setIfInBounds_toArray, List.set_cons_zero, List.set_cons_succ]
  refine wpAnyH_take (i := 35) (oi := ⟨some 40, _, _, _, _, _⟩) (v := ?v35) rfl (by kernel_rfl) (by kernel_rfl) (by kernel_rfl) (fun _ _ _ h => h) (Or.inl ⟨by rfl, ?y35⟩) (by assumption) ?r35
  case y35 => (intro wz hSz; (try dsimp only at hSz); go_simp; (first | done | with_reducible rfl))
  try simp only [Act.put, List.setIfInBounds_toArray, List.set_cons_zero, List.set_cons_succ]
  refine wpAnyH_take (i := 36) (oi := ⟨some 41, _, _, _, _, _⟩) (v := ?v36) rfl (by kernel_rfl) (by kernel_rfl) (by kernel_rfl) (fun _ _ _ h => h) (Or.inl ⟨by rfl, ?y36⟩) (by assumption) ?r36
  case y36 => (intro wz hSz; (try dsimp only at hSz); go_simp; (first | done | with_reducible rfl))
  try simp only [Act.put, List.setIfInBounds_toArray, List.set_cons_zero, List.set_cons_succ]
  refine wpAnyH_take (i := 38) (oi := ⟨some 43, _, _, _, _, _⟩) (v := ?v38) rfl (by kernel_rfl) (by kernel_rfl) (by kernel_rfl) (fun _ _ _ h => h) (Or.inl ⟨by rfl, ?y38⟩) (by assumption) ?r38
  case y38 => (intro wz hSz; (try dsimp only at hSz); go_simp; (first | done | with_reducible rfl))
  try simp only [Act.put, List.setIfInBounds_toArray, List.set_cons_zero, List.set_cons_succ]
  refine wpAnyH_take (i := 39) (oi := ⟨some 44, _, _, _, _, _⟩) (v := ?v39) rfl (by kernel_rfl) (by kernel_rfl) (by kernel_rfl) (fun _ _ _ h => h) (Or.inl ⟨by rfl, ?y39⟩) (by assumption) ?r39
  case y39 => (intro wz hSz; (try dsimp only at hSz); go_simp; (first | done | with_reducible rfl))
  try simp only [Act.put, List.setIfInBounds_toArray, List.set_cons_zero, List.set_cons_succ]
  refine wpAnyH_take (i := 40) (oi := ⟨some 45, _, _, _, _, _⟩) (v := ?v40) rfl (by kernel_rfl) (by kernel_rfl) (by kernel_rfl) (fun _ _ _ h => h) (Or.inl ⟨by rfl, ?y40⟩) (by assumption) ?r40
  case y40 => (intro wz hSz; (try dsimp only at hSz); go_simp; (first | done | with_reducible rfl))
  try simp only [Act.put, List.setIfInBounds_toArray, List.set_cons_zero, List.set_cons_succ]
  refine wpAnyH_take (i := 41) (oi := ⟨some 46, _, _, _, _, _⟩) (v := ?v41) rfl (by kernel_rfl) (by kernel_rfl) (by kernel_rfl) (fun _ _ _ h => h) (Or.inl ⟨by rfl, ?y41⟩) (by assumption) ?r41
  case y41 => (intro wz hSz; (try dsimp only at hSz); go_simp; (first | done | with_reducible rfl))
  try simp only [Act.put, List.setIfInBounds_toArray, List.set_cons_zero, List.set_cons_succ]
  refine wpAnyH_ready (rs := [37]) (by kernel_rfl) (by simp) ?_
  refine AllReadyH.cons (o := ⟨some 42, _, _, _, _, _⟩) rfl (fun K hK => ?_) AllReadyH.nil
  go_simp
  go_wp2_with ((go_at_call 17; (with_reducible refine (HGN.out _ HB.out).mono ?_); rintro r9 w9 ⟨v9, rfl, ho9, hb9⟩; obtain ⟨B9, c9, hv9⟩ := ownsRow_form ho9; subst hv9; have H17 := Lib.hid (show Strs w9 w9.heap.size B9 gs.length c9 gs from Cel.of_own ho9); have HB2 := Lib.hid (HB.out.trans (hb9.mono HB.out.size)); clear HB; have HB := HB2; clear HB2; (try clear hS); have hS := HSS.out _ HB.out; clear ho9 hb9))
  refine hK.out _ _ ?_ (fun hHeld => ?_)
  · exact hS
  clear hK K
  refine wpAnyH_ready (rs := [42]) (by kernel_rfl) (by simp) ?_
  refine AllReadyH.cons (o := ⟨some 47, _, _, _, _, _⟩) rfl (fun K hK => ?_) AllReadyH.nil
  go_simp
  go_wp2_with ((go_at_call 16; (with_reducible refine (texts_any _ _ _ _ _ _ _ _ _ H17.out (strs_below HGS.out HB.out) (by omega)).mono ?_); rintro r9 w9 ⟨rfl, q9, hw9⟩; have HB2 := Lib.hid (show Below w.heap.size w w9 by rw [hw9]; exact below_drewN HB.out q9); clear HB; have HB := HB2; clear HB2 hw9; (try clear hS); have hS := HSS.out _ HB.out))
  refine hK.out _ _ ?_ (fun hHeld => ?_)
  · exact hS
  clear hK K
  refine wpAnyH_take (i := 43) (oi := ⟨some 48, _, _, _, _, _⟩) (v := ?v43) rfl (by kernel_rfl) (by kernel_rfl) (by kernel_rfl) (fun _ _ _ h => h) (Or.inl ⟨by rfl, ?y43⟩) (by assumption) ?r43
  case y43 => (intro wz hSz; (try dsimp only at hSz); go_simp; (first | done | with_reducible rfl))
  try simp only [Act.put, List.setIfInBounds_toArray, List.set_cons_zero, List.set_cons_succ]
  refine wpAnyH_take (i := 44) (oi := ⟨some 49, _, _, _, _, _⟩) (v := ?v44) rfl (by kernel_rfl) (by kernel_rfl) (by kernel_rfl) (fun _ _ _ h => h) (Or.inl ⟨by rfl, ?y44⟩) (by assumption) ?r44
  case y44 => (intro wz hSz; (try dsimp only at hSz); go_simp; (first | done | with_reducible rfl))
  try simp only [Act.put, List.setIfInBounds_toArray, List.set_cons_zero, List.set_cons_succ]
  refine wpAnyH_take (i := 45) (oi := ⟨some 50, _, _, _, _, _⟩) (v := ?v45) rfl (by kernel_rfl) (by kernel_rfl) (by kernel_rfl) (fun _ _ _ h => h) (Or.inl ⟨by rfl, ?y45⟩) (by assumption) ?r45
  case y45 => (intro wz hSz; (try dsimp only at hSz); go_simp; (first | done | with_reducible rfl))
  try simp only [Act.put, List.setIfInBounds_toArray, List.set_cons_zero, List.set_cons_succ]
  refine wpAnyH_take (i := 49) (oi := ⟨some 54, _, _, _, _, _⟩) (v := ?v49) rfl (by kernel_rfl) (by kernel_rfl) (by kernel_rfl) (fun _ _ _ h => h) (Or.inl ⟨by rfl, ?y49⟩) (by assumption) ?r49
  case y49 => (intro wz hSz; (try dsimp only at hSz); go_simp; (first | done | with_reducible rfl))
  try simp only [Act.put, List.setIfInBounds_toArray, List.set_cons_zero, List.set_cons_succ]
  refine wpAnyH_take (i := 50) (oi := ⟨some 55, _, _, _, _, _⟩) (v := ?v50) rfl (by kernel_rfl) (by kernel_rfl) (by kernel_rfl) (fun _ _ _ h => h) (Or.inl ⟨by rfl, ?y50⟩) (by assumption) ?r50
  case y50 => (intro wz hSz; (try dsimp only at hSz); go_simp; (first | done | with_reducible rfl))
  try simp only [Act.put, List.setIfInBounds_toArray, List.set_cons_zero, List.set_cons_succ]
  refine wpAnyH_take (i := 51) (oi := ⟨some 56, _, _, _, _, _⟩) (v := ?v51) rfl (by kernel_rfl) (by kernel_rfl) (by kernel_rfl) (fun _ _ _ h => h) (Or.inl ⟨by rfl, ?y51⟩) (by assumption) ?r51
  case y51 => (intro wz hSz; (try dsimp only at hSz); go_simp; (first | done | with_reducible rfl))
  try simp only [Act.put, List.setIfInBounds_toArray, List.set_cons_zero, List.set_cons_succ]
  refine wpAnyH_take (i := 52) (oi := ⟨some 57, _, _, _, _, _⟩) (v := ?v52) rfl (by kernel_rfl) (by kernel_rfl) (by kernel_rfl) (fun _ _ _ h => h) (Or.inl ⟨by rfl, ?y52⟩) (by assumption) ?r52
  case y52 => (intro wz hSz; (try dsimp only at hSz); go_simp; (first | done | with_reducible rfl))
  try simp only [Act.put, List.setIfInBounds_toArray, List.set_cons_zero, List.set_cons_succ]
  refine wpAnyH_ready (rs := [46]) (by kernel_rfl) (by simp) ?_
  refine AllReadyH.cons (o := ⟨some 51, _, _, _, _, _⟩) rfl (fun K hK => ?_) AllReadyH.nil
  go_simp
  go_wp2_with ((go_at_call 39; (with_reducible refine (HHD.out _ HB.out).mono ?_); rintro r9 w9 ⟨bs9, bm9, G9, V9, rfl, hd9, hb9, _⟩; have H39 := Lib.hid hd9; have HB2 := Lib.hid (HB.out.trans (hb9.mono HB.out.size)); clear HB; have HB := HB2; clear HB2; (try clear hS); have hS := HSS.out _ HB.out; clear hd9 hb9))
  refine hK.out _ _ ?_ (fun hHeld => ?_)
  · exact hS
  clear hK K
  refine wpAnyH_ready (rs := [47]) (by kernel_rfl) (by simp) ?_
  refine AllReadyH.cons (o := ⟨some 52, _, _, _, _, _⟩) rfl (fun K hK => ?_) AllReadyH.nil
  go_simp
  go_wp2_with ((go_at_call 40; (with_reducible refine (encode_any _ G9 bs9 bm9 x.had V9 H39.out (by omega) HROWL.out).mono ?_); rintro r9 w9 ⟨v9, rfl, ho9, hb9⟩; obtain ⟨B9, c9, hv9⟩ := OwnB.form ho9; subst hv9; have H40 := Lib.hid (OwnB.byt ho9); have HB2 := Lib.hid (HB.out.trans (hb9.mono HB.out.size)); clear HB; have HB := HB2; clear HB2; (try clear hS); have hS := HSS.out _ HB.out; clear ho9 hb9))
  refine hK.out _ _ ?_ (fun hHeld => ?_)
  · exact hS
  clear hK K
  have kc := H40.out.str (P := Tryz.prog) 65 5 9 Tryz.underlying65 Tryz.underlying5 Tryz.underlying9
  refine wpAnyH_weak (S' := fun W => (W.cell? ⟨bm, 0, none⟩ = some (.pointer (some ⟨bc, 0, none⟩)) ∧ W.cell? ⟨bm, 1, none⟩ = some (.slice Ah R.length ch) ∧ W.cell? ⟨bm, 2, none⟩ = some (.slice At x.taken.length ct) ∧ W.cell? ⟨bm, 3, none⟩ = some (.slice Al x.late.length cl) ∧ W.cell? ⟨bm, 4, none⟩ = some (.slice Ag gs.length cg) ∧ W.cell? ⟨bc, 3, none⟩ = some (.int .i64 x.clk.mark)) ∧ (convert 65 9 (.slice B9 (encH x.had).length c9)).run Tryz.prog W = .ok (.string ⟨(encH x.had).toArray⟩) W) (fun _ h => h.1) _ _ _ _ ?_
  have hHeld2 := And.intro hHeld kc
  refine wpAnyH_take (i := 48) (oi := ⟨some 53, _, _, _, _, _⟩) (v := ?v48) rfl (by kernel_rfl) (by kernel_rfl) (by kernel_rfl) (fun _ _ _ h => h) (Or.inl ⟨by rfl, ?y48⟩) (by assumption) ?r48
  case y48 => (intro wz hSz; (try dsimp only at hSz); go_simp; (first | done | with_reducible rfl))
  try simp only [Act.put, List.setIfInBounds_toArray, List.set_cons_zero, List.set_cons_succ]
  refine wpAnyH_ready (rs := [53]) (by kernel_rfl) (by simp) ?_
  refine AllReadyH.cons (o := ⟨some 58, _, _, _, _, _⟩) rfl (fun K hK => ?_) AllReadyH.nil
  go_simp
  go_wp2_with ((go_at_call 41; (with_reducible refine (HTX.out _ HB.out).mono ?_); rintro r9 w9 ⟨rfl, hb9⟩; have kc9 := ((H40.out.below hb9).more hb9.size).str (P := Tryz.prog) 65 5 9 Tryz.underlying65 Tryz.underlying5 Tryz.underlying9; have HB2 := Lib.hid (HB.out.trans (hb9.mono HB.out.size)); clear HB; have HB := HB2; clear HB2; (try clear hS); have hS := HSS.out _ HB.out; clear hb9))
  refine hK.out _ _ ?_ (fun hHeld => ?_)
  · exact ⟨hS, kc9⟩
  clear hK K
  refine wpAnyH_take (i := 54) (oi := ⟨some 59, _, _, _, _, _⟩) (v := ?v54) rfl (by kernel_rfl) (by kernel_rfl) (by kernel_rfl) (fun _ _ _ h => h) (Or.inl ⟨by rfl, ?y54⟩) (by assumption) ?r54
  case y54 => (intro wz hSz; (try dsimp only at hSz); go_simp; (first | done | with_reducible rfl))
  try simp only [Act.put, List.setIfInBounds_toArray, List.set_cons_zero, List.set_cons_succ]
  refine wpAnyH_take (i := 55) (oi := ⟨some 60, _, _, _, _, _⟩) (v := ?v55) rfl (by kernel_rfl) (by kernel_rfl) (by kernel_rfl) (fun _ _ _ h => h) (Or.inl ⟨by rfl, ?y55⟩) (by assumption) ?r55
  case y55 => (intro wz hSz; (try dsimp only at hSz); go_simp; (first | done | with_reducible rfl))
  try simp only [Act.put, List.setIfInBounds_toArray, List.set_cons_zero, List.set_cons_succ]
  refine wpAnyH_take (i := 56) (oi := ⟨some 4, _, _, _, _, _⟩) (v := ?v56) rfl (by kernel_rfl) (by kernel_rfl) (by kernel_rfl) (fun _ _ _ h => h) (Or.inl ⟨by rfl, ?y56⟩) (by assumption) ?r56
  case y56 => (intro wz hSz; (try dsimp only at hSz); go_simp; (first | done | with_reducible rfl))
  try simp only [Act.put, List.setIfInBounds_toArray, List.set_cons_zero, List.set_cons_succ]
  refine wpAnyH_done (by kernel_rfl) ?_ _
  go_wp2
  go_ret
  exact ⟨rfl, HB.out⟩
end Go.Proofs.YtoljbbmjbgepiaaGreatDoor
