/-
  Layer 8: Offer.
-/
import Derived.Test.YtoljbbmjbgepiaaGreatDoorDItkTook
import Derived.RegionTactic
import Derived.BigRegion
import Derived.Deep.DeepCutAuto
namespace Go.Proofs.YtoljbbmjbgepiaaGreatDoor
open Go.RowKit Go.Maps Go.Sort

theorem ItkAt.setClk {w w' : World} {F : Nat → Prop} {bi N M : Nat} {x : Itk} {A : ItkA} (hM : ItkMem w bi A x) (hnl : A.nl ≤ N) (hng : A.ng ≤ N) (hNM : N ≤ M) (hfo : ∀ b, A.foot bi b → F b) (hFl : ∀ b, F b → b < w.heap.size) {c : Clk} (hc : ClockAt w' A.bc A.bm c) (hk : Keep (fun b => b = A.bc ∨ b = A.bm) w w') (hok : ItkOk M { x with clk := c }) :
    ItkAt w' F bi M { x with clk := c } ∧ ItkMem w' bi A { x with clk := c } ∧ Keep F w w' :=
  ⟨⟨A, hM.setClk hc hk, hok, Nat.le_trans hnl hNM, Nat.le_trans hng hNM, hfo, fun b hb => Nat.lt_of_lt_of_le (hFl b hb) hk.size⟩, hM.setClk hc hk, hk.mono fun b _ hb => by
    rcases hb with rfl | rfl
    · exact hfo _ (.inr (.inl rfl))
    · exact hfo _ (.inr (.inr (.inl rfl)))⟩

theorem ItkOk.later {N : Nat} {x : Itk} (h : ItkOk N x) {e : Ev} (he : mayB e = true) : ItkOk (N + 1) { x with late := x.late ++ [e] } := by
  refine ⟨h.sorted, fun a ha => ?_, Nat.le_succ_of_le h.src, Nat.le_succ_of_le h.had, fun s => Nat.le_succ_of_le (h.rows s), Nat.le_succ_of_le h.taken, ?_⟩
  · rcases ha with ha | ha
    · exact h.may a (.inl ha)
    · rcases List.mem_append.1 ha with ha | ha
      · exact h.may a (.inr ha)
      · simp at ha; subst ha; exact he
  · have := h.late; simp; omega
theorem step_run_append {P : Program} {ops : Array Oper} {o : Oper} {a : Act} {w : World} {K : Act → World → Prop} {Q : Exit → Act → World → Prop} {E : Prop} (hgd : o.guard = none) (s x : Operand) (t : TypeId)
    (hop : o.op = Op.call { callee := Callee.builtin Builtin.append, args := #[s, x], argTypes := #[t, t] }) (v u : Value) (hs : a.eval s = v) (hx : a.eval x = u) {v' : Value} {w' : World}
    (hr : (Builtin.append_ #[t, t] o.type #[v, u]).run P w = .ok v' w') (hK : K (a.put o.dst v') w') : if Region.wanted o (yielded ops a.tmps) = true then Oper.wp P o a w K Q else E := by
  have hw : Region.wanted o (yielded ops a.tmps) = true := by simp [Region.wanted, hgd]
  rw [if_pos hw]
  unfold Oper.wp
  simp [execOp, hop, resolve, invoke, builtin, hs, hx, hr, Result.andThen]
  exact hK
def OfferPost (w : World) (F : Nat → Prop) (bi N : Nat) (x : Itk) (v : Int) (r : Ending) (w' : World) : Prop := r = .returned (.int .i64 v) ∧ Deeds w F bi N x w'
theorem ev_out {F : Nat → Prop} {w w' : World} (hk : Keep F w w') {b : Nat} (hb : b < w.heap.size) (hF : ¬ F b) {e : Ev} (h : EvIn w b e) : EvIn w' b e := by
  obtain ⟨a0, a1, a2, a3, a4, a5, a6, a7⟩ := h
  have key : ∀ (o : Nat) u, w.cell? ⟨b, o, none⟩ = some u → w'.cell? ⟨b, o, none⟩ = some u := fun o u hu => (hk.cell (p := ⟨b, o, none⟩) hb hF).trans hu
  exact ⟨key _ _ a0, key _ _ a1, key _ _ a2, key _ _ a3, key _ _ a4, key _ _ a5, key _ _ a6, key _ _ a7⟩
theorem MaxAt.out {F : Nat → Prop} {w w' : World} (h : MaxAt w) (hk : Keep F w w') (hF : ¬ F 0) : MaxAt w' := by
  have hl := h.lt
  obtain ⟨m, h⟩ := h; exact ⟨m, (hk.cell (p := ⟨0, 0, none⟩) hl hF).trans h⟩

set_option maxRecDepth 100000 in
set_option maxHeartbeats 4000000 in
theorem offer_any (w : World) (F : Nat → Prop) (bi N : Nat) (x : Itk) (h : ItkAt w F bi N x) (hN : N + 2 < 100000) (e : Ev) (hsm : e.small) (now : Int) (hmx : MaxAt w) (hF0 : ¬ F 0) :
    Calls Tryz.prog 30 #[.pointer (some ⟨bi, 0, none⟩), e.agg, .int .i64 now] w (OfferPost w F bi (N + 2) (x.offer e now) (x.offered e now)) := by
  obtain ⟨A, hM, hO, hnl, hng, hfoot, hFlt⟩ := h
  have HM := Lib.hid hM; have HO := Lib.hid hO; have HFO := Lib.hid hfoot; have HFL := Lib.hid hFlt; have HMX := Lib.hid hmx; have HF0 := Lib.hid hF0
  have hlt : bi < w.heap.size := hM.lt (.inl rfl)
  clear hM hO hfoot hFlt hmx hF0
  have HOF := Lib.hid (show x.offer e now = if (x.tick now).refuses e then x.tick now else if ((x.tick now).clk.tick now).hears e.src e.at_ then ((x.tick now).hear e now).took e else ((x.tick now).hear e now).lates e from rfl)
  have HOV := Lib.hid (show x.offered e now = if (x.tick now).refuses e then (x.tick now).verdict e else if ((x.tick now).clk.tick now).hears e.src e.at_ then 0 else 2 from rfl)
  unfold Ev.agg
  go_enter Tryz.func30, Tryz.ntmps30
  have hbA : Below w.heap.size w (w.alloc (evObj e)) := (Below.refl _ _).alloc (Nat.le_refl _) _
  obtain ⟨c0, c1, c2, c3, c4, c5, f2, f3, f4⟩ := (HM.out.up hbA).cells
  go_wp2_with fail
  have HE0 := Lib.hid (EvIn.new w e)
  have hsA : (w.alloc (evObj e)).heap.size = w.heap.size + 1 := by simp
  have HM0 := Lib.hid (HM.out.up hbA)
  have HMX0 := Lib.hid (HMX.out.up hbA)
  clear c0 c1 c2 c3 c4 c5 f2 f3 f4
  generalize w.alloc (evObj e) = w0 at *
  refine (tick_any w0 A.bc A.bm x.clk HM0.out.clk now).mono ?_
  rintro r w1 ⟨rfl, hc1, hk1⟩
  have hok1 : ItkOk N (x.tick now) := HO.out.tick now
  obtain ⟨hI1, hM1, hK1⟩ := ItkAt.setClk (N := N) (M := N) HM0.out hnl hng (Nat.le_refl _) HFO.out (fun b hb => by have := HFL.out b hb; omega) hc1 (hk1.mono (F := fun b => b = A.bc ∨ b = A.bm) (fun _ _ h => .inl h)) hok1
  have nF : ¬ F w.heap.size := fun h => by have := HFL.out _ h; omega
  have HI1 := Lib.hid (show ItkAt w1 F bi N (x.tick now) from hI1)
  have HM1 := Lib.hid (show ItkMem w1 bi A (x.tick now) from hM1)
  have HK1 := Lib.hid (show Keep F w w1 from (Keep.of_below (F := F) hbA).trans hK1 (fun _ _ h => h))
  have HE1 := Lib.hid (ev_out hK1 (by omega) nF HE0.out)
  have HMX1 := Lib.hid (HMX0.out.out hK1 HF0.out)
  have HO1 := Lib.hid hok1
  have hs1 := hK1.size
  clear hc1 hk1 hI1 hM1 hK1 hok1
  generalize x.tick now = y at *
  obtain ⟨e0, e1, e2, e3, e4, e5, e6, e7⟩ := HE1.out
  go_wp2_with fail
  refine (refused_any w1 F bi N y HI1.out (by omega) e hsm HMX1.out).mono ?_
  rintro r w2 ⟨rfl, hb2⟩
  have HI2 := Lib.hid (HI1.out.up hb2)
  have HM2 := Lib.hid (HM1.out.up hb2)
  have HK2 := Lib.hid (HK1.out.trans (Keep.of_below (F := F) hb2) (fun _ _ h => h))
  have HE2 := Lib.hid (HE1.out.below hb2 (by omega))
  have HMX2 := Lib.hid (HMX1.out.up hb2)
  have hs2 := hb2.size
  clear e0 e1 e2 e3 e4 e5 e6 e7 hb2
  cases href : y.refuses e
  · have HREF := Lib.hid href
    have hww : y.wrong e = false ∧ hadB y.had e.src e.num = false := by
      unfold Itk.refuses at href
      simpa using href
    have HMAY := Lib.hid (show mayB e = true by
      have := hww.1
      unfold Itk.wrong at this
      simp only [Bool.or_eq_false_iff, Bool.not_eq_false'] at this
      exact this.1.1)
    have HHAD := Lib.hid hww.2
    clear href hww
    obtain ⟨c0, c1, c2, c3, c4, c5, f2, f3, f4⟩ := HM2.out.cells
    obtain ⟨e0, e1, e2, e3, e4, e5, e6, e7⟩ := HE2.out
    go_wp2
    go_still_tail 9, (by kernel_rfl)
    change wpList _ _ _ _ _ (w2.drewN 1)
    have hbq : Below w2.heap.size w2 (w2.drewN 1) := below_drewN (Below.refl _ _) 1
    have hsq : (w2.drewN 1).heap.size = w2.heap.size := rfl
    clear e0 e1 e2 e3 e4 e5 e6 e7 c0 c1 c2 c3 c4 c5 f2 f3 f4
    generalize w2.drewN 1 = w3 at *
    have HM3 := Lib.hid (HM2.out.up hbq)
    have HE3 := Lib.hid (HE2.out.below hbq (by omega))
    have HK3 := Lib.hid (HK2.out.trans (Keep.of_below (F := F) hbq) (fun _ _ h => h))
    clear hbq
    go_wp2_with fail
    refine (hear_any w3 A.bc A.bm y.clk HM3.out.clk e.src e.at_ now (by have := HO1.out.src; omega)).mono ?_
    rintro r w4 ⟨rfl, hc4, hk4⟩
    have hok4 : ItkOk (N + 1) (y.hear e now) := HO1.out.hear e now
    obtain ⟨hI4, hM4, hK4⟩ := ItkAt.setClk (N := N) (M := N + 1) HM3.out hnl hng (by omega) HFO.out (fun b hb => by have := HFL.out b hb; omega) hc4 hk4 hok4
    have HI4 := Lib.hid (show ItkAt w4 F bi (N + 1) (y.hear e now) from hI4)
    have HM4 := Lib.hid (show ItkMem w4 bi A (y.hear e now) from hM4)
    have HK4 := Lib.hid (HK3.out.trans hK4 (fun _ _ h => h))
    have HE4 := Lib.hid (ev_out hK4 (by omega) nF HE3.out)
    have HO4 := Lib.hid hok4
    have hs4 := hK4.size
    have HH4 := Lib.hid (show (y.hear e now).had = y.had from rfl)
    clear hc4 hk4 hI4 hM4 hK4 hok4
    have HOF2 := Lib.hid (show x.offer e now = if (y.clk.tick now).hears e.src e.at_ then (y.hear e now).took e else (y.hear e now).lates e by rw [HOF.out, HREF.out]; rfl)
    have HOV2 := Lib.hid (show x.offered e now = if (y.clk.tick now).hears e.src e.at_ then 0 else 2 by rw [HOV.out, HREF.out]; rfl)
    generalize (y.clk.tick now).hears e.src e.at_ = ok at *
    generalize y.hear e now = z at *
    obtain ⟨e0, e1, e2, e3, e4, e5, e6, e7⟩ := HE4.out
    cases ok
    · have HV := Lib.hid (show x.offered e now = 2 by rw [HOV2.out]; rfl)
      have HR := Lib.hid (show x.offer e now = if idOf e ∈ z.late.map idOf then z else { z with late := z.late ++ [e] } by rw [HOF2.out]; rfl)
      go_wp2_with fail
      refine (ident_any w4 e).mono ?_
      rintro r w5 ⟨rfl, hb5⟩
      have hs5 := hb5.size
      clear e0 e1 e2 e3 e4 e5 e6 e7
      have hbI : Below w4.heap.size w4 (w5.alloc (.cells #[.string ⟨e.src.toArray⟩, .int .i64 e.num] 100)) := hb5.alloc hs5 _
      have hM6 := HM4.out.up hbI
      have hE6 := HE4.out.below hbI (by omega)
      have hI6 : ∀ o, (w5.alloc (.cells #[.string ⟨e.src.toArray⟩, .int .i64 e.num] 100)).cell? ⟨w5.heap.size, o, none⟩ = _ := fun o => cell_of_row _ w5.heap.size o _ _ (0, 0) (heap_alloc_new w5 _)
      have hI60 := (hI6 0).trans rfl
      have hI61 := (hI6 1).trans rfl
      have hs6 : (w5.alloc (.cells #[.string ⟨e.src.toArray⟩, .int .i64 e.num] 100)).heap.size = w5.heap.size + 1 := by simp
      have hlk6 : ∀ k, (Instr.lookup 75 (.map (some A.bl)) (.agg #[.string ⟨e.src.toArray⟩, .int .i64 e.num]) false).run Tryz.prog ((w5.alloc (.cells #[.string ⟨e.src.toArray⟩, .int .i64 e.num] 100)).drewN k) = .ok (.bool (decide ((e.src, e.num) ∈ z.late.map idOf))) ((w5.alloc (.cells #[.string ⟨e.src.toArray⟩, .int .i64 e.num] 100)).drewN k) := fun k =>
        (SetI.block (w' := (w5.alloc (.cells #[.string ⟨e.src.toArray⟩, .int .i64 e.num] 100)).drewN k) hM6.lates rfl).look e.src e.num (may_id HMAY.out)
      have hlk0 := hM6.lates.look e.src e.num (may_id HMAY.out)
      have hcells6 := hM6.cells
      have HM6 := Lib.hid hM6; have HE6 := Lib.hid hE6; have HI6 := Lib.hid (HI4.out.up hbI)
      have HK6 := Lib.hid (HK4.out.trans (Keep.of_below (F := F) hbI) (fun _ _ h => h))
      clear hI6 hM6 hE6 hb5 hbI
      obtain ⟨c0, c1, c2, c3, c4, c5, f2, f3, f4⟩ := hcells6
      go_wp2
      generalize w5.alloc (.cells #[.string ⟨e.src.toArray⟩, .int .i64 e.num] 100) = w6 at *
      have HRR := Lib.hid (show x.offer e now = if (e.src, e.num) ∈ z.late.map idOf then z else { z with late := z.late ++ [e] } from HR.out)
      cases hin : decide ((e.src, e.num) ∈ z.late.map idOf)
      · have HR2 := Lib.hid (show x.offer e now = { z with late := z.late ++ [e] } by rw [HRR.out, if_neg (of_decide_eq_false hin)])
        rw [hin] at hlk6 hlk0
        clear hin
        go_quiet (fail)
        have HM7 := Lib.hid (show ItkMem (w6.drewN nq) bi A z from HM6.out.keep (Nat.le_refl _) (fun _ _ => rfl))
        have HE7 := Lib.hid (show EvIn (w6.drewN nq) w.heap.size e from HE6.out)
        have HK7 := Lib.hid (HK6.out.drewN nq)
        have hs7 : (w6.drewN nq).heap.size = w6.heap.size := rfl
        have i0 : (w6.drewN nq).cell? ⟨w5.heap.size, 0, none⟩ = _ := hI60
        have i1 : (w6.drewN nq).cell? ⟨w5.heap.size, 1, none⟩ = _ := hI61
        clear hlk6 hlk0 hI60 hI61 c0 c1 c2 c3 c4 c5 f2 f3 f4
        generalize w6.drewN nq = w7 at *
        obtain ⟨c0, c1, c2, c3, c4, c5, f2, f3, f4⟩ := HM7.out.cells
        go_wp2
        go_still_tail 5, (by kernel_rfl)
        change wpList _ _ _ _ _ (w7.drewN 1)
        have HS7 := Lib.hid (SetI.block (w' := w7.drewN 1) HM7.out.lates rfl)
        refine wpList_idput rfl (.tmp 47) (.tmp 48) _ rfl A.bl A.nl (z.late.map idOf) rfl HS7.out (by unfold maxLen; omega) e.src e.num rfl (may_id HMAY.out) rfl ?_
        intro w8 hs8 hg8
        have hg8' : w7.grownBy w8 (some A.bl) := ⟨hg8.os, hg8.tape, hg8.output, hg8.size, hg8.block⟩
        have hsz8 := hg8'.size
        have hbl8 := HM.out.lates.lt
        have hbi7 := HM7.out.lt (.inl rfl : A.foot bi bi)
        have hbi8 : w8.heap[bi]? = some (itkObj A) := (hg8'.block bi hbi7 (fun q => HM7.out.il (by injection q))).trans HM7.out.blk
        have hE8 : EvIn w8 w.heap.size e := ev_out (F := fun b => b = A.bl) (Keep.of_grown hg8' (fun k h => by injection h with h; exact h.symm)) (by omega) (by omega) HE7.out
        have hol8 : OwnE w8 0 A.vl z.late := HM7.out.late.keep fun b hb => hg8'.block b (HM7.out.late.lt hb) (fun q => (HM7.out.ev (HM7.out.late.typ hb)).2.2.2.2.1 (by injection q))
        obtain ⟨B, cp, hvl, hcm⟩ := hol8.form
        have HS8 := Lib.hid hs8; have HG8 := Lib.hid hg8'; have HOL8 := Lib.hid hol8; have HBI8 := Lib.hid hbi8
        have HK8 := Lib.hid (HK7.out.trans (Keep.of_grown (F := F) hg8' (fun k h => by injection h with h; exact HFO.out k (.inr (.inr (.inr (.inr (.inr (.inr (.inl h.symm))))))))) (fun _ _ h => h))
        clear hs8 hg8 hg8' hol8 hbi8 i0 i1 c0 c1 c2 c3 c4 c5 f2 f3 f4
        obtain ⟨e0, e1, e2, e3, e4, e5, e6, e7⟩ := hE8
        have hc3 : w8.cell? ⟨bi, 3, none⟩ = some (.slice B z.late.length cp) := by rw [← hvl]; exact (cell_of_row w8 bi 3 _ _ (0, 0) HBI8.out).trans rfl
        have hbi8' : bi < w8.heap.size := by omega
        have hw8 : w.heap.size < w8.heap.size := by omega
        obtain ⟨i0, hi0, hz0, hzs, hzb⟩ := info_parts ev_info
        have hbB : Below w8.heap.size w8 (w8.alloc (evObj e)).drew := ((Below.refl _ _).alloc (Nat.le_refl _) _).drew
        have hownW : OwnE (w8.alloc (evObj e)).drew 0 (.slice B z.late.length cp) z.late := by
          have := HOL8.out.keep (w' := (w8.alloc (evObj e)).drew) (fun b hb => hbB.block b (HOL8.out.lt hb))
          rw [hvl] at this; exact this
        have hcel : Cel (w8.alloc (evObj e)).drew (w8.heap.size + 1) 8 (some ⟨w8.heap.size, 0, none⟩) 1 1 e.cells := by
          have := Cel.new (n := 1) (size := 8) w8 e.cells.toArray 28 (by unfold maxLen; omega) rfl
          exact Cel.keep (w' := (w8.alloc (evObj e)).drew) this (fun _ _ => rfl)
        have hap := fun ty => run_app (P := Tryz.prog) (w8.alloc (evObj e)).drew 22 ty 28 i0 _ 8 96 Tryz.underlying22 hi0 hz0 hzs hzb rfl (by decide) 0 _ z.late.length (evCells z.late) hownW (w8.heap.size + 1) _ 1 1 e.cells hcel (cells_one e) (by have := HO4.out.late; unfold maxLen; omega) (by have := HO4.out.late; omega) (Nat.zero_le _)
        obtain ⟨v9, w9, hr9, ho9, hg9, hb9⟩ := hap 22
        obtain ⟨B9, cp9, rfl⟩ := ownsRow_form ho9
        clear hap
        have nbi : (Value.slice B z.late.length cp).ownBlock ≠ some bi := fun h => by
          rw [← hvl] at h
          exact (HM7.out.ev (HM7.out.late.typ h)).1 rfl
        have hg89 : w8.grownBy w9 A.vl.ownBlock := by
          rw [hvl]
          have := (show w8.grownBy (w8.alloc (evObj e)).drew none from ⟨hbB.os, hbB.tape, hbB.output, hbB.size, fun i hi _ => hbB.block i hi⟩)
          exact (this.but _).andThen hg9 (fun j hj => .inr hj)
        have hbi9 : w9.heap[bi]? = some (itkObj A) := (hg89.block bi hbi8' (by rw [hvl]; exact Ne.symm nbi)).trans HBI8.out
        have hc93 : w9.cell? ⟨bi, 3, none⟩ = some (.slice B z.late.length cp) := by rw [← hvl]; exact (cell_of_row w9 bi 3 _ _ (0, 0) hbi9).trans rfl
        have hf93 : w9.frozen? ⟨bi, 3, none⟩ = false := frozen_of_row w9 bi 3 _ _ hbi9
        have HOL9 := Lib.hid (show OwnE w9 0 (.slice B9 (z.late.length + 1) cp9) (z.late ++ [e]) by
          unfold OwnE
          rw [evCells_one, List.length_append]
          exact ho9)
        have HBB9 := Lib.hid (show (Value.slice B9 (z.late.length + 1) cp9).ownBlock = A.vl.ownBlock ∨ ∃ k, (Value.slice B9 (z.late.length + 1) cp9).ownBlock = some k ∧ w8.heap.size ≤ k by
          rw [hvl]
          exact hb9.imp id (fun h => ⟨_, h, hbB.size⟩))
        have HG89 := Lib.hid hg89
        have HCUT := Lib.hid (show w9.setCell ⟨bi, 3, none⟩ (.slice B9 (z.late.length + 1) cp9) = w9.setCell ⟨bi, 3, none⟩ (.slice B9 (z.late.length + 1) cp9) from rfl)
        clear ho9 hg9 hb9 hg89 hbi9 nbi hcel hownW hbB hi0 hz0 hzs hzb
        have HR9 := Lib.hid hr9
        clear hr9
        go_wp2
        go_region_law (refine step_run_append rfl (.tmp 53) (.tmp 55) 22 rfl (.slice B z.late.length cp) (.slice (some ⟨w8.heap.size, 0, none⟩) 1 1) (by simp [Act.eval]) (by simp [Act.eval]) HR9.out ?_)
        all_goals
          have HMF := Lib.hid (HM7.out.setLate HS8.out HG8.out HG89.out HOL9.out HBB9.out)
          clear hc93 hf93 hc3 e0 e1 e2 e3 e4 e5 e6 e7
          have hs9 := HG89.out.size
          go_wp2
          go_ret
          refine ⟨ret_int HV.out.symm, fun b => F b ∨ (w.heap.size ≤ b ∧ b < (w9.setCell ⟨bi, 3, none⟩ (.slice B9 (z.late.length + 1) cp9)).heap.size), ⟨_, by rw [HR2.out]; exact HMF.out, by rw [HR2.out]; exact HO4.out.later HMAY.out, by show A.nl + 1 ≤ _; omega, by show A.ng ≤ _; omega, fun b hb => ?_, fun b hb => ?_⟩, ?_, fun b hb => hb.imp id (fun h => h.1)⟩
          · have hfo := HFO.out b
            have hltb := HMF.out.lt hb
            rcases hb with rfl | rfl | rfl | hb | hb | hb | rfl | rfl
            · exact .inl (hfo (.inl rfl))
            · exact .inl (hfo (.inr (.inl rfl)))
            · exact .inl (hfo (.inr (.inr (.inl rfl))))
            · exact .inl (hfo (.inr (.inr (.inr (.inl hb)))))
            · exact .inl (hfo (.inr (.inr (.inr (.inr (.inl hb))))))
            · rcases HBB9.out with q | ⟨k, q, hk⟩
              · exact .inl (hfo (.inr (.inr (.inr (.inr (.inr (.inl (q ▸ hb))))))))
              · right
                have hb' : (Value.slice B9 (z.late.length + 1) cp9).ownBlock = some b := hb
                rw [q] at hb'; injection hb' with hb'
                exact ⟨by omega, hltb⟩
            · exact .inl (hfo (.inr (.inr (.inr (.inr (.inr (.inr (.inl rfl))))))))
            · exact .inl (hfo (.inr (.inr (.inr (.inr (.inr (.inr (.inr rfl))))))))
          · rcases hb with hb | hb
            · have := HFL.out b hb; simp [World.setCell]; omega
            · exact hb.2
          · exact (HK8.out.trans (Keep.of_grown (F := F) HG89.out (fun k h => HFO.out k (.inr (.inr (.inr (.inr (.inr (.inl h)))))))) (fun _ _ h => h)).setCell (fun _ => HFO.out bi (.inl rfl)) _
      · have HR2 := Lib.hid (show x.offer e now = z by rw [HRR.out, if_pos (of_decide_eq_true hin)])
        rw [hin] at hlk6 hlk0
        clear hin
        go_quiet (fail)
        go_wp2
        go_ret
        exact ⟨ret_int HV.out.symm, F, by rw [HR2.out]; exact (HI6.out.keep (w' := w6.drewN nq) (Nat.le_refl _) (fun _ _ => rfl)).more (by omega), HK6.out.drewN _, fun b hb => .inl hb⟩
    · have HR := Lib.hid (show x.offer e now = z.took e by rw [HOF2.out]; rfl)
      have HV := Lib.hid (show x.offered e now = 0 by rw [HOV2.out]; rfl)
      go_wp2_with fail
      refine (take_any w4 F bi (N + 1) z HI4.out (by omega) e hsm HMAY.out (by rw [HH4.out]; exact HHAD.out)).mono ?_
      rintro r w5 ⟨rfl, F5, hI5, hK5, hF5⟩
      have HI5 := Lib.hid hI5
      have HD := Lib.hid (show Deeds w F bi (N + 2) (x.offer e now) w5 from ⟨F5, by rw [HR.out]; exact hI5, HK4.out.trans hK5 (fun _ _ h => h), fun b hb => (hF5 b hb).imp id (fun h => by omega)⟩)
      clear hI5 hK5 hF5 e0 e1 e2 e3 e4 e5 e6 e7
      go_wp2
      go_ret
      exact ⟨ret_int HV.out.symm, HD.out⟩
  · have HR := Lib.hid (show x.offer e now = y by rw [HOF.out, href]; rfl)
    have HV := Lib.hid (show x.offered e now = y.verdict e by rw [HOV.out, href]; rfl)
    clear href
    go_wp2
    go_ret
    refine ⟨ret_int HV.out.symm, F, by rw [HR.out]; exact HI2.out.more (by omega), HK2.out, fun b hb => .inl hb⟩
end Go.Proofs.YtoljbbmjbgepiaaGreatDoor
