/-
  Layer 8: identity, refused.
-/
import Derived.Test.YtbejfgmdkmddnaaGreatDoorSItk
import Derived.StillTailTactics
namespace Go.Proofs.YtbejfgmdkmddnaaGreatDoor
open Go.RowKit Go.Maps Go.Sort

structure ItkCells (w : World) (bi : Nat) (A : ItkA) : Prop where
  c0 : w.cell? ⟨bi, 0, none⟩ = some (.pointer (some ⟨A.bc, 0, none⟩))
  c1 : w.cell? ⟨bi, 1, none⟩ = some (.pointer (some ⟨A.bs, 0, none⟩))
  c2 : w.cell? ⟨bi, 2, none⟩ = some A.vt
  c3 : w.cell? ⟨bi, 3, none⟩ = some A.vl
  c4 : w.cell? ⟨bi, 4, none⟩ = some (.map (some A.bl))
  c5 : w.cell? ⟨bi, 5, none⟩ = some (.map (some A.bg))
  f2 : w.frozen? ⟨bi, 2, none⟩ = false
  f3 : w.frozen? ⟨bi, 3, none⟩ = false
  f4 : w.frozen? ⟨bi, 4, none⟩ = false
theorem ItkMem.cells {w : World} {bi : Nat} {A : ItkA} {x : Itk} (h : ItkMem w bi A x) : ItkCells w bi A := by
  have key : ∀ o, w.cell? ⟨bi, o, none⟩ = _ := fun o => cell_of_row w bi o _ _ (0, 0) h.blk
  exact ⟨(key 0).trans rfl, (key 1).trans rfl, (key 2).trans rfl, (key 3).trans rfl, (key 4).trans rfl, (key 5).trans rfl, frozen_of_row w bi 2 _ _ h.blk, frozen_of_row w bi 3 _ _ h.blk, frozen_of_row w bi 4 _ _ h.blk⟩
theorem OwnE.form {w : World} {base : Nat} {v : Value} {l : List Ev} (h : OwnE w base v l) : ∃ B c, v = .slice B l.length c ∧ c ≤ maxLen := by
  rcases h.2 with ⟨e, h0⟩ | ⟨g, c, cur, e, _, _, _, hm, _⟩
  · exact ⟨none, 0, by rw [e, h0], by unfold maxLen; omega⟩
  · exact ⟨_, _, e, hm⟩

theorem ident_any (w : World) (e : Ev) : Calls Tryz.prog 47 #[e.agg] w fun r w' => r = .returned (.agg #[.string ⟨e.src.toArray⟩, .int .i64 e.num]) ∧ Below w.heap.size w w' := by
  unfold Ev.agg
  go_enter Tryz.func47, Tryz.ntmps47
  go_wp2
  exact bodyPost_ret (v := .agg #[.string ⟨e.src.toArray⟩, .int .i64 e.num]) (by simp [results, Tryz.results47, go_sem]) rfl ⟨rfl, ((Below.refl _ _).alloc (Nat.le_refl _) _).alloc (by simp) _⟩

def RefPost (x : Itk) (e : Ev) (w : World) (r : Ending) (w' : World) : Prop := r = .returned (.tuple #[.int .i64 (x.verdict e), .bool (x.refuses e)]) ∧ Below w.heap.size w w'
set_option maxRecDepth 100000 in
set_option maxHeartbeats 2000000 in
theorem refused_any (w : World) (F : Nat → Prop) (bi N : Nat) (x : Itk) (h : ItkAt w F bi N x) (hN : N ≤ 100000) (e : Ev) (hs : e.small) (hmx : MaxAt w) :
    Calls Tryz.prog 36 #[.pointer (some ⟨bi, 0, none⟩), e.agg] w (RefPost x e w) := by
  obtain ⟨A, hM, hO, hnl, hng, hfoot, hFlt⟩ := h
  have HM := Lib.hid hM; have HO := Lib.hid hO; have HMX := Lib.hid hmx
  have hlt : bi < w.heap.size := hM.lt (.inl rfl)
  clear hM hO hfoot hFlt hmx
  have HV := Lib.hid (show x.verdict e = if x.wrong e then 3 else if hadB x.had e.src e.num then 1 else 0 from rfl)
  have HR := Lib.hid (show x.refuses e = (x.wrong e || hadB x.had e.src e.num) from rfl)
  have HW := Lib.hid (show x.wrong e = (!mayB e || (decide (e.per ∈ x.gone) && (e.kind != 14)) || decide (1048576 ≤ x.taken.length)) from rfl)
  go_enter Tryz.func36, Tryz.ntmps36
  unfold Ev.agg
  go_wp2_with fail
  have hbA : Below w.heap.size w (w.alloc (evObj e)) := (Below.refl _ _).alloc (Nat.le_refl _) _
  have hin := EvIn.new w e
  have hsA : (w.alloc (evObj e)).heap.size = w.heap.size + 1 := by simp
  generalize w.alloc (evObj e) = w0 at *
  have hag : (Value.agg #[.string ⟨e.src.toArray⟩, .int .i64 e.num, .int .i64 e.at_, .int .i64 e.kind, .string ⟨e.per.toArray⟩, .string ⟨e.item.toArray⟩, .int .i64 e.val, .string ⟨e.text.toArray⟩]) = e.agg := rfl
  rw [hag]
  refine (may_any w0 e hs (HMX.out.up hbA)).mono ?_
  rintro r w1 ⟨rfl, hb1⟩
  have hbw1 : Below w.heap.size w w1 := hbA.trans (hb1.mono hbA.size)
  have HM1 := Lib.hid (HM.out.up hbw1)
  obtain ⟨c0, c1, c2, c3, c4, c5, f2, f3, f4⟩ := HM1.out.cells
  obtain ⟨e0, e1, e2, e3, e4, e5, e6, e7⟩ := hin.below hb1 (by omega)
  clear hag hin hb1 hbA
  cases hmay : mayB e
  · have HWW := Lib.hid (show x.wrong e = true by rw [HW.out, hmay]; rfl)
    clear hmay
    go_wp2
    go_ret2
    exact ⟨by rw [HV.out, HR.out, HWW.out]; rfl, hbw1⟩
  have hper : e.per.length ≤ maxLen := by obtain ⟨_, h2, _⟩ := hs; unfold maxLen; omega
  have hlk : ∀ k, (Instr.lookup 82 (.map (some A.bg)) (.string ⟨e.per.toArray⟩) false).run Tryz.prog (w1.drewN k) = .ok (.bool (decide (e.per ∈ x.gone))) (w1.drewN k) := fun k => (HM1.out.gone.drewN k).look e.per hper
  have hl0 : (Instr.lookup 82 (.map (some A.bg)) (.string ⟨e.per.toArray⟩) false).run Tryz.prog w1 = .ok (.bool (decide (e.per ∈ x.gone))) w1 := HM1.out.gone.look e.per hper
  have HMAY := Lib.hid hmay
  clear hmay hper
  have HW2 := Lib.hid (show x.wrong e = ((decide (e.per ∈ x.gone) && (e.kind != 14)) || decide (1048576 ≤ x.taken.length)) by rw [HW.out, HMAY.out]; simp)
  have ht20 : ¬ 1048576 ≤ x.taken.length := by have := HO.out.taken; omega
  have HW3 := Lib.hid (show x.wrong e = (decide (e.per ∈ x.gone) && (e.kind != 14)) by rw [HW2.out, decide_eq_false ht20]; simp)
  have ht20' : decide ((1048576 : Int) ≤ (x.taken.length : Int)) = false := decide_eq_false (by omega)
  clear HW HW2 ht20
  generalize decide (e.per ∈ x.gone) = g at *
  obtain ⟨B, c, hvt, hcm⟩ := HM.out.taken.form
  rw [hvt] at c2
  cases hg : g
  · have HWF := Lib.hid (show x.wrong e = false by rw [HW3.out, hg]; rfl)
    subst hg
    go_wp2
    go_quiet (fail)
    have hbq : Below w.heap.size w (w1.drewN nq) := below_drewN hbw1 nq
    have HMq := Lib.hid (HM.out.up hbq)
    have d1 : (w1.drewN nq).cell? ⟨bi, 1, none⟩ = _ := c1
    have d2 : (w1.drewN nq).cell? ⟨bi, 2, none⟩ = _ := c2
    have g0 : (w1.drewN nq).cell? ⟨w.heap.size, 0, none⟩ = _ := e0
    have g1 : (w1.drewN nq).cell? ⟨w.heap.size, 1, none⟩ = _ := e1
    clear hl0 hlk c0 c1 c2 c3 c4 c5 f2 f3 f4 e0 e1 e2 e3 e4 e5 e6 e7 hbw1
    generalize w1.drewN nq = w2 at *
    go_wp2
    go_still_tail 8, (by kernel_rfl)
    change wpList _ _ _ _ _ (w2.drewN 1)
    have hbq2 : Below w.heap.size w (w2.drewN 1) := below_drewN hbq 1
    have HMr := Lib.hid (HM.out.up hbq2)
    clear d1 d2 g0 g1
    generalize w2.drewN 1 = w3 at *
    go_wp2_with fail
    refine (has_any w3 A.G A.bs A.bh x.had A.V HMr.out.had e.src hs.1 (by have := HO.out.rows e.src; omega) e.num).mono ?_
    rintro r w4 ⟨rfl, hb4⟩
    have hb5 : Below w.heap.size w w4 := hbq2.trans (hb4.mono hbq2.size)
    clear hb4
    generalize hadB x.had e.src e.num = hd at *
    cases hd
    · go_wp2
      go_ret2
      exact ⟨by rw [HV.out, HR.out, HWF.out]; rfl, hb5⟩
    · go_wp2
      go_ret2
      exact ⟨by rw [HV.out, HR.out, HWF.out]; rfl, hb5⟩
  · subst hg
    by_cases hk : e.kind = 14
    · have HWF := Lib.hid (show x.wrong e = false by rw [HW3.out, hk]; rfl)
      have bk : (e.kind != 14) = false := by simpa using hk
      clear hk
      go_wp2
      go_quiet (fail)
      have hbq : Below w.heap.size w (w1.drewN nq) := below_drewN hbw1 nq
      have HMq := Lib.hid (HM.out.up hbq)
      have d1 : (w1.drewN nq).cell? ⟨bi, 1, none⟩ = _ := c1
      have d2 : (w1.drewN nq).cell? ⟨bi, 2, none⟩ = _ := c2
      have g0 : (w1.drewN nq).cell? ⟨w.heap.size, 0, none⟩ = _ := e0
      have g1 : (w1.drewN nq).cell? ⟨w.heap.size, 1, none⟩ = _ := e1
      clear hl0 hlk c0 c1 c2 c3 c4 c5 f2 f3 f4 e0 e1 e2 e3 e4 e5 e6 e7 hbw1
      generalize w1.drewN nq = w2 at *
      go_wp2
      go_still_tail 8, (by kernel_rfl)
      change wpList _ _ _ _ _ (w2.drewN 1)
      have hbq2 : Below w.heap.size w (w2.drewN 1) := below_drewN hbq 1
      have HMr := Lib.hid (HM.out.up hbq2)
      clear d1 d2 g0 g1
      generalize w2.drewN 1 = w3 at *
      go_wp2_with fail
      refine (has_any w3 A.G A.bs A.bh x.had A.V HMr.out.had e.src hs.1 (by have := HO.out.rows e.src; omega) e.num).mono ?_
      rintro r w4 ⟨rfl, hb4⟩
      have hb5 : Below w.heap.size w w4 := hbq2.trans (hb4.mono hbq2.size)
      clear hb4
      generalize hadB x.had e.src e.num = hd at *
      cases hd
      · go_wp2
        go_ret2
        exact ⟨by rw [HV.out, HR.out, HWF.out]; rfl, hb5⟩
      · go_wp2
        go_ret2
        exact ⟨by rw [HV.out, HR.out, HWF.out]; rfl, hb5⟩
    · have HWT := Lib.hid (show x.wrong e = true by rw [HW3.out]; simpa using hk)
      have bk : (e.kind != 14) = true := by simpa using hk
      clear hk
      go_wp2
      go_quiet (fail)
      go_wp2
      go_ret2
      exact ⟨by rw [HV.out, HR.out, HWT.out]; rfl, below_drewN hbw1 _⟩
end Go.Proofs.YtbejfgmdkmddnaaGreatDoor
