/-
  Layer 6: Now.
  Layer 8: Admit.
  The law's done: a deed at both intakes.
-/
import Derived.Test.YtoljbbmjbgepiaaGreatDoorMClkTick
import Derived.Test.YtoljbbmjbgepiaaGreatDoorMItkOffer
import Derived.Test.YtoljbbmjbgepiaaGreatDoorMEven
namespace Go.Proofs.YtoljbbmjbgepiaaGreatDoor
open Go.RowKit Go.Maps Go.Sort
theorem now_any (w : World) (bc bm : Nat) (c : Clk) (hc : ClockAt w bc bm c) : Calls Tryz.prog 55 #[.pointer (some ⟨bc, 0, none⟩)] w fun e w' => e = .returned (.int .i64 c.now) ∧ w = w' := by
  obtain ⟨c0, c1, c2, c3, c4, f2, f3⟩ := hc.cells
  clear hc
  go_enter Tryz.func55, Tryz.ntmps55
  go_wp2
  go_ret
  exact ⟨rfl, rfl⟩
end Go.Proofs.YtoljbbmjbgepiaaGreatDoor
namespace Go.Proofs.YtoljbbmjbgepiaaGreatDoor
open Go.RowKit Go.Maps Go.Sort

theorem now_same (w : World) (bc bm : Nat) (c : Clk) (hc : ClockAt w bc bm c) : Calls Tryz.prog 55 #[.pointer (some ⟨bc, 0, none⟩)] w fun e w' => e = .returned (.int .i64 c.now) ∧ w' = w := (now_any w bc bm c hc).mono fun _ _ h => ⟨h.1, h.2.symm⟩
set_option maxRecDepth 100000 in
set_option maxHeartbeats 4000000 in
theorem admit_any (w : World) (F : Nat → Prop) (bi N : Nat) (x : Itk) (h : ItkAt w F bi N x) (hN : N + 2 < 100000) (e : Ev) (hsm : e.small) (hmx : MaxAt w) :
    Calls Tryz.prog 22 #[.pointer (some ⟨bi, 0, none⟩), e.agg] w (OfferPost w F bi (N + 2) (x.admits e) (x.admitted e)) := by
  have HI0 := Lib.hid h
  obtain ⟨A, hM, hO, hnl, hng, hfoot, hFlt⟩ := h
  have HM := Lib.hid hM; have HO := Lib.hid hO; have HFO := Lib.hid hfoot; have HFL := Lib.hid hFlt; have HMX := Lib.hid hmx
  have hlt : bi < w.heap.size := hM.lt (.inl rfl)
  clear hM hO hfoot hFlt hmx
  have HOF := Lib.hid (show x.admits e = if x.refuses e then x else (x.hear e x.clk.now).took e from rfl)
  have HOV := Lib.hid (show x.admitted e = if x.refuses e then x.verdict e else 0 from rfl)
  have nF : ¬ F w.heap.size := fun h => by have := HFL.out _ h; omega
  unfold Ev.agg
  go_enter Tryz.func22, Tryz.ntmps22
  have hbA : Below w.heap.size w (w.alloc (evObj e)) := (Below.refl _ _).alloc (Nat.le_refl _) _
  have hsA : (w.alloc (evObj e)).heap.size = w.heap.size + 1 := by simp
  have HE1 := Lib.hid (EvIn.new w e)
  have HI1 := Lib.hid (HI0.out.up hbA)
  have HM1 := Lib.hid (HM.out.up hbA)
  have HMX1 := Lib.hid (HMX.out.up hbA)
  have HK1 := Lib.hid (show Keep F w (w.alloc (evObj e)) from Keep.of_below (F := F) hbA)
  obtain ⟨e0, e1, e2, e3, e4, e5, e6, e7⟩ := HE1.out
  go_wp2_with fail
  clear hbA
  generalize w.alloc (evObj e) = w1 at *
  refine (refused_any w1 F bi N x HI1.out (by omega) e hsm HMX1.out).mono ?_
  rintro r w2 ⟨rfl, hb2⟩
  have HI2 := Lib.hid (HI1.out.up hb2)
  have HM2 := Lib.hid (HM1.out.up hb2)
  have HK2 := Lib.hid (HK1.out.trans (Keep.of_below (F := F) hb2) (fun _ _ h => h))
  have HE2 := Lib.hid (HE1.out.below hb2 (by omega))
  have hs2 := hb2.size
  clear e0 e1 e2 e3 e4 e5 e6 e7 hb2
  cases href : x.refuses e
  · have HREF := Lib.hid href
    have hww : x.wrong e = false ∧ hadB x.had e.src e.num = false := by
      unfold Itk.refuses at href
      simpa using href
    have HMAY := Lib.hid (show mayB e = true by
      have := hww.1
      unfold Itk.wrong at this
      simp only [Bool.or_eq_false_iff, Bool.not_eq_false'] at this
      exact this.1.1)
    have HHAD := Lib.hid hww.2
    clear href hww
    obtain ⟨c0, c1, c2, c3, c4, c5, f2, f3, f4⟩ := HM2.out.cells
    obtain ⟨e0, e1, e2, e3, e4, e5, e6, e7⟩ := HE2.out
    have HNW := Lib.hid (show Calls Tryz.prog 55 #[.pointer (some ⟨A.bc, 0, none⟩)] (w2.drewN 1) fun e w' => e = .returned (.int .i64 x.clk.now) ∧ w' = w2.drewN 1 from now_same _ A.bc A.bm x.clk (HM2.out.up (below_drewN (Below.refl _ _) 1)).clk)
    go_wp2
    go_still_tail 13, (by kernel_rfl)
    still_call HNW.out
    repeat still_step
    refine wpStill_nil ?_
    change wpList _ _ _ _ _ (w2.drewN 1)
    have hbq : Below w2.heap.size w2 (w2.drewN 1) := below_drewN (Below.refl _ _) 1
    clear e0 e1 e2 e3 e4 e5 e6 e7 c0 c1 c2 c3 c4 c5 f2 f3 f4 HNW
    have HM3 := Lib.hid (HM2.out.up hbq)
    have HE3 := Lib.hid (HE2.out.below hbq (by omega))
    have HK3 := Lib.hid (HK2.out.trans (Keep.of_below (F := F) hbq) (fun _ _ h => h))
    have hs3 := hbq.size
    clear hbq
    generalize w2.drewN 1 = w3 at *
    go_wp2_with fail
    refine (hear_any w3 A.bc A.bm x.clk HM3.out.clk e.src e.at_ x.clk.now (by have := HO.out.src; omega)).mono ?_
    rintro r w4 ⟨rfl, hc4, hk4⟩
    have hok4 : ItkOk (N + 1) (x.hear e x.clk.now) := HO.out.hear e x.clk.now
    obtain ⟨hI4, hM4, hK4⟩ := ItkAt.setClk (N := N) (M := N + 1) HM3.out hnl hng (by omega) HFO.out (fun b hb => by have := HFL.out b hb; omega) hc4 hk4 hok4
    have HI4 := Lib.hid (show ItkAt w4 F bi (N + 1) (x.hear e x.clk.now) from hI4)
    have HK4 := Lib.hid (HK3.out.trans hK4 (fun _ _ h => h))
    have HE4 := Lib.hid (ev_out hK4 (by omega) nF HE3.out)
    have hs4 := hK4.size
    have HH4 := Lib.hid (show (x.hear e x.clk.now).had = x.had from rfl)
    have HR := Lib.hid (show x.admits e = (x.hear e x.clk.now).took e by rw [HOF.out, HREF.out]; rfl)
    have HV := Lib.hid (show x.admitted e = 0 by rw [HOV.out, HREF.out]; rfl)
    clear hc4 hk4 hI4 hM4 hK4 hok4
    generalize x.hear e x.clk.now = z at *
    obtain ⟨e0, e1, e2, e3, e4, e5, e6, e7⟩ := HE4.out
    go_wp2_with fail
    refine (take_any w4 F bi (N + 1) z HI4.out (by omega) e hsm HMAY.out (by rw [HH4.out]; exact HHAD.out)).mono ?_
    rintro r w5 ⟨rfl, F5, hI5, hK5, hF5⟩
    have HD := Lib.hid (show Deeds w F bi (N + 2) (x.admits e) w5 from ⟨F5, by rw [HR.out]; exact hI5, HK4.out.trans hK5 (fun _ _ h => h), fun b hb => (hF5 b hb).imp id (fun h => by omega)⟩)
    clear hI5 hK5 hF5 e0 e1 e2 e3 e4 e5 e6 e7
    go_wp2
    go_ret
    exact ⟨ret_int HV.out.symm, HD.out⟩
  · have HR := Lib.hid (show x.admits e = x by rw [HOF.out, href]; rfl)
    have HV := Lib.hid (show x.admitted e = x.verdict e by rw [HOV.out, href]; rfl)
    clear href
    go_wp2
    go_ret
    exact ⟨ret_int HV.out.symm, F, by rw [HR.out]; exact HI2.out.more (by omega), HK2.out, fun b hb => .inl hb⟩
end Go.Proofs.YtoljbbmjbgepiaaGreatDoor
namespace Go.Proofs.YtoljbbmjbgepiaaGreatDoor
open Go.RowKit Go.Maps Go.Sort Go.Shelf

theorem done1_any (w : World) (bd : Nat) (p : List UInt8) (e : Ev) (hc : w.cell? ⟨bd, 10, none⟩ = some (.string ⟨p.toArray⟩)) :
    Calls Tryz.prog 107 (#[e.agg] ++ #[.pointer (some ⟨bd, 0, none⟩)]) w (Says (offB p e) w) := by
  show Calls Tryz.prog 107 #[e.agg, .pointer (some ⟨bd, 0, none⟩)] w (Says (offB p e) w)
  have hbw : bd < w.heap.size := World.block_lt_of_cell? w ⟨bd, 10, none⟩ hc
  have hb : Below w.heap.size w (w.alloc (evObj e)) := (Below.refl _ _).alloc (Nat.le_refl _) _
  have hc' : (w.alloc (evObj e)).cell? ⟨bd, 10, none⟩ = some (.string ⟨p.toArray⟩) := (hb.cell (p := ⟨bd, 10, none⟩) hbw).trans hc
  obtain ⟨e0, e1, e2, e3, e4, e5, e6, e7⟩ := EvIn.new w e
  have HO := Lib.hid (show offB p e = (e.per != p) from rfl)
  unfold Ev.agg
  go_enter Tryz.func107, Tryz.ntmps107
  go_wp2
  go_ret
  exact ⟨ret_bool (by rw [HO.out]; rfl), hb⟩
def Dd.agg (d : Dd) : Value := .agg d.cells.toArray
abbrev ddObj (d : Dd) : Obj := .cells d.cells.toArray 96
/-- both intakes, apart -/
structure Both (w : World) (F : Nat → Prop) (bi bm bc : Nat) (S : Nat → Prop) (N : Nat) (x : Itk) : Prop where
  itk : ItkAt w F bi N x
  ref : RItk w bm bc S N x
  ap : ∀ b, F b → ¬ S b ∧ b ≠ bm ∧ b ≠ bc
/-- what a deed at both leaves -/
def BothD (w : World) (F : Nat → Prop) (bi bm bc : Nat) (S : Nat → Prop) (N : Nat) (x : Itk) (w' : World) : Prop :=
  ∃ F' S', Both w' F' bi bm bc S' N x ∧ Keep (fun b => F b ∨ b = bm ∨ b = bc) w w' ∧ (∀ b, F' b → F b ∨ w.heap.size ≤ b) ∧ ∀ b, S' b → S b ∨ w.heap.size ≤ b
theorem ItkAt.low {w : World} {F : Nat → Prop} {bi N : Nat} {x : Itk} (h : ItkAt w F bi N x) {b : Nat} (hb : F b) : b < w.heap.size := by
  obtain ⟨A, _, _, _, _, _, h6⟩ := h; exact h6 b hb
theorem Both.up {w w' : World} {F S : Nat → Prop} {bi bm bc N : Nat} {x : Itk} (h : Both w F bi bm bc S N x) (hb : Below w.heap.size w w') : Both w' F bi bm bc S N x := ⟨h.itk.up hb, h.ref.up hb, h.ap⟩
theorem Both.more {w : World} {F S : Nat → Prop} {bi bm bc N M : Nat} {x : Itk} (h : Both w F bi bm bc S N x) (hM : N ≤ M) : Both w F bi bm bc S M x := ⟨h.itk.more hM, h.ref.more hM, h.ap⟩
/-- behind the program's deed the document's intake is as it was -/
theorem Both.ref1 {w w1 : World} {F S : Nat → Prop} {bi bm bc N M : Nat} {x y : Itk} (h : Both w F bi bm bc S N x) (hd : Deeds w F bi M y w1) : RItk w1 bm bc S N x := by
  obtain ⟨F1, _, hk, _⟩ := hd
  exact h.ref.stay hk h.ap
/-- behind the document's deed the program's intake is as it was -/
theorem Both.itk1 {w w1 : World} {F S : Nat → Prop} {bi bm bc N M : Nat} {x y : Itk} (h : Both w F bi bm bc S N x) (hd : RDeeds w bm bc M S y w1) : ItkAt w1 F bi N x := by
  obtain ⟨S1, _, hk, _⟩ := hd
  exact h.itk.keep hk.size (fun b hb => hk.block b (h.itk.low hb) (fun e => e.elim (h.ap b hb).2.1 (h.ap b hb).2.2))
theorem Both.ab {w w1 w2 : World} {F S : Nat → Prop} {bi bm bc N M : Nat} {x y : Itk} (h : Both w F bi bm bc S N x) (hd : Deeds w F bi M y w1) (hr : RDeeds w1 bm bc M S y w2) : BothD w F bi bm bc S M y w2 := by
  obtain ⟨F1, hi1, hk1, hF1⟩ := hd
  obtain ⟨S2, hr2, hk2, hS2⟩ := hr
  have hbm := h.ref.lt; have hbc := h.ref.clk.lt
  have hs1 := hk1.size
  have apF : ∀ b, F1 b → b ≠ bm ∧ b ≠ bc := fun b hb => by
    rcases hF1 b hb with h' | h'
    · exact (h.ap b h').2
    · exact ⟨by omega, by omega⟩
  refine ⟨F1, S2, ⟨hi1.keep hk2.size (fun b hb => hk2.block b (hi1.low hb) (fun e => e.elim (apF b hb).1 (apF b hb).2)), hr2, fun b hb => ⟨fun hs => ?_, apF b hb⟩⟩, (hk1.mono (F := fun b => F b ∨ b = bm ∨ b = bc) (fun b _ h => .inl h)).trans hk2 (fun b _ h => .inr h), hF1, fun b hb => (hS2 b hb).imp id (fun h => by omega)⟩
  rcases hS2 b hs with h' | h'
  · rcases hF1 b hb with h2 | h2
    · exact (h.ap b h2).1 h'
    · have := h.ref.clk.low b h'; omega
  · have := hi1.low hb; omega
theorem Both.ba {w w1 w2 : World} {F S : Nat → Prop} {bi bm bc N M : Nat} {x y : Itk} (h : Both w F bi bm bc S N x) (hr : RDeeds w bm bc M S y w1) (hd : Deeds w1 F bi M y w2) : BothD w F bi bm bc S M y w2 := by
  obtain ⟨S1, hr1, hk1, hS1⟩ := hr
  obtain ⟨F2, hi2, hk2, hF2⟩ := hd
  have hs1 := hk1.size
  have hbm := hr1.lt; have hbc := hr1.clk.lt
  have apS : ∀ b, F b → ¬ S1 b ∧ b ≠ bm ∧ b ≠ bc := fun b hb => ⟨fun hs => by
    rcases hS1 b hs with h' | h'
    · exact (h.ap b hb).1 h'
    · have := h.itk.low hb; omega, (h.ap b hb).2⟩
  refine ⟨F2, S1, ⟨hi2, hr1.stay hk2 apS, fun b hb => ?_⟩, (hk1.mono (F := fun b => F b ∨ b = bm ∨ b = bc) (fun b _ h => .inr h)).trans hk2 (fun b _ h => .inl h), fun b hb => (hF2 b hb).imp id (fun h => by omega), fun b hb => hS1 b hb⟩
  rcases hF2 b hb with h' | h'
  · exact apS b h'
  · exact ⟨fun hs => by have := hr1.clk.low b hs; omega, by omega, by omega⟩
end Go.Proofs.YtoljbbmjbgepiaaGreatDoor
