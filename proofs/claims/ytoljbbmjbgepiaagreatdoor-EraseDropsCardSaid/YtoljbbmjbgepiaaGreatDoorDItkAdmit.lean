/-
  Layer 6: Now.
  Layer 8: Admit.
-/
import Derived.Test.YtoljbbmjbgepiaaGreatDoorDClkTick
import Derived.Test.YtoljbbmjbgepiaaGreatDoorDItkOffer
namespace Go.Proofs.YtoljbbmjbgepiaaGreatDoor
open Go.RowKit Go.Maps Go.Sort
theorem now_any (w : World) (bc bm : Nat) (c : Clk) (hc : ClockAt w bc bm c) : Calls Tryz.prog 55 #[.pointer (some ⟨bc, 0, none⟩)] w fun e w' => e = .returned (.int .i64 c.now) ∧ w = w' := by
  obtain ⟨c0, c1, c2, c3, c4, f2, f3⟩ := hc.cells
  clear hc
  go_enter Tryz.func55, Tryz.ntmps55
  go_wp2
  go_ret
  exact ⟨rfl, rfl⟩
end Go.Proofs.YtoljbbmjbgepiaaGreatDoor
namespace Go.Proofs.YtoljbbmjbgepiaaGreatDoor
open Go.RowKit Go.Maps Go.Sort

theorem now_same (w : World) (bc bm : Nat) (c : Clk) (hc : ClockAt w bc bm c) : Calls Tryz.prog 55 #[.pointer (some ⟨bc, 0, none⟩)] w fun e w' => e = .returned (.int .i64 c.now) ∧ w' = w := (now_any w bc bm c hc).mono fun _ _ h => ⟨h.1, h.2.symm⟩
set_option maxRecDepth 100000 in
set_option maxHeartbeats 4000000 in
theorem admit_any (w : World) (F : Nat → Prop) (bi N : Nat) (x : Itk) (h : ItkAt w F bi N x) (hN : N + 2 < 100000) (e : Ev) (hsm : e.small) (hmx : MaxAt w) :
    Calls Tryz.prog 22 #[.pointer (some ⟨bi, 0, none⟩), e.agg] w (OfferPost w F bi (N + 2) (x.admits e) (x.admitted e)) := by
  have HI0 := Lib.hid h
  obtain ⟨A, hM, hO, hnl, hng, hfoot, hFlt⟩ := h
  have HM := Lib.hid hM; have HO := Lib.hid hO; have HFO := Lib.hid hfoot; have HFL := Lib.hid hFlt; have HMX := Lib.hid hmx
  have hlt : bi < w.heap.size := hM.lt (.inl rfl)
  clear hM hO hfoot hFlt hmx
  have HOF := Lib.hid (show x.admits e = if x.refuses e then x else (x.hear e x.clk.now).took e from rfl)
  have HOV := Lib.hid (show x.admitted e = if x.refuses e then x.verdict e else 0 from rfl)
  have nF : ¬ F w.heap.size := fun h => by have := HFL.out _ h; omega
  unfold Ev.agg
  go_enter Tryz.func22, Tryz.ntmps22
  have hbA : Below w.heap.size w (w.alloc (evObj e)) := (Below.refl _ _).alloc (Nat.le_refl _) _
  have hsA : (w.alloc (evObj e)).heap.size = w.heap.size + 1 := by simp
  have HE1 := Lib.hid (EvIn.new w e)
  have HI1 := Lib.hid (HI0.out.up hbA)
  have HM1 := Lib.hid (HM.out.up hbA)
  have HMX1 := Lib.hid (HMX.out.up hbA)
  have HK1 := Lib.hid (show Keep F w (w.alloc (evObj e)) from Keep.of_below (F := F) hbA)
  obtain ⟨e0, e1, e2, e3, e4, e5, e6, e7⟩ := HE1.out
  go_wp2_with fail
  clear hbA
  generalize w.alloc (evObj e) = w1 at *
  refine (refused_any w1 F bi N x HI1.out (by omega) e hsm HMX1.out).mono ?_
  rintro r w2 ⟨rfl, hb2⟩
  have HI2 := Lib.hid (HI1.out.up hb2)
  have HM2 := Lib.hid (HM1.out.up hb2)
  have HK2 := Lib.hid (HK1.out.trans (Keep.of_below (F := F) hb2) (fun _ _ h => h))
  have HE2 := Lib.hid (HE1.out.below hb2 (by omega))
  have hs2 := hb2.size
  clear e0 e1 e2 e3 e4 e5 e6 e7 hb2
  cases href : x.refuses e
  · have HREF := Lib.hid href
    have hww : x.wrong e = false ∧ hadB x.had e.src e.num = false := by
      unfold Itk.refuses at href
      simpa using href
    have HMAY := Lib.hid (show mayB e = true by
      have := hww.1
      unfold Itk.wrong at this
      simp only [Bool.or_eq_false_iff, Bool.not_eq_false'] at this
      exact this.1.1)
    have HHAD := Lib.hid hww.2
    clear href hww
    obtain ⟨c0, c1, c2, c3, c4, c5, f2, f3, f4⟩ := HM2.out.cells
    obtain ⟨e0, e1, e2, e3, e4, e5, e6, e7⟩ := HE2.out
    have HNW := Lib.hid (show Calls Tryz.prog 55 #[.pointer (some ⟨A.bc, 0, none⟩)] (w2.drewN 1) fun e w' => e = .returned (.int .i64 x.clk.now) ∧ w' = w2.drewN 1 from now_same _ A.bc A.bm x.clk (HM2.out.up (below_drewN (Below.refl _ _) 1)).clk)
    go_wp2
    go_still_tail 13, (by kernel_rfl)
    still_call HNW.out
    repeat still_step
    refine wpStill_nil ?_
    change wpList _ _ _ _ _ (w2.drewN 1)
    have hbq : Below w2.heap.size w2 (w2.drewN 1) := below_drewN (Below.refl _ _) 1
    clear e0 e1 e2 e3 e4 e5 e6 e7 c0 c1 c2 c3 c4 c5 f2 f3 f4 HNW
    have HM3 := Lib.hid (HM2.out.up hbq)
    have HE3 := Lib.hid (HE2.out.below hbq (by omega))
    have HK3 := Lib.hid (HK2.out.trans (Keep.of_below (F := F) hbq) (fun _ _ h => h))
    have hs3 := hbq.size
    clear hbq
    generalize w2.drewN 1 = w3 at *
    go_wp2_with fail
    refine (hear_any w3 A.bc A.bm x.clk HM3.out.clk e.src e.at_ x.clk.now (by have := HO.out.src; omega)).mono ?_
    rintro r w4 ⟨rfl, hc4, hk4⟩
    have hok4 : ItkOk (N + 1) (x.hear e x.clk.now) := HO.out.hear e x.clk.now
    obtain ⟨hI4, hM4, hK4⟩ := ItkAt.setClk (N := N) (M := N + 1) HM3.out hnl hng (by omega) HFO.out (fun b hb => by have := HFL.out b hb; omega) hc4 hk4 hok4
    have HI4 := Lib.hid (show ItkAt w4 F bi (N + 1) (x.hear e x.clk.now) from hI4)
    have HK4 := Lib.hid (HK3.out.trans hK4 (fun _ _ h => h))
    have HE4 := Lib.hid (ev_out hK4 (by omega) nF HE3.out)
    have hs4 := hK4.size
    have HH4 := Lib.hid (show (x.hear e x.clk.now).had = x.had from rfl)
    have HR := Lib.hid (show x.admits e = (x.hear e x.clk.now).took e by rw [HOF.out, HREF.out]; rfl)
    have HV := Lib.hid (show x.admitted e = 0 by rw [HOV.out, HREF.out]; rfl)
    clear hc4 hk4 hI4 hM4 hK4 hok4
    generalize x.hear e x.clk.now = z at *
    obtain ⟨e0, e1, e2, e3, e4, e5, e6, e7⟩ := HE4.out
    go_wp2_with fail
    refine (take_any w4 F bi (N + 1) z HI4.out (by omega) e hsm HMAY.out (by rw [HH4.out]; exact HHAD.out)).mono ?_
    rintro r w5 ⟨rfl, F5, hI5, hK5, hF5⟩
    have HD := Lib.hid (show Deeds w F bi (N + 2) (x.admits e) w5 from ⟨F5, by rw [HR.out]; exact hI5, HK4.out.trans hK5 (fun _ _ h => h), fun b hb => (hF5 b hb).imp id (fun h => by omega)⟩)
    clear hI5 hK5 hF5 e0 e1 e2 e3 e4 e5 e6 e7
    go_wp2
    go_ret
    exact ⟨ret_int HV.out.symm, HD.out⟩
  · have HR := Lib.hid (show x.admits e = x by rw [HOF.out, href]; rfl)
    have HV := Lib.hid (show x.admitted e = x.verdict e by rw [HOV.out, href]; rfl)
    clear href
    go_wp2
    go_ret
    exact ⟨ret_int HV.out.symm, F, by rw [HR.out]; exact HI2.out.more (by omega), HK2.out, fun b hb => .inl hb⟩
end Go.Proofs.YtoljbbmjbgepiaaGreatDoor
