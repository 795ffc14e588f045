/-
  Layer 6: Now.
  Layer 8: Admit.
  Layer 33: a replica reads a journal.
-/
import Derived.Test.YtgbagjpokpchpaaGreatDoorRClkHear
import Derived.Test.YtgbagjpokpchpaaGreatDoorRItkOff0
import Derived.Test.YtgbagjpokpchpaaGreatDoorRRpLog
import Derived.Test.YtgbagjpokpchpaaGreatDoorRAdmAll
namespace Go.Proofs.YtgbagjpokpchpaaGreatDoor
open Go.RowKit Go.Maps Go.Sort
theorem now_any (w : World) (bc bm : Nat) (c : Clk) (hc : ClockAt w bc bm c) : Calls Tryz.prog 46 #[.pointer (some ⟨bc, 0, none⟩)] w fun e w' => e = .returned (.int .i64 c.now) ∧ w = w' := by
  obtain ⟨c0, c1, c2, c3, c4, f2, f3⟩ := hc.cells
  clear hc
  go_enter Tryz.func46, Tryz.ntmps46
  go_wp2
  go_ret
  exact ⟨rfl, rfl⟩
end Go.Proofs.YtgbagjpokpchpaaGreatDoor
namespace Go.Proofs.YtgbagjpokpchpaaGreatDoor
open Go.RowKit Go.Maps Go.Sort

theorem now_same (w : World) (bc bm : Nat) (c : Clk) (hc : ClockAt w bc bm c) : Calls Tryz.prog 46 #[.pointer (some ⟨bc, 0, none⟩)] w fun e w' => e = .returned (.int .i64 c.now) ∧ w' = w := (now_any w bc bm c hc).mono fun _ _ h => ⟨h.1, h.2.symm⟩
set_option maxRecDepth 100000 in
set_option maxHeartbeats 4000000 in
theorem admit_any (w : World) (F : Nat → Prop) (bi N : Nat) (x : Itk) (h : ItkAt w F bi N x) (hN : N + 2 < 100000) (e : Ev) (hsm : e.small) (hmx : MaxAt w) :
    Calls Tryz.prog 24 #[.pointer (some ⟨bi, 0, none⟩), e.agg] w (OfferPost w F bi (N + 2) (x.admits e) (x.admitted e)) := by
  have HI0 := Lib.hid h
  obtain ⟨A, hM, hO, hnl, hng, hfoot, hFlt⟩ := h
  have HM := Lib.hid hM; have HO := Lib.hid hO; have HFO := Lib.hid hfoot; have HFL := Lib.hid hFlt; have HMX := Lib.hid hmx
  have hlt : bi < w.heap.size := hM.lt (.inl rfl)
  clear hM hO hfoot hFlt hmx
  have HOF := Lib.hid (show x.admits e = if x.refuses e then x else (x.hear e x.clk.now).took e from rfl)
  have HOV := Lib.hid (show x.admitted e = if x.refuses e then x.verdict e else 0 from rfl)
  have nF : ¬ F w.heap.size := fun h => by have := HFL.out _ h; omega
  unfold Ev.agg
  go_enter Tryz.func24, Tryz.ntmps24
  have hbA : Below w.heap.size w (w.alloc (evObj e)) := (Below.refl _ _).alloc (Nat.le_refl _) _
  have hsA : (w.alloc (evObj e)).heap.size = w.heap.size + 1 := by simp
  have HE1 := Lib.hid (EvIn.new w e)
  have HI1 := Lib.hid (HI0.out.up hbA)
  have HM1 := Lib.hid (HM.out.up hbA)
  have HMX1 := Lib.hid (HMX.out.up hbA)
  have HK1 := Lib.hid (show Keep F w (w.alloc (evObj e)) from Keep.of_below (F := F) hbA)
  obtain ⟨e0, e1, e2, e3, e4, e5, e6, e7⟩ := HE1.out
  go_wp2_with fail
  clear hbA
  generalize w.alloc (evObj e) = w1 at *
  refine (refused_any w1 F bi N x HI1.out (by omega) e hsm HMX1.out).mono ?_
  rintro r w2 ⟨rfl, hb2⟩
  have HI2 := Lib.hid (HI1.out.up hb2)
  have HM2 := Lib.hid (HM1.out.up hb2)
  have HK2 := Lib.hid (HK1.out.trans (Keep.of_below (F := F) hb2) (fun _ _ h => h))
  have HE2 := Lib.hid (HE1.out.below hb2 (by omega))
  have hs2 := hb2.size
  clear e0 e1 e2 e3 e4 e5 e6 e7 hb2
  cases href : x.refuses e
  · have HREF := Lib.hid href
    have hww : x.wrong e = false ∧ hadB x.had e.src e.num = false := by
      unfold Itk.refuses at href
      simpa using href
    have HMAY := Lib.hid (show mayB e = true by
      have := hww.1
      unfold Itk.wrong at this
      simp only [Bool.or_eq_false_iff, Bool.not_eq_false'] at this
      exact this.1.1)
    have HHAD := Lib.hid hww.2
    clear href hww
    obtain ⟨c0, c1, c2, c3, c4, c5, f2, f3, f4⟩ := HM2.out.cells
    obtain ⟨e0, e1, e2, e3, e4, e5, e6, e7⟩ := HE2.out
    have HNW := Lib.hid (show Calls Tryz.prog 46 #[.pointer (some ⟨A.bc, 0, none⟩)] (w2.drewN 1) fun e w' => e = .returned (.int .i64 x.clk.now) ∧ w' = w2.drewN 1 from now_same _ A.bc A.bm x.clk (HM2.out.up (below_drewN (Below.refl _ _) 1)).clk)
    go_wp2
    go_still_tail 13, (by kernel_rfl)
    still_call HNW.out
    repeat still_step
    refine wpStill_nil ?_
    change wpList _ _ _ _ _ (w2.drewN 1)
    have hbq : Below w2.heap.size w2 (w2.drewN 1) := below_drewN (Below.refl _ _) 1
    clear e0 e1 e2 e3 e4 e5 e6 e7 c0 c1 c2 c3 c4 c5 f2 f3 f4 HNW
    have HM3 := Lib.hid (HM2.out.up hbq)
    have HE3 := Lib.hid (HE2.out.below hbq (by omega))
    have HK3 := Lib.hid (HK2.out.trans (Keep.of_below (F := F) hbq) (fun _ _ h => h))
    have hs3 := hbq.size
    clear hbq
    generalize w2.drewN 1 = w3 at *
    go_wp2_with fail
    refine (hear_any w3 A.bc A.bm x.clk HM3.out.clk e.src e.at_ x.clk.now (by have := HO.out.src; omega)).mono ?_
    rintro r w4 ⟨rfl, hc4, hk4⟩
    have hok4 : ItkOk (N + 1) (x.hear e x.clk.now) := HO.out.hear e x.clk.now
    obtain ⟨hI4, hM4, hK4⟩ := ItkAt.setClk (N := N) (M := N + 1) HM3.out hnl hng (by omega) HFO.out (fun b hb => by have := HFL.out b hb; omega) hc4 hk4 hok4
    have HI4 := Lib.hid (show ItkAt w4 F bi (N + 1) (x.hear e x.clk.now) from hI4)
    have HK4 := Lib.hid (HK3.out.trans hK4 (fun _ _ h => h))
    have HE4 := Lib.hid (ev_out hK4 (by omega) nF HE3.out)
    have hs4 := hK4.size
    have HH4 := Lib.hid (show (x.hear e x.clk.now).had = x.had from rfl)
    have HR := Lib.hid (show x.admits e = (x.hear e x.clk.now).took e by rw [HOF.out, HREF.out]; rfl)
    have HV := Lib.hid (show x.admitted e = 0 by rw [HOV.out, HREF.out]; rfl)
    clear hc4 hk4 hI4 hM4 hK4 hok4
    generalize x.hear e x.clk.now = z at *
    obtain ⟨e0, e1, e2, e3, e4, e5, e6, e7⟩ := HE4.out
    go_wp2_with fail
    refine (take_any w4 F bi (N + 1) z HI4.out (by omega) e hsm HMAY.out (by rw [HH4.out]; exact HHAD.out)).mono ?_
    rintro r w5 ⟨rfl, F5, hI5, hK5, hF5⟩
    have HD := Lib.hid (show Deeds w F bi (N + 2) (x.admits e) w5 from ⟨F5, by rw [HR.out]; exact hI5, HK4.out.trans hK5 (fun _ _ h => h), fun b hb => (hF5 b hb).imp id (fun h => by omega)⟩)
    clear hI5 hK5 hF5 e0 e1 e2 e3 e4 e5 e6 e7
    go_wp2
    go_ret
    exact ⟨ret_int HV.out.symm, HD.out⟩
  · have HR := Lib.hid (show x.admits e = x by rw [HOF.out, href]; rfl)
    have HV := Lib.hid (show x.admitted e = x.verdict e by rw [HOV.out, href]; rfl)
    clear href
    go_wp2
    go_ret
    exact ⟨ret_int HV.out.symm, F, by rw [HR.out]; exact HI2.out.more (by omega), HK2.out, fun b hb => .inl hb⟩
end Go.Proofs.YtgbagjpokpchpaaGreatDoor
namespace Go.Proofs.YtgbagjpokpchpaaGreatDoor
open Go.RowKit Go.Maps Go.Sort Go.Shelf

theorem Evs.kp33 {w w' : World} {G : Nat → Prop} {A : Option Addr} {n c : Nat} {es : List Ev} (h : Evs w w.heap.size A n c es) (hA : ∀ b off, A = some ⟨b, off, none⟩ → ¬ G b) (hk : Keep G w w') : Evs w' w'.heap.size A n c es := Cel.keepG h hA hk
theorem rdEv_some33 : ∀ l : List Ev, rdEv (l.map some) = l
  | [] => rfl
  | e :: l => by
    have ih := rdEv_some33 l
    unfold rdEv at ih ⊢
    simp only [List.map_cons, List.filterMap_cons, id_eq]
    rw [ih]
abbrev rpObj (bj bi : Nat) (off : Int) : Obj := .cells #[.pointer (some ⟨bj, 0, none⟩), .pointer (some ⟨bi, 0, none⟩), .int .i64 off] 61
def RpRel (w1 : World) (R : Nat → Prop) (bi N : Nat) (x : Itk) (evs : List Ev) (i : Value) (W : World) : Prop :=
  ∃ (k : Nat) (R' : Nat → Prop), i = .int .i64 k ∧ k ≤ evs.length ∧ ItkAt W R' bi (N + 2 * k) (admAll x (evs.take k)) ∧ Keep R w1 W ∧ ∀ b, R' b → R b ∨ w1.heap.size ≤ b
def RpReadPost (w : World) (R : Nat → Prop) (bi N : Nat) (x : Itk) (evs : List Ev) (e : Ending) (w' : World) : Prop := e = .returned (.tuple #[]) ∧ Deeds w R bi (N + 2 * evs.length) (admAll x evs) w'
set_option maxRecDepth 100000 in
set_option maxHeartbeats 4000000 in
theorem rpread_any (w : World) (G F R : Nat → Prop) (bj bd bi N : Nat) (j : Jl) (x : Itk) (hj : JlIn w G F bj bd j) (ds : List Ev) (hes : j.es = ds.map some) (hx : ItkAt w R bi N x) (off m : Nat) (hom : off + m ≤ ds.length) (hlen : ds.length ≤ 60) (hN : N + 200 < 100000) (hmx : MaxAt w) (hml : ¬ R 0) :
    Calls Tryz.prog 36 #[.pointer (some ⟨bj, 0, none⟩), .int .i64 off, .int .i64 m, .func (.func 24) #[.pointer (some ⟨bi, 0, none⟩)] #[]] w (RpReadPost w R bi N x ((ds.drop off).take m)) := by
  have hcall : ∀ (args : Array Value) (w : World), (callFunc 24 args).run Tryz.prog w = .ok (.enter 24 args) w := fun args w => by kernel_rfl
  obtain ⟨evs, hevs⟩ : ∃ evs, evs = (ds.drop off).take m := ⟨_, rfl⟩
  have hel : evs.length = m := by rw [hevs, List.length_take, List.length_drop]; omega
  have HRD := Lib.hid (show ∃ ats, Calls Tryz.prog 65 #[.pointer (some ⟨bj, 0, none⟩), .int .i64 off, .int .i64 m] w (JRdPost w evs ats 0) from by
    have := jlread_any w G F bj bd j hj off m
    have hl : j.es.length = ds.length := by rw [hes, List.length_map]
    have e1 : j.rdBad off m = false := by unfold Jl.rdBad; rw [hl]; simp; omega
    have e2 : j.rdSeg off m = evs.map some := by
      unfold Jl.rdSeg
      rw [hl, hes]
      have e3 : (min (m : Int) ((ds.length : Int) - (off : Int))).toNat = m := by omega
      rw [e3, Int.toNat_natCast, hevs, List.map_take, List.map_drop]
    unfold JReadPost at this
    rw [e1, e2, rdEv_some33] at this
    exact ⟨_, this⟩)
  have HSM := Lib.hid (show ∀ e ∈ evs, e.small from fun e he => mayB_small33 (hj.1.may e (by rw [hes]; exact List.mem_map.2 ⟨e, List.mem_of_mem_drop (List.mem_of_mem_take (hevs ▸ he)), rfl⟩)))
  have HX := Lib.hid hx
  have HMX := Lib.hid hmx
  have HML := Lib.hid hml
  have hRlt : ∀ b, R b → b < w.heap.size := by obtain ⟨A, _, _, _, _, _, h6⟩ := hx; exact h6
  have HRL := Lib.hid hRlt
  rw [← hevs]
  obtain ⟨ats, hrd⟩ := HRD.out
  have HR := Lib.hid hrd
  have hm60 : m ≤ 60 := by omega
  have HEL := Lib.hid hel
  clear hj hes hx hmx hml hevs HRD hrd hRlt hel
  go_enter Tryz.func36, Tryz.ntmps36
  go_wp2_with fail
  refine HR.out.mono ?_
  rintro r w1 ⟨v1, v2, rfl, hv1, hv2, hb1⟩
  obtain ⟨B1, d1, hf1, _⟩ := hv1.form
  subst hf1
  have he1 : Evs w1 w1.heap.size B1 evs.length d1 evs := Cel.of_own hv1
  rw [HEL.out] at he1 ⊢
  have HE1 := Lib.hid he1
  have HB1 := Lib.hid hb1
  have hs1 := hb1.size
  have HA1 := Lib.hid (show ∀ b off, B1 = some ⟨b, off, none⟩ → ¬ R b from fun b off e hR => by
    have h1 := HRL.out b hR
    rcases hv1.2 with ⟨e', _⟩ | ⟨g, cap, cur, e', hbg, _⟩
    · injection e' with e1 e2; rw [e1] at e; cases e
    · injection e' with e1 e2
      rw [e] at e1; injection e1 with e1; injection e1 with e1
      omega)
  have HR0 := Lib.hid (show RpRel w1 R bi N x evs (.int .i64 0) w1 from ⟨0, R, rfl, Nat.zero_le _, HX.out.up HB1.out, Keep.refl _ _, fun b hb => .inl hb⟩)
  clear hv1 hv2 he1 hb1
  go_wp2
  go_loopw [23] (fun i W => RpRel w1 R bi N x evs i W) (fun i _ => m - (intOf i).toNat)
  case atStart => exact HR0.out
  case round =>
    obtain ⟨k, R', rfl, hk, hit, hkp, hR'⟩ := hrel
    have HIT := Lib.hid hit; have HKP := Lib.hid hkp; have HRR := Lib.hid hR'
    have hsr := hkp.size
    have hkm : k ≤ m := by rw [← HEL.out]; exact hk
    clear hit hkp hR'
    by_cases hkn : k < m
    · have hkl : k < evs.length := by rw [HEL.out]; exact hkn
      have t1 : (k : Int) < m := by omega
      obtain ⟨b, o, rfl, _, hd⟩ := (HE1.out.kp33 HA1.out HKP.out).ev k hkl
      obtain ⟨e0, e1, e2, e3, e4, e5, e6, e7⟩ := hd
      have HTK := Lib.hid (admAll_take x evs k hkl)
      have HSE := Lib.hid (HSM.out evs[k] (List.getElem_mem hkl))
      generalize evs[k] = e at *
      have hba : Below wr.heap.size wr (wr.alloc (evObj e)) := (Below.refl _ _).alloc (Nat.le_refl _) _
      have HCA := Lib.hid (admit_any (wr.alloc (evObj e)) R' bi (N + 2 * k) (admAll x (evs.take k)) (HIT.out.up hba) (by omega) e HSE.out (by
        have h1 : MaxAt w1 := HMX.out.up HB1.out
        exact (h1.out HKP.out HML.out).up hba))
      have HKA := Lib.hid (HKP.out.trans (Keep.of_below (F := R) hba) (fun _ _ h => h))
      have hsa : (wr.alloc (evObj e)).heap.size = wr.heap.size + 1 := by simp
      have HSA := Lib.hid hsa
      clear hba hsa
      go_wp2_with fail
      refine HCA.out.mono ?_
      rintro r w2 ⟨rfl, R2, hI2, hk2, hR2⟩
      have HREL := Lib.hid (show RpRel w1 R bi N x evs (.int .i64 ((k + 1 : Nat) : Int)) w2 from ⟨k + 1, R2, rfl, hkl, by rw [HTK.out, show N + 2 * (k + 1) = N + 2 * k + 2 by omega]; exact hI2, HKA.out.trans hk2 (fun b hb hr => (HRR.out b hr).elim id fun h => by omega), fun b hb => by
        rcases hR2 b hb with h | h
        · exact HRR.out b h
        · right; have := HSA.out; omega⟩)
      clear hI2 hk2 hR2 e0 e1 e2 e3 e4 e5 e6 e7 HCA HKA
      go_wp2
      go_roundw
      case rel => exact HREL.out
      case measure => simp [intOf]; omega
    · have t1 : ¬ (k : Int) < m := by omega
      have HF := Lib.hid (show RpReadPost w R bi N x evs (.returned (.tuple #[])) wr from ⟨rfl, R', by
        have := HIT.out
        rw [List.take_of_length_le (by rw [HEL.out]; omega)] at this
        rw [HEL.out, show m = k by omega]; exact this, (Keep.of_below (F := R) HB1.out).trans HKP.out (fun _ _ h => h), fun b hb => (HRR.out b hb).imp id fun h => by omega⟩)
      clear HIT
      go_wp2
      go_end0
      exact HF.out
/-- a replica in memory, its journal and its intake -/
structure RpAt (w : World) (G F R : Nat → Prop) (br bj bd bi N : Nat) (j : Jl) (x : Itk) (off : Nat) : Prop where
  jl : JlIn w G F bj bd j
  it : ItkAt w R bi N x
  blk : w.heap[br]? = some (rpObj bj bi off)
  nr : ¬ (G br ∨ F br ∨ R br)
  rj : ∀ b, R b → ¬ (G b ∨ F b)
  ml : ¬ R 0
theorem RpAt.keep {w w' : World} {G F R : Nat → Prop} {br bj bd bi N : Nat} {j : Jl} {x : Itk} {off : Nat} (h : RpAt w G F R br bj bd bi N j x off) (hsz : w.heap.size ≤ w'.heap.size) (hk : ∀ b, G b ∨ F b ∨ R b ∨ b = br → w'.heap[b]? = w.heap[b]?) : RpAt w' G F R br bj bd bi N j x off :=
  ⟨h.jl.keep hsz fun b hb => hk b (hb.elim .inl fun h => .inr (.inl h)), h.it.keep hsz fun b hb => hk b (.inr (.inr (.inl hb))), (hk br (.inr (.inr (.inr rfl)))).trans h.blk, h.nr, h.rj, h.ml⟩
theorem RpAt.blt {w : World} {G F R : Nat → Prop} {br bj bd bi N : Nat} {j : Jl} {x : Itk} {off : Nat} (h : RpAt w G F R br bj bd bi N j x off) : br < w.heap.size := (Array.getElem?_eq_some_iff.1 h.blk).1
theorem RpAt.rlt {w : World} {G F R : Nat → Prop} {br bj bd bi N : Nat} {j : Jl} {x : Itk} {off : Nat} (h : RpAt w G F R br bj bd bi N j x off) : ∀ b, R b → b < w.heap.size := by obtain ⟨A, _, _, _, _, _, h6⟩ := h.it; exact h6
theorem RpAt.up {w w' : World} {G F R : Nat → Prop} {br bj bd bi N : Nat} {j : Jl} {x : Itk} {off : Nat} (h : RpAt w G F R br bj bd bi N j x off) (hb : RowKit.Below w.heap.size w w') : RpAt w' G F R br bj bd bi N j x off :=
  h.keep hb.size fun b hh => hb.block b (by
    rcases hh with h1 | h1 | h1 | h1
    · exact h.jl.lt b (.inl h1)
    · exact h.jl.lt b (.inr h1)
    · exact h.rlt b h1
    · rw [h1]; exact h.blt)
theorem RpAt.cells {w : World} {G F R : Nat → Prop} {br bj bd bi N : Nat} {j : Jl} {x : Itk} {off : Nat} (h : RpAt w G F R br bj bd bi N j x off) :
    w.cell? ⟨br, 0, none⟩ = some (.pointer (some ⟨bj, 0, none⟩)) ∧ w.cell? ⟨br, 1, none⟩ = some (.pointer (some ⟨bi, 0, none⟩)) ∧ w.cell? ⟨br, 2, none⟩ = some (.int .i64 off) := by
  have key : ∀ o, w.cell? ⟨br, o, none⟩ = _ := fun o => cell_of_row w br o _ _ (0, 0) h.blk
  exact ⟨(key 0).trans rfl, (key 1).trans rfl, (key 2).trans rfl⟩
/-- its intake has read on, its offset is written -/
theorem RpAt.read {w w' : World} {G F R R' : Nat → Prop} {br bj bd bi N M : Nat} {j : Jl} {x y : Itk} {off o2 : Nat} (h : RpAt w G F R br bj bd bi N j x off) (hi : ItkAt w' R' bi M y) (hk : Keep R w w') (hR : ∀ b, R' b → R b ∨ w.heap.size ≤ b) (hmx : MaxAt w) :
    RpAt (w'.setCell ⟨br, 2, none⟩ (.int .i64 o2)) G F R' br bj bd bi M j y o2 ∧ Keep (fun b => R b ∨ b = br) w (w'.setCell ⟨br, 2, none⟩ (.int .i64 o2)) := by
  have hrb : ¬ R br := fun hh => h.nr (.inr (.inr hh))
  have hblk : w'.heap[br]? = some (rpObj bj bi off) := (hk.block br h.blt hrb).trans h.blk
  have hs := hk.size
  have hss : (w'.setCell ⟨br, 2, none⟩ (.int .i64 o2)).heap.size = w'.heap.size := by simp [World.setCell]
  have hset : ∀ b, b ≠ br → (w'.setCell ⟨br, 2, none⟩ (.int .i64 o2)).heap[b]? = w'.heap[b]? := fun b hb => Below.heap_setCell _ _ _ _ hb
  refine ⟨⟨h.jl.keep (by omega) fun b hb => ?_, hi.keep (by omega) fun b hb => hset b fun e => ?_, ?_, fun hh => ?_, fun b hb hg => ?_, fun hh => ?_⟩, (hk.mono fun b _ hb => .inl hb).setCell (fun _ => .inr rfl) _⟩
  · rw [hset b (fun e => h.nr (by rw [e] at hb; exact hb.elim .inl fun h => .inr (.inl h)))]
    exact hk.block b (h.jl.lt b hb) (fun hr => h.rj b hr hb)
  · rw [e] at hb
    rcases hR br hb with h1 | h1
    · exact hrb h1
    · have := h.blt; omega
  · rw [heap_set_row hblk]; rfl
  · rcases hh with h1 | h1 | h1
    · exact h.nr (.inl h1)
    · exact h.nr (.inr (.inl h1))
    · rcases hR br h1 with h2 | h2
      · exact hrb h2
      · have := h.blt; omega
  · rcases hR b hb with h1 | h1
    · exact h.rj b h1 hg
    · have := h.jl.lt b hg; omega
  · rcases hR _ hh with h1 | h1
    · exact h.ml h1
    · have := hmx.lt; omega
def RpPullPost (w : World) (G F R : Nat → Prop) (br bj bd bi N : Nat) (j : Jl) (x : Itk) (off m : Nat) (ds : List Ev) (e : Ending) (w' : World) : Prop :=
  e = .returned (.int .i64 m) ∧ ∃ R', RpAt w' G F R' br bj bd bi (N + 2 * m) j (admAll x ((ds.drop off).take m)) (off + m) ∧ Keep (fun b => R b ∨ b = br) w w' ∧ ∀ b, R' b → R b ∨ w.heap.size ≤ b
set_option maxRecDepth 100000 in
set_option maxHeartbeats 4000000 in
theorem rppull_any (w : World) (G F R : Nat → Prop) (br bj bd bi N : Nat) (j : Jl) (x : Itk) (off : Nat) (h : RpAt w G F R br bj bd bi N j x off) (ds : List Ev) (hes : j.es = ds.map some) (n : Int) (m : Nat) (hm : m = (min (max n 0) ((ds.length : Int) - off)).toNat) (hoff : off ≤ ds.length) (hlen : ds.length ≤ 60) (hN : N + 200 < 100000) (hmx : MaxAt w) :
    Calls Tryz.prog 17 #[.pointer (some ⟨br, 0, none⟩), .int .i64 n] w (RpPullPost w G F R br bj bd bi N j x off m ds) := by
  have HH := Lib.hid h
  have HMX := Lib.hid hmx
  have HES := Lib.hid hes
  have HW := Lib.hid (show IntKind.i64.wrap ((ds.length : Int) - off) = (ds.length : Int) - off from IntWalk.i64_in _ (by omega))
  have HM := Lib.hid (show min (max n 0) ((ds.length : Int) - off) = (m : Int) from by omega)
  have hmo : off + m ≤ ds.length := by omega
  have HRD := Lib.hid (show ∀ W, Below w.heap.size w W → Calls Tryz.prog 36 #[.pointer (some ⟨bj, 0, none⟩), .int .i64 off, .int .i64 m, .func (.func 24) #[.pointer (some ⟨bi, 0, none⟩)] #[]] W (RpReadPost W R bi N x ((ds.drop off).take m)) from fun W hW =>
    rpread_any W G F R bj bd bi N j x (HH.out.up hW).jl ds hes (HH.out.up hW).it off m hmo hlen hN (HMX.out.up hW) HH.out.ml)
  have HEL := Lib.hid (show ((ds.drop off).take m).length = m from by rw [List.length_take, List.length_drop]; omega)
  obtain ⟨c0, c1, c2⟩ := h.cells
  have HLE := Lib.hid (show j.es.length = ds.length from by rw [hes, List.length_map])
  have HLN := Lib.hid (show Calls Tryz.prog 31 #[.pointer (some ⟨bj, 0, none⟩)] (w.drewN 1) fun e w' => e = .returned (.int .i64 j.es.length) ∧ w' = w.drewN 1 from (jllen_any (w.drewN 1) G F bj bd j (HH.out.jl.up (below_drewN (Below.refl _ _) 1))).mono fun e w' he => ⟨he.1, he.2.symm⟩)
  rw [HLE.out] at HLN
  clear h hmx hes hm
  go_enter Tryz.func17, Tryz.ntmps17
  go_wp2
  go_still_tail 13, (by kernel_rfl)
  still_call HLN.out
  repeat still_step
  refine wpStill_nil ?_
  change wpList _ _ _ _ _ (w.drewN 1)
  rw [HW.out, HM.out]
  have HH1 := Lib.hid (HH.out.up (below_drewN (Below.refl _ _) 1))
  have HB1 := Lib.hid (show Below w.heap.size w (w.drewN 1) from below_drewN (Below.refl _ _) 1)
  clear c0 c1 c2 HLN
  generalize w.drewN 1 = w1 at *
  obtain ⟨c0, c1, c2⟩ := HH1.out.cells
  generalize (ds.length : Int) - off = z0 at *
  generalize IntKind.i64.wrap z0 = z1 at *
  go_wp2
  go_still_tail 14, (by kernel_rfl)
  repeat still_step
  change wpList _ _ _ _ _ (w1.drewN 1)
  have HH2 := Lib.hid (HH1.out.up (below_drewN (Below.refl _ _) 1))
  have HB2 := Lib.hid (show Below w.heap.size w (w1.drewN 1) from below_drewN HB1.out 1)
  clear c0 c1 c2 HH1 HB1
  generalize w1.drewN 1 = w2 at *
  go_wp2_with fail
  refine (HRD.out w2 HB2.out).mono ?_
  rintro r w3 ⟨rfl, R3, hI3, hk3, hR3⟩
  rw [HEL.out] at hI3
  obtain ⟨hr3, hk4⟩ := HH2.out.read (o2 := off + m) hI3 hk3 hR3 (HMX.out.up HB2.out)
  have hs2 := HB2.out.size
  have HP := Lib.hid (show RpPullPost w G F R br bj bd bi N j x off m ds (.returned (.int .i64 m)) (w3.setCell ⟨br, 2, none⟩ (.int .i64 ((off + m : Nat) : Int))) from
    ⟨rfl, R3, hr3, (Keep.of_below HB2.out).trans hk4 (fun _ _ h => h), fun b hb => (hR3 b hb).imp id fun h => by omega⟩)
  have hb3 : w3.heap[br]? = some (rpObj bj bi off) := (hk3.block br HH2.out.blt (fun h => HH2.out.nr (.inr (.inr h)))).trans HH2.out.blk
  have c2 : w3.cell? ⟨br, 2, none⟩ = some (.int .i64 off) := (cell_of_row w3 br 2 _ _ (0, 0) hb3).trans rfl
  have f2 := frozen_of_row w3 br 2 _ _ hb3
  have HW2 := Lib.hid (show IntKind.i64.wrap ((off : Int) + (m : Int)) = ((off + m : Nat) : Int) from by rw [IntWalk.i64_in _ (by omega)]; omega)
  clear hI3 hk3 hR3 hr3 hk4 hb3
  go_wp2
  go_ret
  exact HP.out
end Go.Proofs.YtgbagjpokpchpaaGreatDoor
