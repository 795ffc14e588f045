/-
  Layer 3: the document's Open (ciceroneref03).
-/
import Derived.Test.YtdjoaboalknlkaaGreatDoorLFrmRefVal
namespace Go.Proofs.YtdjoaboalknlkaaGreatDoor
open Go.RowKit

theorem valB_be4 (t : List UInt8) (h : t.length = 4) (a : Nat) (ha : a < 4294967296) : (valB t != a) = (t != Frm.be4 a) := by
  match t, h with
  | [x, y, z, u], _ =>
    have hx := x.toNat_lt; have hy := y.toNat_lt; have hz := z.toNat_lt; have hu := u.toNat_lt
    refine congrArg not ?_
    rw [Bool.eq_iff_iff, beq_iff_eq, beq_iff_eq]
    constructor
    · intro e
      simp only [valB, List.foldl_cons, List.foldl_nil] at e
      simp only [Frm.be4, List.cons.injEq, and_true]
      refine ⟨?_, ?_, ?_, ?_⟩ <;> apply UInt8.toNat_inj.1 <;> rw [Frm.u8_toNat] <;> omega
    · intro e
      simp only [Frm.be4, List.cons.injEq, and_true] at e
      obtain ⟨e1, e2, e3, e4⟩ := e
      subst e1 e2 e3 e4
      simp only [valB, List.foldl_cons, List.foldl_nil, Frm.u8_toNat]
      omega
theorem valB_sz (l : List UInt8) (h : 3 ≤ l.length) : valB (l.take 3) = Frm.sz l := by
  match l, h with
  | x :: y :: z :: r, _ =>
    simp only [List.take_succ_cons, List.take_zero, valB, List.foldl_cons, List.foldl_nil, Frm.sz]
    simp [List.getD]
    omega

def ROpenPost (w : World) (l : List UInt8) (e : Ending) (w' : World) : Prop :=
  e = .returned (.tuple #[.string ⟨(Frm.openB l).1.toArray⟩, .int .i64 (Frm.openB l).2.1, .int .i64 (Frm.openB l).2.2]) ∧ ∃ k, w' = w.drewN k

theorem ropen_bad (w : World) (l : List UInt8) (w' : World) (hw : ∃ k, w' = w.drewN k) (h : Frm.bad l = true) : ROpenPost w l (.returned (.tuple #[.string ⟨#[]⟩, .int .i64 0, .int .i64 2])) w' := by
  have e : Frm.openB l = ([], 0, 2) := by simp [Frm.openB, h]
  exact ⟨by rw [e]; rfl, hw⟩
theorem ropen_torn (w : World) (l : List UInt8) (w' : World) (hw : ∃ k, w' = w.drewN k) (h : Frm.bad l = false) (h' : Frm.there l = false) : ROpenPost w l (.returned (.tuple #[.string ⟨#[]⟩, .int .i64 0, .int .i64 1])) w' := by
  have e : Frm.openB l = ([], 0, 1) := by simp [Frm.openB, h, h']
  exact ⟨by rw [e]; rfl, hw⟩

set_option maxHeartbeats 1000000 in
theorem ropen_any (w : World) (l : List UInt8) (hn : l.length ≤ 1000000) :
    Calls Tryz.prog 15 #[.string ⟨l.toArray⟩] w (ROpenPost w l) := by
  go_enter Tryz.func15, Tryz.ntmps15
  go_wp2
  go_loopw [5] (fun i w1 => ∃ k : Nat, i = .int .i64 k ∧ 3 ≤ k ∧ k ≤ 6 ∧ Hid (∀ j, 3 ≤ j → j < k → Frm.unlikeAt l j = false) ∧ ∃ q, w1 = w.drewN q) (fun i _ => 6 - (intOf i).toNat)
  case atStart => exact ⟨3, rfl, by omega, by omega, fun j h1 h2 => by omega, 0, rfl⟩
  case round =>
    obtain ⟨k, rfl, hk3, hk6, HK, q, rfl⟩ := hrel
    by_cases hk : k < 6 ∧ k < l.length
    · obtain ⟨hk, hkn⟩ := hk
      have hkn3 : k - 3 < l.length := by omega
      have hu : Hid (Frm.unlikeAt l k = ((l[k].toNat : Int) != 255 - (l[k - 3].toNat : Int))) := Frm.unlikeAt_eq l k hkn
      have hx := (l[k]).toNat_lt
      have hy := (l[k - 3]).toNat_lt
      have g0 : (⟨l.toArray⟩ : ByteArray)[k]'(by simpa [ByteArray.size] using hkn) = l[k] := rfl
      have g1 : (⟨l.toArray⟩ : ByteArray)[k - 3]'(by simpa [ByteArray.size] using hkn3) = l[k - 3] := rfl
      generalize l[k] = x at *
      generalize l[k - 3] = y at *
      have t1 : (k : Int) < l.length := by omega
      have t2 : 0 ≤ (k : Int) - 3 := by omega
      have t3 : (k : Int) - 3 < l.length := by omega
      have t4 : ((k : Int) - 3).toNat = k - 3 := by omega
      by_cases hxy : ((x.toNat : Int) != 255 - (y.toNat : Int)) = true
      · go_wp2
        go_quiet (fail)
        go_wp2
        go_ret3
        exact ropen_bad w l _ ⟨_, World.drewN_drewN ..⟩ (by unfold Frm.bad; rw [Frm.unlike_of l k hk3 hk (by rw [hu.out]; exact hxy)]; rfl)
      · have hxy' : ((x.toNat : Int) != 255 - (y.toNat : Int)) = false := by simpa using hxy
        clear hxy
        go_wp2
        go_quiet (fail)
        go_wp2
        go_roundw
        case rel =>
          refine ⟨k + 1, by go_num, by omega, by omega, fun j h1 h2 => ?_, _, rfl⟩
          by_cases e : j = k
          · subst e; rw [hu.out]; exact hxy'
          · exact HK.out j h1 (by omega)
        case measure => simp [intOf]; omega
    · have hun : Frm.unlike l = false := by
        by_cases h6 : k < 6
        · exact Frm.unlike_not l k HK.out (by omega)
        · exact Frm.unlike_not6 l k HK.out (by omega)
      have HUN := Lib.hid hun; clear hun HK
      have hstop : (decide ((k : Int) < 6) && decide (k < l.length)) = false := by
        simp only [Bool.and_eq_false_iff, decide_eq_false_iff_not]; omega
      by_cases h3 : l.length < 3
      · have hlo : Frm.long l = false := by unfold Frm.long; simp; omega
        have hth : Frm.there l = false := by unfold Frm.there; simp; omega
        have HLO := Lib.hid hlo; have HTH := Lib.hid hth; clear hlo hth
        have hkd : ¬ k < l.length := by omega
        by_cases h6 : k < 6
        all_goals
          go_wp2
          go_ret3
          exact ropen_torn w l _ ⟨_, rfl⟩ (by simp [Frm.bad, Frm.wrong, HUN.out, HLO.out, HTH.out]) HTH.out
      · have hszv := Lib.hid (valB_sz l (by omega))
        have hszl := Frm.sz_lt l
        have xc := str_cut
        by_cases h6 : k < 6
        · have hkd : ¬ k < l.length := by omega
          clear hstop
          go_wp2_with fail
          refine (rvalue_any _ (l.take 3) (by simp; omega)).mono ?_
          rintro e w1 ⟨rfl, rfl⟩
          rw [hszv.out]
          have HTE := Lib.hid (show Frm.there l = (decide (6 ≤ l.length) && decide (Frm.sz l + 10 ≤ l.length)) from rfl)
          have HLO := Lib.hid (show Frm.long l = (decide (3 ≤ l.length) && decide (65536 < Frm.sz l)) from rfl)
          have HWR := Lib.hid (show Frm.wrong l = (Frm.there l && ((l.drop (6 + Frm.sz l)).take 4 != Frm.be4 (Frm.asum (l.take (6 + Frm.sz l))))) from rfl)
          have HOP := Lib.hid (show Frm.openB l = (if Frm.bad l then ([], 0, 2) else if Frm.there l then ((l.drop 6).take (Frm.sz l), 6 + Frm.sz l + 4, 0) else ([], 0, 1)) from rfl)
          generalize Frm.sz l = z at *
          by_cases hlong : 65536 < z
          · go_wp2
            go_ret3
            exact ropen_bad w l _ ⟨_, rfl⟩ (by unfold Frm.bad; rw [HLO.out]; simp; omega)
          · by_cases hsh : l.length < 10 + z
            · have hth : Frm.there l = false := by rw [HTE.out]; simp; omega
              have HTH := Lib.hid hth; clear hth
              go_wp2
              go_ret3
              exact ropen_torn w l _ ⟨_, rfl⟩ (by unfold Frm.bad; rw [HWR.out, HTH.out, HUN.out, HLO.out]; simp; omega) HTH.out
            · exfalso; omega
        · clear hstop
          go_wp2_with fail
          refine (rvalue_any _ (l.take 3) (by simp; omega)).mono ?_
          rintro e w1 ⟨rfl, rfl⟩
          rw [hszv.out]
          have HTE := Lib.hid (show Frm.there l = (decide (6 ≤ l.length) && decide (Frm.sz l + 10 ≤ l.length)) from rfl)
          have HLO := Lib.hid (show Frm.long l = (decide (3 ≤ l.length) && decide (65536 < Frm.sz l)) from rfl)
          have HWR := Lib.hid (show Frm.wrong l = (Frm.there l && ((l.drop (6 + Frm.sz l)).take 4 != Frm.be4 (Frm.asum (l.take (6 + Frm.sz l))))) from rfl)
          have HOP := Lib.hid (show Frm.openB l = (if Frm.bad l then ([], 0, 2) else if Frm.there l then ((l.drop 6).take (Frm.sz l), 6 + Frm.sz l + 4, 0) else ([], 0, 1)) from rfl)
          generalize Frm.sz l = z at *
          by_cases hlong : 65536 < z
          · go_wp2
            go_ret3
            exact ropen_bad w l _ ⟨_, rfl⟩ (by unfold Frm.bad; rw [HLO.out]; simp; omega)
          · by_cases hsh : l.length < 10 + z
            · have hth : Frm.there l = false := by rw [HTE.out]; simp; omega
              have HTH := Lib.hid hth; clear hth
              go_wp2
              go_ret3
              exact ropen_torn w l _ ⟨_, rfl⟩ (by unfold Frm.bad; rw [HWR.out, HTH.out, HUN.out, HLO.out]; simp; omega) HTH.out
            · have hth : Frm.there l = true := by rw [HTE.out]; simp; omega
              have HTH := Lib.hid hth; clear hth
              have c5 : IntKind.i64.wrap (6 + (z : Int)) = 6 + z := IntWalk.i64_in _ (by omega)
              have c6 : IntKind.i64.wrap (10 + (z : Int)) = 10 + z := IntWalk.i64_in _ (by omega)
              have r1 : ∀ w, (Instr.slice 9 (.string ⟨l.toArray⟩) (some (.int .i64 (6 + (z : Int)))) (some (.int .i64 (10 + (z : Int)))) none).run Tryz.prog w = .ok (.string ⟨((l.drop (6 + z)).take 4).toArray⟩) w := fun w => by
                have := str_mid (P := Tryz.prog) 9 Tryz.underlying9 l (6 + z) (10 + z) (6 + z) (10 + z) (by omega) (by omega) (by omega) (by omega) w
                rwa [show 10 + z - (6 + z) = 4 by omega] at this
              have r2 : ∀ w, (Instr.slice 9 (.string ⟨l.toArray⟩) none (some (.int .i64 (6 + (z : Int)))) none).run Tryz.prog w = .ok (.string ⟨(l.take (6 + z)).toArray⟩) w := fun w =>
                str_to (P := Tryz.prog) 9 Tryz.underlying9 l (6 + z) (6 + z) (by omega) (by omega) w
              have r3 : ∀ w, (Instr.slice 9 (.string ⟨l.toArray⟩) (some (.int .i64 6)) (some (.int .i64 (6 + (z : Int)))) none).run Tryz.prog w = .ok (.string ⟨((l.drop 6).take z).toArray⟩) w := fun w => by
                have := str_mid (P := Tryz.prog) 9 Tryz.underlying9 l 6 (6 + z) 6 (6 + z) (by omega) (by omega) (by omega) (by omega) w
                rwa [show 6 + z - 6 = z by omega] at this
              have hlt := Frm.asum_lt (l.take (6 + z))
              have hvl := valB_small ((l.drop (6 + z)).take 4) (by simp; omega)
              have hvb := Lib.hid (valB_be4 ((l.drop (6 + z)).take 4) (by simp; omega) (Frm.asum (l.take (6 + z))) hlt)
              have HV := Lib.hid (fun w => (rvalue_any w ((l.drop (6 + z)).take 4) (by simp; omega)).mono (fun e w' h => And.intro h.1 h.2.symm))
              have HS := Lib.hid (fun w => (rsum_any w (l.take (6 + z)) (by simp; omega)).mono (fun e w' h => And.intro h.1 h.2.symm))
              generalize hL1 : (l.drop (6 + z)).take 4 = L1 at *
              generalize hL2 : l.take (6 + z) = L2 at *
              clear hL1 hL2
              clear xc
              have hbad : Hid (Frm.bad l = (L1 != Frm.be4 (Frm.asum L2))) := by
                unfold Hid Frm.bad; rw [HWR.out, HTH.out, HUN.out, HLO.out]; simp; omega
              cases hne : (valB L1 != Frm.asum L2)
              · have hne' : ((valB L1 : Int) != (Frm.asum L2 : Int)) = false := by simp at hne ⊢; omega
                have HNE := Lib.hid hne; clear hne
                obtain ⟨wq, hwq⟩ : ∃ wq, wq = w.drewN q := ⟨_, rfl⟩
                rw [← hwq]
                have HWQ := Lib.hid hwq; clear hwq
                go_wp2
                go_quiet ((first | (go_at_call 38; exact Calls.quiet_of_same (HV.out _)) | (go_at_call 39; exact Calls.quiet_of_same (HS.out _))))
                go_wp2
                go_ret3
                have ho : Frm.openB l = ((l.drop 6).take z, 6 + z + 4, 0) := by rw [HOP.out, hbad.out, ← hvb.out, HNE.out, HTH.out]; rfl
                refine ⟨?_, _, by rw [HWQ.out]; exact World.drewN_drewN ..⟩
                rw [ho]
                have e10 : (10 + (z : Int)) = ((6 + z + 4 : Nat) : Int) := by omega
                show Ending.returned (.tuple #[.string ⟨((l.drop 6).take z).toArray⟩, .int .i64 (10 + (z : Int)), .int .i64 0]) = _
                rw [e10]
                rfl
              · have hne' : ((valB L1 : Int) != (Frm.asum L2 : Int)) = true := by simp at hne ⊢; omega
                have HNE := Lib.hid hne; clear hne
                obtain ⟨wq, hwq⟩ : ∃ wq, wq = w.drewN q := ⟨_, rfl⟩
                rw [← hwq]
                have HWQ := Lib.hid hwq; clear hwq
                go_wp2
                go_quiet ((first | (go_at_call 38; exact Calls.quiet_of_same (HV.out _)) | (go_at_call 39; exact Calls.quiet_of_same (HS.out _))))
                go_wp2
                go_ret3
                exact ropen_bad w l _ ⟨_, by rw [HWQ.out]; exact World.drewN_drewN ..⟩ (by rw [hbad.out, ← hvb.out]; exact HNE.out)
end Go.Proofs.YtdjoaboalknlkaaGreatDoor
