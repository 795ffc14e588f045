/-
  The law SnapshotLoads, walked.
-/
import Derived.Test.YtdjoaboalknlkaaGreatDoorLSnLdG
import Derived.Test.YtdjoaboalknlkaaGreatDoorLSnLives
import Derived.Test.YtdjoaboalknlkaaGreatDoorLFrmRAll
namespace Go.Proofs.YtdjoaboalknlkaaGreatDoor
open Go.RowKit Go.Maps Go.Sort Go.Shelf

theorem Frm.openB_state (l : List UInt8) : (Frm.openB l).2.2 ≤ 2 := by
  unfold Frm.openB
  split
  · simp
  · split
    · simp
    · simp
theorem Frm.allF_state (f : Nat) : ∀ l : List UInt8, (Frm.allF f l).2.2 ≤ 2 := by
  induction f with
  | zero => intro l; simp [Frm.allF]
  | succ f ih =>
    intro l
    rw [Frm.allF_succ]
    split
    · simp
    · split
      · exact Frm.openB_state l
      · exact ih _
theorem Frm.allB_state (l : List UInt8) : (Frm.allB l).2.2 ≤ 2 := Frm.allF_state _ l

set_option maxRecDepth 100000 in
set_option maxHeartbeats 8000000 in
theorem snloads_any (w : World) (A : Option Addr) (n c : Nat) (l : List UInt8) (h : Byt w w.heap.size A n c l) (hmx : MaxAt w) (hee : ErrsAt w) (htab : Lib.TabBelow Tryz.prog w.heap.size w "internal/strconv.uint64pow10" .u64 Lib.pow10Tab) :
    Calls Tryz.prog 3 #[.slice A n c] w (Says true w) := by
  have HBY := Lib.hid h; have HMX := Lib.hid hmx; have HEE := Lib.hid hee; have HT := Lib.hid htab
  have HW0 := Lib.hid (show ∀ W, RowKit.Below w.heap.size w W → Says true w (.returned (.bool true)) W from fun W hW => ⟨rfl, hW⟩)
  have hll := h.len
  clear h hmx hee htab
  go_enter Tryz.func3, Tryz.ntmps3
  go_wp2_with fail
  refine (lives30_any w HMX.out HEE.out HT.out).mono ?_
  rintro r w1 ⟨rfl, hb1⟩
  have HB1 := Lib.hid hb1
  clear hb1
  by_cases hn5 : (5000 : Int) < n
  · have HR := Lib.hid (HW0.out w1 HB1.out)
    go_wp2
    go_ret
    exact HR.out
  have hn5' : n ≤ 5000 := by omega
  have HY1 := Lib.hid ((HBY.out.below HB1.out).more HB1.out.size)
  -- what Load answers (state by state), the world behind it and what All answers there
  have HALL := Lib.hid (fun W => rall_any W l (by omega))
  unfold RAllPost at HALL
  clear hll
  by_cases h1 : (Frm.allB l).2.2 = 0
  · go_wp2_with fail
    with_reducible refine (snload_zero w1 A n c l HY1.out hn5' h1 (HMX.out.up HB1.out) (HEE.out.up HB1.out) (tab_up HT.out HB1.out)).mono ?_
    rintro r w2 ⟨hb2, rfl | ⟨x, off, bi, F, rfl, hi, hso, o0, o1, heq, hF⟩⟩
    · have HB2 := Lib.hid (HB1.out.trans (hb2.mono HB1.out.size))
      have kc := ((HBY.out.below HB2.out).more HB2.out.size).str (P := Tryz.prog) 22 5 9 Tryz.underlying22 Tryz.underlying5 Tryz.underlying9
      go_wp2_with fail
      with_reducible refine (HALL.out w2).mono ?_
      rintro r w3 ⟨v, rfl, ho, hb3⟩
      have HR := Lib.hid (HW0.out w3 (HB2.out.trans (hb3.mono HB2.out.size)))
      rw [h1]
      go_wp2
      go_ret
      exact HR.out
    · have HB2 := Lib.hid (HB1.out.trans (hb2.mono HB1.out.size))
      have kc := ((HBY.out.below HB2.out).more HB2.out.size).str (P := Tryz.prog) 22 5 9 Tryz.underlying22 Tryz.underlying5 Tryz.underlying9
      have HI := Lib.hid hi; have HSO := Lib.hid hso; have HEQ := Lib.hid heq; have HO := Lib.hid (And.intro o0 o1)
      clear hi hso heq hF o0 o1
      go_wp2_with fail
      with_reducible refine (HALL.out w2).mono ?_
      rintro r w3 ⟨v, rfl, ho, hb3⟩
      have HB3 := Lib.hid (HB2.out.trans (hb3.mono HB2.out.size))
      have HI3 := Lib.hid (HI.out.up hb3)
      rw [h1]
      go_wp2_with fail
      with_reducible refine (snsave_ok w3 F bi 6000 x HI3.out HSO.out (by omega) off HO.out.1 HO.out.2 (HMX.out.up HB3.out) (tab_up HT.out HB3.out)).mono ?_
      rintro r w4 ⟨v4, rfl, ho4, hb4⟩
      rw [HEQ.out] at ho4
      obtain ⟨A4, c4, rfl⟩ := ho4.form
      have HB4 := Lib.hid (HB3.out.trans (hb4.mono HB3.out.size))
      have kd := ho4.byt.str (P := Tryz.prog) 22 5 9 Tryz.underlying22 Tryz.underlying5 Tryz.underlying9
      have ke := ((HBY.out.below HB4.out).more HB4.out.size).str (P := Tryz.prog) 22 5 9 Tryz.underlying22 Tryz.underlying5 Tryz.underlying9
      have HR := Lib.hid (HW0.out w4 HB4.out)
      go_wp2
      go_ret
      exact HR.out
  · -- state 1 or 2 (Frm.allB tells no other)
    have hs2 := Frm.allB_state l
    have hst : (Frm.allB l).2.2 = 1 ∨ (Frm.allB l).2.2 = 2 := by omega
    have HLD := Lib.hid (fun er hs => snload_state w1 A n c l HY1.out (by omega) er hs)
    generalize (Frm.allB l).2.2 = st at *
    generalize (Frm.allB l).2.1 = m at *
    rcases hst with rfl | rfl
    · have HL := Lib.hid (HLD.out 3 (.inl ⟨rfl, rfl⟩))
      clear HLD hs2 h1
      go_wp2_with fail
      with_reducible refine HL.out.mono ?_
      rintro r w2 ⟨rfl, hb2⟩
      have HB2 := Lib.hid (HB1.out.trans (hb2.mono HB1.out.size))
      have kc := ((HBY.out.below HB2.out).more HB2.out.size).str (P := Tryz.prog) 22 5 9 Tryz.underlying22 Tryz.underlying5 Tryz.underlying9
      clear hb2
      go_wp2_with fail
      with_reducible refine (HALL.out w2).mono ?_
      rintro r w3 ⟨v, rfl, ho, hb3⟩
      have HR := Lib.hid (HW0.out w3 (HB2.out.trans (hb3.mono HB2.out.size)))
      clear ho hb3 kc
      go_wp2
      go_ret
      exact HR.out
    · have HL := Lib.hid (HLD.out 4 (.inr ⟨rfl, rfl⟩))
      clear HLD hs2 h1
      go_wp2_with fail
      with_reducible refine HL.out.mono ?_
      rintro r w2 ⟨rfl, hb2⟩
      have HB2 := Lib.hid (HB1.out.trans (hb2.mono HB1.out.size))
      have kc := ((HBY.out.below HB2.out).more HB2.out.size).str (P := Tryz.prog) 22 5 9 Tryz.underlying22 Tryz.underlying5 Tryz.underlying9
      clear hb2
      go_wp2_with fail
      with_reducible refine (HALL.out w2).mono ?_
      rintro r w3 ⟨v, rfl, ho, hb3⟩
      have HR := Lib.hid (HW0.out w3 (HB2.out.trans (hb3.mono HB2.out.size)))
      clear ho hb3 kc
      go_wp2
      go_ret
      exact HR.out
end Go.Proofs.YtdjoaboalknlkaaGreatDoor
