/-
  Layer 31: erase.Intake.
-/
import Derived.Test.YtnnkhgllfhpdpaaGreatDoorItkGone
import Derived.Test.YtnnkhgllfhpdpaaGreatDoorItkInv
import Derived.Test.YtnnkhgllfhpdpaaGreatDoorSame31
namespace Go.Proofs.YtnnkhgllfhpdpaaGreatDoor
open Go.RowKit Go.Maps Go.Sort

def EItkRel (w1 : World) (b : Nat) (rs : List (List UInt8)) (i : Value) (wr : World) : Prop := ∃ k : Nat, i = .int .i64 k ∧ k ≤ rs.length ∧ SetB wr b k (rs.take k) ∧ w1.grownBy wr (some b)

set_option maxRecDepth 100000 in
set_option maxHeartbeats 2000000 in
theorem eintake_any (w : World) (F : Nat → Prop) (bi N : Nat) (x : Itk) (h : ItkAt w F bi N x) (hN : N ≤ 100000) (hgl : x.gone.length ≤ 100000) (hinv : ItkInv Ev.small x) :
    Calls Tryz.prog 18 #[.pointer (some ⟨bi, 0, none⟩)] w (DropPost w F bi N x (outB x.gone)) := by
  have HI := Lib.hid h; have HV := Lib.hid hinv
  clear h hinv
  have hmm := @run_makeMap Tryz.prog
  go_enter Tryz.func18, Tryz.ntmps18
  go_wp2_with fail
  have hb0 : Below w.heap.size w (w.alloc (.map #[] 0)) := (Below.refl _ _).alloc (Nat.le_refl _) _
  have HS0 := Lib.hid (SetB.made w)
  have hs0 : (w.alloc (.map #[] 0)).heap.size = w.heap.size + 1 := by simp
  clear hmm
  generalize w.alloc (.map #[] 0) = w0 at *
  refine (igone_any w0 F bi N x (HI.out.up hb0) hN).mono ?_
  rintro r w1 ⟨v, rs, rfl, hri, hrow, hb1⟩
  obtain ⟨B, c, rfl⟩ := ownsRow_form hrow
  have HRI := Lib.hid hri
  have hrl := rising_length hri
  have HRO := Lib.hid hrow
  have hbw1 : Below w.heap.size w w1 := hb0.trans (hb1.mono hb0.size)
  have HS1 := Lib.hid (HS0.out.below hb1 (by omega))
  have hs1 := hb1.size
  have HI1 := Lib.hid (HI.out.up hbw1)
  have HSM := Lib.hid (show ∀ p ∈ rs, p.length ≤ 1000000000 from fun p hp => by
    obtain ⟨y, hy, rfl⟩ := HV.out.gone p ((hri.2 p).1 hp)
    exact hy.2.1)
  clear hri hrow hb1 hb0
  go_wp2
  go_loopw [12] (fun i wr => EItkRel w1 w.heap.size rs i wr) (fun i _ => rs.length - (intOf i).toNat)
  case atStart => exact ⟨0, rfl, Nat.zero_le _, by simpa using HS1.out, ⟨rfl, rfl, rfl, Nat.le_refl _, fun _ _ _ => rfl⟩⟩
  case round =>
    obtain ⟨k, rfl, hk, hset, hgr⟩ := hrel
    have HSE := Lib.hid hset; have HGR := Lib.hid hgr
    have hsr := hgr.size
    clear hset hgr
    by_cases hkn : k < rs.length
    · have hst : Strs w1 w1.heap.size B rs.length c rs := Cel.of_own HRO.out
      obtain ⟨b, off, rfl, hb, hc⟩ := hst.at_ k hkn
      have hbne : b ≠ w.heap.size := by
        have := (World.ownsRow.lt HRO.out b (by simp [Value.ownBlock])).1
        omega
      have hc' : wr.cell? ⟨b, off + k, none⟩ = some (.string ⟨rs[k].toArray⟩) := (World.cell?_of_block (w := w1) (a := ⟨b, off + k, none⟩) (HGR.out.block b hb (fun q => hbne (by injection q)))).trans hc
      have HPL := Lib.hid (HSM.out _ (List.getElem_mem hkn))
      have HTK := Lib.hid (show ∀ q, q ∈ rs[k] :: rs.take k ↔ q ∈ rs.take (k + 1) from fun q => by
        rw [List.take_add_one, List.getElem?_eq_getElem hkn, Option.toList_some]
        simp only [List.mem_append, List.mem_cons, List.not_mem_nil, or_false]
        exact Or.comm)
      generalize rs[k] = p at *
      have t1 : (k : Int) < rs.length := by omega
      clear hst hc
      go_wp2_with (at_mapUpdate; refine wpList_setput rfl (.tmp 16) (.tmp 17) _ rfl w.heap.size k (rs.take k) rfl HSE.out (by unfold maxLen; omega) p rfl (by have := HPL.out; unfold maxLen; omega) rfl ?_; intro w2 hs2 hg2)
      have HRR := Lib.hid (show EItkRel w1 w.heap.size rs (.int .i64 ((k + 1 : Nat) : Int)) w2 from ⟨k + 1, rfl, by omega, hs2.congr HTK.out, HGR.out.andThen hg2 (fun j hj => .inr hj)⟩)
      clear hs2 hg2 hc'
      go_wp2
      go_roundw
      case rel => exact HRR.out
      case measure => simp [intOf]; omega
    · have hkk : rs.take k = rs := List.take_of_length_le (by omega)
      have HSF := Lib.hid (show SetB wr w.heap.size k x.gone by have := HSE.out; rw [hkk] at this; exact this.congr HRI.out.2)
      have t1 : ¬ (k : Int) < rs.length := by omega
      have hIr : ItkAt wr F bi N x := HI1.out.keep hsr (fun b hb => by
        obtain ⟨A, _, _, _, _, _, hFl⟩ := HI.out
        have hbl := hFl b hb
        exact HGR.out.block b (by omega) (fun q => by injection q with q; omega))
      have HIR := Lib.hid hIr
      have HKR := Lib.hid (show Keep F w wr from ⟨HGR.out.os.trans hbw1.os, HGR.out.tape.trans hbw1.tape, HGR.out.output.trans hbw1.output, by have := hbw1.size; omega, fun b hb _ => (HGR.out.block b (by have := hbw1.size; omega) (fun q => by injection q with q; omega)).trans (hbw1.block b hb)⟩)
      clear hkk hIr
      go_wp2_with fail
      refine (outside_any wr _ ⟨_, rfl⟩).mono ?_
      rintro r w2 ⟨rfl, rfl⟩
      have hbx : Below wr.heap.size wr (wr.alloc (.cells #[.map (some w.heap.size)] 54)) := (Below.refl _ _).alloc (Nat.le_refl _) _
      have HC := Lib.hid (show (wr.alloc (.cells #[.map (some w.heap.size)] 54)).cell? ⟨wr.heap.size, 0, none⟩ = some (.map (some w.heap.size)) from cell_of_row _ wr.heap.size 0 _ _ (0, 0) (heap_alloc_new wr _))
      have HI2 := Lib.hid (HIR.out.up hbx)
      have HS2 := Lib.hid (HSF.out.alloc (.cells #[.map (some w.heap.size)] 54))
      have HK2 := Lib.hid (HKR.out.alloc (.cells #[.map (some w.heap.size)] 54))
      have hs2 : (wr.alloc (.cells #[.map (some w.heap.size)] 54)).heap.size = wr.heap.size + 1 := by simp
      clear hbx
      generalize wr.alloc (.cells #[.map (some w.heap.size)] 54) = w2 at *
      go_wp2_with fail
      refine (drop_any w2 F bi N x HI2.out hN 65 #[.pointer (some ⟨wr.heap.size, 0, none⟩)] (outB x.gone) (fun _ _ => by kernel_rfl) (fun w3 e he hb3 => outside1_any w3 wr.heap.size w.heap.size k x.gone e (he.elim (HV.out.taken e) (HV.out.late e)) ((hb3.cell (p := ⟨wr.heap.size, 0, none⟩) (by show wr.heap.size < _; omega)).trans HC.out) (HS2.out.below hb3 (by have := HSF.out.lt; omega)))).mono ?_
      rintro r w3 ⟨rfl, F3, hI3, hK3, hF3⟩
      have HD := Lib.hid (show Deeds w F bi N (x.drop (outB x.gone)) w3 from ⟨F3, hI3, HK2.out.trans hK3 (fun _ _ h => h), fun b hb => (hF3 b hb).imp id (fun h => by have := hbw1.size; omega)⟩)
      clear hI3 hK3 hF3
      go_wp2
      go_ret
      exact ⟨rfl, HD.out⟩
end Go.Proofs.YtnnkhgllfhpdpaaGreatDoor
