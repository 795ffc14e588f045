/-
  Layer 8: Taken.
-/
import Derived.Test.YtoljbbmjbgepiaaGreatDoorItkNew
namespace Go.Proofs.YtoljbbmjbgepiaaGreatDoor
open Go.RowKit Go.Maps Go.Sort

theorem itaken_any (w : World) (F : Nat → Prop) (bi N : Nat) (x : Itk) (h : ItkAt w F bi N x) (hN : N ≤ 100000) : Calls Tryz.prog 15 #[.pointer (some ⟨bi, 0, none⟩)] w (OwnPost w x.taken) := by
  obtain ⟨A, hM, hO, _⟩ := h
  have HM := Lib.hid hM
  have htl := hO.taken
  obtain ⟨B, c, hv, hc⟩ := hM.taken.form
  obtain ⟨c0, c1, c2, c3, c4, c5, f2, f3, f4⟩ := hM.cells
  rw [hv] at c2
  clear hM hO
  go_enter Tryz.func15, Tryz.ntmps15
  go_wp2_with fail
  have hev : Evs w w.heap.size B x.taken.length c x.taken := by have := HM.out.taken; rw [hv] at this; exact Cel.of_own this
  refine (clone_any w B _ c x.taken hev (by omega)).mono ?_
  rintro r w1 ⟨v, rfl, ho, hb⟩
  have HO := Lib.hid ho
  clear ho hev c0 c1 c2 c3 c4 c5 f2 f3 f4
  go_wp2
  go_ret
  exact ⟨v, rfl, HO.out, hb⟩
end Go.Proofs.YtoljbbmjbgepiaaGreatDoor
