/-
  Layer 8: Gone, Late, Taken; layer 31: erase.Intake.
-/
import Derived.Test.YtoljbbmjbgepiaaGreatDoorItkTkn
import Derived.Test.YtoljbbmjbgepiaaGreatDoorErGone
namespace Go.Proofs.YtoljbbmjbgepiaaGreatDoor
open Go.RowKit Go.Maps Go.Sort Go.Shelf

theorem ilate_any (w : World) (F : Nat → Prop) (bi N : Nat) (x : Itk) (h : ItkAt w F bi N x) (hN : N ≤ 100000) : Calls Tryz.prog 35 #[.pointer (some ⟨bi, 0, none⟩)] w (OwnPost w x.late) := by
  obtain ⟨A, hM, hO, _⟩ := h
  have HM := Lib.hid hM
  have htl := hO.late
  obtain ⟨B, c, hv, hc⟩ := hM.late.form
  obtain ⟨c0, c1, c2, c3, c4, c5, f2, f3, f4⟩ := hM.cells
  rw [hv] at c3
  clear hM hO
  go_enter Tryz.func35, Tryz.ntmps35
  go_wp2_with fail
  have hev : Evs w w.heap.size B x.late.length c x.late := by have := HM.out.late; rw [hv] at this; exact Cel.of_own this
  refine (clone_any w B _ c x.late hev (by omega)).mono ?_
  rintro r w1 ⟨v, rfl, ho, hb⟩
  have HO := Lib.hid ho
  clear ho hev c0 c1 c2 c3 c4 c5 f2 f3 f4
  go_wp2
  go_ret
  exact ⟨v, rfl, HO.out, hb⟩

set_option maxHeartbeats 2000000 in
theorem igone_any (w : World) (F : Nat → Prop) (bi N : Nat) (x : Itk) (h : ItkAt w F bi N x) (hN : N ≤ 100000) : Calls Tryz.prog 17 #[.pointer (some ⟨bi, 0, none⟩)] w (GonePost w x.gone) := by
  obtain ⟨A, hM, hO, _, hng, _⟩ := h
  obtain ⟨c0, c1, c2, c3, c4, c5, f2, f3, f4⟩ := hM.cells
  obtain ⟨D, hD1, hD2, hD3⟩ := hM.gone
  have HD := Lib.hid hD1
  have hDs : Maps.size D ≤ A.ng := hD1.size_le
  have hle : A.ng ≤ 100000 := by omega
  clear hM hO hD1
  refine (callsIn_wide (n := 6)).1 ?_
  have hfK : Fence.wide.fn 48 := trivial
  have hfS : Fence.wide.fn 47 := trivial
  refine callsIn_of_wp Tryz.func17 rfl trivial ?_ rfl
  simp only [Tryz.ntmps17, List.size_toArray, List.length_cons, List.length_nil, Nat.reduceAdd, Nat.reduceSub, Array.replicate_succ, Array.replicate_zero, List.push_toArray, List.append_toArray, List.nil_append, List.cons_append]
  gi_wp2_with fail
  refine (Tryz.maps_Keys_48 _ _).mono ?_
  rintro e w2 ⟨rfl, rfl⟩
  gi_wp2_with fail
  refine (Tryz.slices_Sorted_keys_47_48 A.bg A.ng D _ w HD.out (by unfold maxLen; omega) (by omega)).mono ?_
  rintro e w3 ⟨v, ss, rfl, hS, hrow, hnil, hb3⟩
  clear c0 c1 c2 c3 c4 c5 f2 f3 f4
  gi_wp2_with fail
  go_ret
  obtain ⟨ks, hk1, hk2⟩ := nodup_dedup x.gone
  have hp : ks.Perm (strKeys D) := SetB.perm HD.out (fun k => (hD3 k).2) hk1 hk2
  have hpp : ss.Perm ks := hS.trans hp.symm
  have hnd : ss.Nodup := hpp.nodup_iff.2 hk1
  have hr := rising_sort hnd (fun x => hpp.mem_iff.trans (hk2 x))
  have hlen : (ss.mergeSort (fun x y => decide (x ≤ y))).length = ss.length := List.length_mergeSort _
  refine ⟨v, ss.mergeSort (fun x y => decide (x ≤ y)), rfl, hr, ?_, ?_⟩
  · rw [hlen]
    refine ⟨hrow.1, ?_⟩
    rcases hrow.2 with ⟨e, hl⟩ | ⟨g, cap, cur, e, hb', hg, hrr⟩
    · exact .inl ⟨e, hl⟩
    · exact .inr ⟨g, cap, cur, e, by simp at hb'; omega, hg, hrr⟩
  · exact ((Below.refl _ _).alloc (Nat.le_refl _) _).trans (hb3.mono (by simp))
end Go.Proofs.YtoljbbmjbgepiaaGreatDoor
