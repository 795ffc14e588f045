/-
  Layer 8: take.
-/
import Derived.Test.YtoljbbmjbgepiaaGreatDoorItkDrop
import Derived.Test.YtoljbbmjbgepiaaGreatDoorHadPut
import Derived.Test.YtoljbbmjbgepiaaGreatDoorIns
namespace Go.Proofs.YtoljbbmjbgepiaaGreatDoor
open Go.RowKit Go.Maps Go.Sort

set_option maxRecDepth 100000 in
set_option maxHeartbeats 1000000 in
theorem take1_any (w : World) (b1 b2 bi g off n c : Nat) (a e : Ev) (k : Nat) (hk : k < n) (hc1 : w.cell? ⟨b1, 0, none⟩ = some (.pointer (some ⟨bi, 0, none⟩))) (hc2 : w.cell? ⟨bi, 2, none⟩ = some (.slice (some ⟨g, off, none⟩) n c))
    (ha : EvAt w g (off + k * 8) a) (he : EvIn w b2 e) :
    Calls Tryz.prog 93 (#[.int .i64 k] ++ #[.pointer (some ⟨b1, 0, none⟩), .pointer (some ⟨b2, 0, none⟩)]) w (Says (decide (0 < cmpE a e)) w) := by
  show Calls Tryz.prog 93 #[.int .i64 k, .pointer (some ⟨b1, 0, none⟩), .pointer (some ⟨b2, 0, none⟩)] w (Says (decide (0 < cmpE a e)) w)
  obtain ⟨a0, a1, a2, a3, a4, a5, a6, a7⟩ := ha
  obtain ⟨e0, e1, e2, e3, e4, e5, e6, e7⟩ := he
  have hk' : (k : Int) < n := by omega
  go_enter Tryz.func93, Tryz.ntmps93
  go_wp2
  go_still_tail 8, (by kernel_rfl)
  change wpList _ _ _ _ _ (w.drewN 1)
  have hbq : Below w.heap.size w (w.drewN 1) := below_drewN (Below.refl _ _) 1
  clear a0 a1 a2 a3 a4 a5 a6 a7 e0 e1 e2 e3 e4 e5 e6 e7 hc1 hc2
  generalize w.drewN 1 = w1 at *
  go_wp2_with fail
  refine (compare_any w1 a e).mono ?_
  rintro r w2 ⟨rfl, hb2⟩
  have hbw : Below w.heap.size w w2 := hbq.trans (hb2.mono hbq.size)
  clear hb2
  generalize cmpE a e = q at *
  go_wp2
  go_ret
  exact ⟨rfl, hbw⟩

theorem take2_any (w : World) (b : Nat) (y e : Ev) (hc : EvIn w b e) (hb : b < w.heap.size) : Calls Tryz.prog 95 (#[y.agg] ++ #[.pointer (some ⟨b, 0, none⟩)]) w (Says (keepB e.per y) w) := by
  show Calls Tryz.prog 95 #[y.agg, .pointer (some ⟨b, 0, none⟩)] w (Says (keepB e.per y) w)
  unfold Ev.agg
  have hbA : Below w.heap.size w (w.alloc (evObj y)) := (Below.refl _ _).alloc (Nat.le_refl _) _
  obtain ⟨_, _, _, _, e4, _, _, _⟩ := hc.below hbA hb
  have HK := Lib.hid (show keepB e.per y = ((y.per != e.per) || (y.kind == 14)) from rfl)
  cases h1 : (y.per == e.per)
  · have HB := Lib.hid (show keepB e.per y = true by rw [HK.out]; simp [bne, h1])
    have h2 : (y.per != e.per) = true := by simp [bne, h1]
    go_enter Tryz.func95, Tryz.ntmps95
    go_wp2
    go_ret
    exact ⟨ret_bool HB.out.symm, hbA⟩
  · have HB := Lib.hid (show keepB e.per y = (y.kind == 14) by rw [HK.out]; simp [bne, h1])
    have h2 : (y.per != e.per) = false := by simp [bne, h1]
    go_enter Tryz.func95, Tryz.ntmps95
    go_wp2
    go_ret
    exact ⟨ret_bool HB.out.symm, hbA⟩
end Go.Proofs.YtoljbbmjbgepiaaGreatDoor
