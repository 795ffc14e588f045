/-
  Layer 2: event.Compare.
-/
import Derived.Test.YtoljbbmjbgepiaaGreatDoorEvListing
import Derived.StillTailTactics
namespace Go.Proofs.YtoljbbmjbgepiaaGreatDoor
open Go.RowKit Go.Maps Go.Sort

def orI (a b c : Int) : Int := if a ≠ 0 then a else if b ≠ 0 then b else c
def cmpE (a b : Ev) : Int := orI (Lib.compareInt a.at_ b.at_) (Lib.compareBytes a.src b.src) (Lib.compareInt a.num b.num)

set_option maxHeartbeats 1000000 in
theorem or3_any (w : World) (b : Nat) (x y z : Int) (h0 : w.cell? ⟨b, 0, none⟩ = some (.int .i64 x)) (h1 : w.cell? ⟨b, 1, none⟩ = some (.int .i64 y)) (h2 : w.cell? ⟨b, 2, none⟩ = some (.int .i64 z)) :
    Calls Tryz.prog 97 #[.slice (some ⟨b, 0, none⟩) 3 3] w fun e w' => e = .returned (.int .i64 (orI x y z)) ∧ w = w' := by
  have HO := Lib.hid (show orI x y z = if x ≠ 0 then x else if y ≠ 0 then y else z from rfl)
  have hget : ∀ k : Nat, k < 3 → w.cell? ⟨b, 0 + k, none⟩ = some (.int .i64 ([x, y, z].getD k 0)) := fun k hk => by
    rcases (show k = 0 ∨ k = 1 ∨ k = 2 by omega) with rfl | rfl | rfl
    · exact h0
    · exact h1
    · exact h2
  have HG := Lib.hid hget
  have HR := Lib.hid (show ∀ k : Nat, k < 3 → (∀ j, j < k → [x, y, z].getD j 0 = 0) → [x, y, z].getD k 0 ≠ 0 → orI x y z = [x, y, z].getD k 0 from fun k hk hz hn => by
    rcases (show k = 0 ∨ k = 1 ∨ k = 2 by omega) with rfl | rfl | rfl
    · simp at hn; simp [orI, hn]
    · have a0 := hz 0 (by omega); simp at hn a0; simp [orI, hn, a0]
    · have a0 := hz 0 (by omega); have a1 := hz 1 (by omega); simp at hn a0 a1; simp [orI, a0, a1])
  have HE := Lib.hid (show (∀ j, j < 3 → [x, y, z].getD j 0 = 0) → orI x y z = 0 from fun hz => by
    have a0 := hz 0 (by omega); have a1 := hz 1 (by omega); have a2 := hz 2 (by omega)
    simp at a0 a1 a2; simp [orI, a0, a1, a2])
  clear hget h0 h1 h2 HO
  generalize orI x y z = r at *
  generalize [x, y, z] = l at *
  go_enter Tryz.func97, Tryz.ntmps97
  go_wp2
  go_loop [8] (fun i => ∃ k : Nat, i = .int .i64 k ∧ k ≤ 3 ∧ Hid (∀ j, j < k → l.getD j 0 = 0)) (fun i => 3 - (intOf i).toNat)
  case atStart => exact ⟨0, rfl, by omega, fun j hj => by omega⟩
  case round =>
    obtain ⟨k, rfl, hk, HZ⟩ := hrel
    by_cases hk3 : k < 3
    · have hc := HG.out k hk3
      have HRK := Lib.hid (HR.out k hk3 HZ.out)
      have HN := Lib.hid (show l.getD k 0 = 0 → ∀ j, j < k + 1 → l.getD j 0 = 0 from fun h j hj => by
        by_cases e : j = k
        · subst e; exact h
        · exact HZ.out j (by omega))
      rw [Nat.zero_add] at hc
      generalize l.getD k 0 = v at *
      have t3 : (k : Int) < 3 := by omega
      by_cases hv : v = 0
      · have HN' := Lib.hid (HN.out hv)
        have bv : (v != 0) = false := by simpa using hv
        clear hv
        go_wp2
        go_round
        case rel => exact ⟨k + 1, by go_num, by omega, HN'.out⟩
        case measure => simp [intOf]; omega
      · have HV := Lib.hid (HRK.out hv)
        have bv : (v != 0) = true := by simpa using hv
        clear hv
        go_wp2
        go_ret
        exact ⟨ret_int HV.out.symm, rfl⟩
    · have HV := Lib.hid (HE.out (fun j hj => HZ.out j (by omega)))
      have t3 : ¬ (k : Int) < 3 := by omega
      go_wp2
      go_ret
      exact ⟨ret_int HV.out.symm, rfl⟩

set_option maxRecDepth 100000 in
set_option maxHeartbeats 2000000 in
theorem compare_any (w : World) (a b : Ev) : Calls Tryz.prog 58 #[a.agg, b.agg] w fun e w' => e = .returned (.int .i64 (cmpE a b)) ∧ Below w.heap.size w w' := by
  have HC := Lib.hid (show cmpE a b = orI (Lib.compareInt a.at_ b.at_) (Lib.compareBytes a.src b.src) (Lib.compareInt a.num b.num) from rfl)
  unfold Ev.agg
  go_enter Tryz.func58, Tryz.ntmps58
  go_wp2
  have hbA : Below w.heap.size w ((w.alloc (evObj a)).alloc (evObj b)) := ((Below.refl _ _).alloc (Nat.le_refl _) _).alloc (by simp) _
  have hb1 : Below (w.alloc (evObj a)).heap.size (w.alloc (evObj a)) ((w.alloc (evObj a)).alloc (evObj b)) := (Below.refl _ _).alloc (Nat.le_refl _) _
  obtain ⟨f0, f1, f2, f3, f4, f5, f6, f7⟩ := (EvIn.new w a).below hb1 (by simp)
  obtain ⟨g0, g1, g2, g3, g4, g5, g6, g7⟩ := EvIn.new (w.alloc (evObj a)) b
  have hsA : (w.alloc (evObj a)).heap.size = w.heap.size + 1 := by simp
  rw [hsA] at g0 g1 g2 g3 g4 g5 g6 g7
  have hs1 : ((w.alloc (evObj a)).alloc (evObj b)).heap.size = w.heap.size + 2 := by simp
  have HS1 := Lib.hid hs1
  clear hb1 hsA hs1
  generalize (w.alloc (evObj a)).alloc (evObj b) = w1 at *
  go_still_tail 15, (by kernel_rfl)
  still_call (Tryz.cmp_Compare_int _ _ _)
  repeat still_step
  still_call (Tryz.strings_Compare _ _ _)
  repeat still_step
  still_call (Tryz.cmp_Compare_int _ _ _)
  repeat still_step
  refine wpStill_nil ?_
  change wpList _ _ _ _ _ (w1.drewN 1)
  have hbq : Below w.heap.size w (w1.drewN 1) := below_drewN hbA 1
  have hsq : w.heap.size + 2 = (w1.drewN 1).heap.size := by show _ = w1.heap.size; rw [HS1.out]
  generalize w1.drewN 1 = w2 at *
  generalize Lib.compareInt a.at_ b.at_ = x at *
  generalize Lib.compareBytes a.src b.src = y at *
  generalize Lib.compareInt a.num b.num = z at *
  have HSQ := Lib.hid hsq
  clear hsq
  go_wp2_with fail
  have key : ∀ o, (w2.alloc (.cells #[.int .i64 x, .int .i64 y, .int .i64 z] 3)).cell? ⟨w2.heap.size, o, none⟩ = _ := fun o => cell_of_row _ w2.heap.size o _ _ (0, 0) (heap_alloc_new w2 _)
  refine (or3_any _ w2.heap.size x y z ((key 0).trans rfl) ((key 1).trans rfl) ((key 2).trans rfl)).mono ?_
  rintro e w3 ⟨rfl, rfl⟩
  clear key
  go_wp2
  go_ret
  exact ⟨ret_int HC.out.symm, hbq.alloc (by have := HSQ.out; omega) _⟩
end Go.Proofs.YtoljbbmjbgepiaaGreatDoor
