/-
  Layer 31: the chapter's example (awake).
-/
import Derived.Test.YtejjfhhppjdcaaaGreatDoorOOpenDjs
import Derived.Test.YtejjfhhppjdcaaaGreatDoorOErGnV
import Derived.Test.YtejjfhhppjdcaaaGreatDoorOEvListing
import Derived.StillTailTactics
namespace Go.Proofs.YtejjfhhppjdcaaaGreatDoor
open Go.RowKit Go.Maps Go.Sort

def ex1 : Ev := ⟨[115], 1, 0, 1, [112], [97], 0, []⟩
def ex2 : Ev := ⟨[115], 2, 0, 1, [113], [97], 0, []⟩
def ex3 : Ev := ⟨[115], 3, 0, 14, [112], [], 0, []⟩
def exL : List Ev := [ex1, ex2, ex3]
theorem ex_gone : goneL exL = [[112]] := by decide
theorem ex_clean : exL.filter (outB (goneL exL)) = [ex2, ex3] := by decide
theorem ex_left : (exL.filter (fun e => !ownB [112] e)).length = 2 := by decide
theorem ex_small : ∀ e ∈ exL, e.small := by
  intro e he
  simp only [exL, List.mem_cons, List.not_mem_nil, or_false] at he
  rcases he with rfl | rfl | rfl <;> exact ⟨by decide, by decide, by decide, by decide⟩
theorem rising_one {r : List (List UInt8)} {s : List UInt8} (h : Rising r [s]) : r = [s] :=
  rising_unique h ⟨List.pairwise_singleton _ _, fun _ => Iff.rfl⟩

abbrev exObj : Obj := .cells #[Value.string { data := #[115] }, Value.int IntKind.i64 1, Value.int IntKind.i64 0, Value.int IntKind.i64 1, Value.string { data := #[112] }, Value.string { data := #[97] }, Value.int IntKind.i64 0, Value.string { data := #[] }, Value.string { data := #[115] }, Value.int IntKind.i64 2, Value.int IntKind.i64 0, Value.int IntKind.i64 1, Value.string { data := #[113] }, Value.string { data := #[97] }, Value.int IntKind.i64 0, Value.string { data := #[] }, Value.string { data := #[115] }, Value.int IntKind.i64 3, Value.int IntKind.i64 0, Value.int IntKind.i64 14, Value.string { data := #[112] }, Value.string { data := #[] }, Value.int IntKind.i64 0, Value.string { data := #[] }] 36
theorem ex_evs (w : World) : Evs (w.alloc exObj) (w.alloc exObj).heap.size (some ⟨w.heap.size, 0, none⟩) 3 3 exL :=
  Cel.more (Cel.new (n := 3) (size := 8) w _ _ (by unfold maxLen; omega) rfl) (by simp)

set_option maxRecDepth 100000 in
set_option maxHeartbeats 4000000 in
theorem awake_any (w : World) : Calls Tryz.prog 51 #[] w (Says true w) := by
  go_enter Tryz.func51, Tryz.ntmps51
  go_wp2_with fail
  have hev := ex_evs w
  have hb0 : Below w.heap.size w (w.alloc exObj) := (Below.refl _ _).alloc (Nat.le_refl _) _
  have hs0 : w.heap.size < (w.alloc exObj).heap.size := by simp
  generalize w.alloc exObj = w0 at *
  have HE := Lib.hid hev; clear hev
  refine (gone_any w0 _ 3 3 exL HE.out (by omega) ex_small).mono ?_
  rintro e w1 ⟨v1, r, rfl, hri, hrow, hb1⟩
  rw [ex_gone] at hri
  have hr := rising_one hri
  subst hr
  obtain ⟨A1, c1, hv1⟩ := ownsRow_form hrow
  subst hv1
  have HS1 := Lib.hid (Cel.of_own hrow); clear hri hrow
  go_wp2_with fail
  refine (clean_any w1 _ 3 3 exL (Cel.more (Cel.below HE.out hb1) hb1.size) (by omega) ex_small).mono ?_
  rintro e w2 ⟨v2, rfl, hown2, hb2⟩
  rw [ex_clean] at hown2
  obtain ⟨A2, c2, hv2⟩ := ownsRow_form hown2
  subst hv2
  have hE2 : Evs w2 w2.heap.size A2 2 c2 [ex2, ex3] := Cel.of_own hown2
  have hS2 : Strs w2 w1.heap.size A1 1 c1 [[112]] := Cel.below HS1.out hb2
  have hb02 : Below w0.heap.size w0 w2 := hb1.trans (hb2.mono hb1.size)
  have hL2 : Evs w2 w0.heap.size (some ⟨w.heap.size, 0, none⟩) 3 3 exL := Cel.below HE.out hb02
  obtain ⟨b1, o1, e1, _, g0⟩ := hS2.at_ 0 (by decide)
  subst e1
  obtain ⟨b2, o2, e2, _, hx⟩ := hE2.ev 0 (by decide)
  subst e2
  obtain ⟨f0, f1, f2, f3, f4, f5, f6, f7⟩ := hx
  obtain ⟨b3, o3, e3, _, hy⟩ := hL2.ev 1 (by decide)
  simp only [Option.some.injEq, Addr.mk.injEq, and_true] at e3
  obtain ⟨rfl, rfl⟩ := e3
  obtain ⟨k0, k1, k2, k3, k4, k5, k6, k7⟩ := hy
  have hbw2 : Below w.heap.size w w2 := hb0.trans (hb02.mono hb0.size)
  have HT := Lib.hid (fun q => traces_any (w2.drewN q) [112] _ 3 3 exL (Cel.more (Cel.drewN (Cel.below HE.out hb02) q) hb02.size) (by omega) (by decide))
  clear hown2 hb1 hb2 hb02 hE2 hS2 hL2 HS1 hb0 hs0
  simp only [exL, ex1, ex2, ex3, List.getElem_cons_zero, List.getElem_cons_succ, Nat.add_zero, Nat.zero_mul, Nat.one_mul, Nat.zero_add, Nat.reduceAdd] at g0 f0 f1 f2 f3 f4 f5 f6 f7 k0 k1 k2 k3 k4 k5 k6 k7
  go_wp2
  go_still_tail 25, (by kernel_rfl)
  have HT1 := Lib.hid (HT.out 1)
  have hbq : Below w.heap.size w (w2.drewN 1) := below_drewN hbw2 1
  change wpList _ _ _ _ _ (w2.drewN 1)
  generalize w2.drewN 1 = w3 at *
  clear g0 f0 f1 f2 f3 f4 f5 f6 f7 k0 k1 k2 k3 k4 k5 k6 k7
  go_wp2_with fail
  refine HT1.out.mono ?_
  rintro e w4 ⟨rfl, hb4⟩
  rw [ex_left, show exL.length - 2 = 1 from rfl]
  go_wp2
  go_ret
  exact ⟨rfl, hbq.trans (hb4.mono hbq.size)⟩
end Go.Proofs.YtejjfhhppjdcaaaGreatDoor
