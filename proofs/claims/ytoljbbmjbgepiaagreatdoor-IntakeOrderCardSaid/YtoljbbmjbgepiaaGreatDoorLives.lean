/-
  Layer 8: the laws' lives.
-/
import Derived.Test.YtoljbbmjbgepiaaGreatDoorItkNew
namespace Go.Proofs.YtoljbbmjbgepiaaGreatDoor
open Go.RowKit Go.Maps Go.Sort

def lvE (n at_ : Int) : Ev := ⟨[97], n, at_, 14, [112], [], 0, []⟩
def lv0 : Itk := Itk.new 0 0
def lv1 : Itk := lv0.offer (lvE 1 5) 0
def lv2 : Itk := lv1.offer (lvE 2 4) 0
theorem lv_a : lv0.offered (lvE 1 5) 0 = 0 := by decide +kernel
theorem lv_b : lv1.clk.mark = 4 := by decide +kernel
theorem lv_c : lv1.offered (lvE 2 4) 0 = 2 := by decide +kernel
theorem lv_d : lv2.offered (lvE 1 9) 0 = 1 := by decide +kernel
theorem lv_small (n at_ : Int) : (lvE n at_).small := ⟨by simp [lvE], by simp [lvE], by simp [lvE], by simp [lvE]⟩

theorem lvof_any (w : World) (n at_ : Int) : Calls Tryz.prog 44 #[.int .i64 n, .int .i64 at_] w fun r w' => r = .returned (lvE n at_).agg ∧ Below w.heap.size w w' := by
  have HA := Lib.hid (show (lvE n at_).agg = .agg #[.string ⟨#[97]⟩, .int .i64 n, .int .i64 at_, .int .i64 14, .string ⟨#[112]⟩, .string ⟨#[]⟩, .int .i64 0, .string ⟨#[]⟩] from rfl)
  go_enter Tryz.func44, Tryz.ntmps44
  go_wp2
  exact bodyPost_ret (v := .agg #[.string ⟨#[97]⟩, .int .i64 n, .int .i64 at_, .int .i64 14, .string ⟨#[112]⟩, .string ⟨#[]⟩, .int .i64 0, .string ⟨#[]⟩]) (by simp [results, Tryz.results44, go_sem]) rfl ⟨by rw [HA.out], (Below.refl _ _).alloc (Nat.le_refl _) _⟩

set_option maxRecDepth 100000 in
set_option maxHeartbeats 2000000 in
theorem lives_any (w : World) (hmx : MaxAt w) : Calls Tryz.prog 10 #[] w (Says true w) := by
  have HMX := Lib.hid hmx
  have hmlt := hmx.lt
  clear hmx
  go_enter Tryz.func10, Tryz.ntmps10
  go_wp2_with fail
  refine (itknew_any w 0 0).mono ?_
  rintro r w1 ⟨bi, F1, rfl, hI1, hb1, hF1⟩
  have HI1 := Lib.hid (show ItkAt w1 F1 bi 0 lv0 from hI1); have HF1 := Lib.hid hF1
  have hs1 := hb1.size
  have HMX1 := Lib.hid (HMX.out.up hb1)
  clear hI1 hF1
  go_wp2_with fail
  refine (lvof_any w1 1 5).mono ?_
  rintro r w2 ⟨rfl, hb2⟩
  have hbw2 : Below w.heap.size w w2 := hb1.trans (hb2.mono hs1)
  have HI2 := Lib.hid (HI1.out.up hb2)
  have HMX2 := Lib.hid (HMX1.out.up hb2)
  have hs2 := hb2.size
  clear hb2 hb1
  go_wp2_with fail
  refine (offer_any w2 F1 bi 0 lv0 HI2.out (by omega) (lvE 1 5) (lv_small _ _) 0 HMX2.out (fun hf => by have := HF1.out _ hf; omega)).mono ?_
  rintro r w3 ⟨rfl, F3, hI3, hK3, hF3⟩
  rw [lv_a]
  have HI3 := Lib.hid (show ItkAt w3 F3 bi 2 lv1 from hI3)
  have HF3 := Lib.hid (show ∀ b, F3 b → w.heap.size ≤ b from fun b hb => (hF3 b hb).elim (HF1.out b) (fun h => by omega))
  have hbw3 : Below w.heap.size w w3 := hbw2.trans (hK3.below hbw2.size (fun b hb hf => by have := HF1.out b hf; omega))
  have HMX3 := Lib.hid (HMX2.out.out hK3 (fun hf => by have := HF1.out _ hf; omega))
  clear hI3 hK3 hF3
  go_wp2_with fail
  refine (imark_any w3 F3 bi 2 lv1 HI3.out).mono ?_
  rintro r w3' ⟨rfl, rfl⟩
  rw [lv_b]
  go_wp2_with fail
  refine (lvof_any w3 2 4).mono ?_
  rintro r w4 ⟨rfl, hb4⟩
  have hbw4 : Below w.heap.size w w4 := hbw3.trans (hb4.mono hbw3.size)
  have HI4 := Lib.hid (HI3.out.up hb4)
  have HMX4 := Lib.hid (HMX3.out.up hb4)
  clear hb4
  go_wp2_with fail
  refine (offer_any w4 F3 bi 2 lv1 HI4.out (by omega) (lvE 2 4) (lv_small _ _) 0 HMX4.out (fun hf => by have := HF3.out _ hf; omega)).mono ?_
  rintro r w5 ⟨rfl, F5, hI5, hK5, hF5⟩
  rw [lv_c]
  have HI5 := Lib.hid (show ItkAt w5 F5 bi 4 lv2 from hI5)
  have HF5 := Lib.hid (show ∀ b, F5 b → w.heap.size ≤ b from fun b hb => (hF5 b hb).elim (HF3.out b) (fun h => by have := hbw4.size; omega))
  have hbw5 : Below w.heap.size w w5 := hbw4.trans (hK5.below hbw4.size (fun b hb hf => by have := HF3.out b hf; omega))
  have HMX5 := Lib.hid (HMX4.out.out hK5 (fun hf => by have := HF3.out _ hf; omega))
  clear hI5 hK5 hF5
  go_wp2_with fail
  refine (lvof_any w5 1 9).mono ?_
  rintro r w6 ⟨rfl, hb6⟩
  have hbw6 : Below w.heap.size w w6 := hbw5.trans (hb6.mono hbw5.size)
  have HI6 := Lib.hid (HI5.out.up hb6)
  have HMX6 := Lib.hid (HMX5.out.up hb6)
  clear hb6
  go_wp2_with fail
  refine (offer_any w6 F5 bi 4 lv2 HI6.out (by omega) (lvE 1 9) (lv_small _ _) 0 HMX6.out (fun hf => by have := HF5.out _ hf; omega)).mono ?_
  rintro r w7 ⟨rfl, F7, hI7, hK7, hF7⟩
  rw [lv_d]
  have hbw7 : Below w.heap.size w w7 := hbw6.trans (hK7.below hbw6.size (fun b hb hf => by have := HF5.out b hf; omega))
  clear hI7 hK7 hF7
  go_wp2
  go_ret
  exact ⟨rfl, hbw7⟩
end Go.Proofs.YtoljbbmjbgepiaaGreatDoor
