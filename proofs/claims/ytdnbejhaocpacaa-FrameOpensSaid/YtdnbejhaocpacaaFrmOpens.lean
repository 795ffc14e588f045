/-
  Layer 3: the law FrameOpens, walked.
-/
import Derived.Test.YtdnbejhaocpacaaFrmRefAll
namespace Go.Proofs.Ytdnbejhaocpacaa
open Go.RowKit

set_option maxHeartbeats 2000000 in
set_option maxRecDepth 100000 in
theorem opens_any (w : World) (A : Option Addr) (n c : Nat) (l : List UInt8) (h : Byt w w.heap.size A n c l) :
    Calls Try.prog 6 #[.slice A n c] w (Says true w) := by
  have hmax := h.max
  have hcap := h.cap
  unfold maxLen at hmax
  have HH := Lib.hid h; clear h
  go_enter Try.func6, Try.ntmps6
  go_wp2_with fail
  refine (awake_any w).mono ?_
  rintro e w1 ⟨rfl, hb1⟩
  by_cases hn : 70000 < n
  · go_wp2
    go_ret
    exact ⟨rfl, hb1⟩
  have hll : l.length ≤ 70000 := by rw [HH.out.len]; omega
  have HLL := Lib.hid hll; clear hll
  go_wp2_with fail
  refine (open_any w1 A n c l ((HH.out.below hb1).more hb1.size) (by omega)).mono ?_
  rintro e w2 ⟨v, rfl, hown, hb2⟩
  have hbw2 : Below w.heap.size w w2 := hb1.trans (hb2.mono hb1.size)
  obtain ⟨A2, c2, hv⟩ := hown.form
  subst hv
  have HB2 := Lib.hid hown.byt; clear hown
  have hst := str0 (HH.out.below hbw2)
  go_wp2_with fail
  refine (ropen_any w2 l (by have := HLL.out; omega)).mono ?_
  clear hst
  rintro e w3 ⟨rfl, k3, rfl⟩
  have hB3 : Byt (w2.drewN k3) (w2.drewN k3).heap.size A2 (Frm.openB l).1.length c2 (Frm.openB l).1 := (HB2.out.drewN k3).more (Nat.le_refl _)
  have HB3 := Lib.hid hB3; clear hB3
  have hbw3 : Below w.heap.size w (w2.drewN k3) := below_drewN hbw2 k3
  generalize w2.drewN k3 = w3 at *
  go_wp2_with fail
  refine (all_any w3 A n c l ((HH.out.below hbw3).more hbw3.size) (by omega)).mono ?_
  rintro e w4 ⟨v4, vs4, rfl, hrow4, hbs4, hb4⟩
  have hbw4 : Below w.heap.size w w4 := hbw3.trans (hb4.mono hbw3.size)
  have hR4 : RowBs w4 w3.heap.size v4 (Frm.allB l).1 := ⟨vs4, hrow4, hbs4⟩
  obtain ⟨A4, c4, hv4, hc4, hm4⟩ := hR4.form
  subst hv4
  have HR4 := Lib.hid hR4; clear hR4 hrow4 hbs4
  have hst := str0 (HH.out.below hbw4)
  go_wp2_with fail
  refine (rall_any w4 l (by have := HLL.out; omega)).mono ?_
  clear hst
  rintro e w5 ⟨v5, rfl, hrow5, hb5⟩
  have hbw5 : Below w.heap.size w w5 := hbw4.trans (hb5.mono hbw4.size)
  obtain ⟨A5, c5, hv5⟩ := ownsRow_form hrow5
  subst hv5
  have HR5 := Lib.hid hrow5; clear hrow5
  have HR4' := Lib.hid (HR4.out.below hb5 (Nat.le_refl _))
  have hb35 : Below w3.heap.size w3 w5 := hb4.trans (hb5.mono hb4.size)
  have hle := (Frm.allB_le l).2
  have hlee := (Frm.allB_le l).1
  rw [HH.out.len] at hle hlee
  have hle1 := Frm.openB_le l
  rw [HH.out.len] at hle1
  have HT := Lib.hid (texts_any w5 w3.heap.size w4.heap.size A4 A5 c4 c5 (Frm.allB l).1 (by omega) HR4'.out HR5.out)
  have hst2 := str0 (HB3.out.below hb35)
  have t1 : ((Frm.openB l).1 == (Frm.openB l).1) = true := by simp
  have t2 : (((Frm.openB l).2.1 : Int) == ((Frm.openB l).2.1 : Int)) = true := by simp
  have t3 : (((Frm.openB l).2.2 : Int) == ((Frm.openB l).2.2 : Int)) = true := by simp
  have t4 : (((Frm.allB l).2.1 : Int) == ((Frm.allB l).2.1 : Int)) = true := by simp
  have t5 : (((Frm.allB l).2.2 : Int) == ((Frm.allB l).2.2 : Int)) = true := by simp
  go_wp2_with fail
  refine HT.out.mono ?_
  rintro e w6 ⟨rfl, k6, rfl⟩
  go_wp2
  go_ret
  exact ⟨rfl, below_drewN hbw5 k6⟩
end Go.Proofs.Ytdnbejhaocpacaa
