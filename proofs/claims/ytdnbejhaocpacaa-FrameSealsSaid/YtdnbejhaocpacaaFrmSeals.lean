/-
  Layer 3: the law FrameSeals, walked.
-/
import Derived.Test.YtdnbejhaocpacaaFrmApart
import Derived.Test.YtdnbejhaocpacaaFrmRefSeal
namespace Go.Proofs.Ytdnbejhaocpacaa
open Go.RowKit

set_option maxHeartbeats 2000000 in
set_option maxRecDepth 100000 in
theorem seals_any (w : World) (A : Option Addr) (n c : Nat) (l : List UInt8) (h : Byt w w.heap.size A n c l) (A' : Option Addr) (n' c' : Nat) (l' : List UInt8) (h' : Byt w w.heap.size A' n' c' l') :
    Calls Try.prog 3 #[.slice A n c, .slice A' n' c'] w (Says true w) := by
  have hmax := h.max
  have hcap := h.cap
  have hmax' := h'.max
  have hcap' := h'.cap
  have hnm : n ≤ maxLen := by omega
  unfold maxLen at hmax hmax'
  have HH := Lib.hid h; clear h
  have HH' := Lib.hid h'; clear h'
  have HNM := Lib.hid hnm; clear hnm
  go_enter Try.func3, Try.ntmps3
  go_wp2_with fail
  refine (awake_any w).mono ?_
  rintro e w1 ⟨rfl, hb1⟩
  by_cases hn : 70000 < n
  · go_wp2
    go_ret
    exact ⟨rfl, hb1⟩
  by_cases hn' : 3000 < n'
  · go_wp2
    go_ret
    exact ⟨rfl, hb1⟩
  by_cases hlong : 65536 < n
  · go_wp2_with fail
    refine (seal_long w1 A n c hlong HNM.out).mono ?_
    rintro e w2 ⟨rfl, rfl⟩
    have hst := str0 (HH.out.below hb1)
    go_wp2_with fail
    refine (rseal_long w1 l (by rw [HH.out.len]; omega) (by rw [HH.out.len]; omega)).mono ?_
    rintro e w2 ⟨rfl, rfl⟩
    have hst0 := str0 (Byt.nil w1 0 none 0 (by unfold maxLen; omega))
    go_wp2
    go_ret
    exact ⟨rfl, hb1⟩
  go_wp2_with fail
  refine (seal_any w1 A n c l ((HH.out.below hb1).more hb1.size) (by omega)).mono ?_
  rintro e w2 ⟨v, rfl, hown, hb2⟩
  have hbw2 : Below w.heap.size w w2 := hb1.trans (hb2.mono hb1.size)
  obtain ⟨A2, c2, hv⟩ := hown.form
  rw [Frm.sealB_length, HH.out.len] at hv
  subst hv
  have HB2 := Lib.hid hown.byt; clear hown
  have hst := str0 (HH.out.below hbw2)
  go_wp2_with fail
  refine (rseal_any w2 l (by rw [HH.out.len]; omega)).mono ?_
  clear hst
  rintro e w3 ⟨rfl, hb3⟩
  have hbw3 : Below w.heap.size w w3 := hbw2.trans (hb3.mono hbw2.size)
  have hst2 := str0 (HB2.out.below hb3)
  have hx : (!(Frm.sealB l == Frm.sealB l)) = false := by simp
  go_wp2_with (at_builtin; refine wpList_app8 rfl (.tmp 54) (.tmp 55) rfl w3.heap.size _ [] rfl ?c1 w2.heap.size _ _ _ (Frm.sealB l) rfl ?c2 ?c3 ?c4 ?_)
  case c1 => exact World.ownsRow_lit w3 #[] 0 (Nat.le_refl _) (by simp [maxLen]) rfl
  case c2 => exact (HB2.out.below hb3).alloc hb3.size _
  case c3 => simp; omega
  case c4 => simp
  intro v5 w5 hown5 hg5 _
  clear hst2 hx
  have hb5 : Below w3.heap.size w3 w5 := Below.grown ((Below.refl _ _).alloc (Nat.le_refl _) (Obj.cells #[] 5)) hg5 (by simp) (by intro k hk; simp [Value.ownBlock] at hk; omega)
  have hbw5 : Below w.heap.size w w5 := hbw3.trans (hb5.mono hbw3.size)
  have HO5 := Lib.hid hown5; clear hown5 hg5
  have hs5 := hb5.size
  go_wp2_with (at_builtin; refine wpList_app8 rfl (.tmp 56) (.tmp 57) rfl w3.heap.size _ (Frm.sealB l) rfl HO5.out w.heap.size _ _ _ l' rfl (HH'.out.below hbw5) ?c3 hs5 ?_)
  case c3 => rw [Frm.sealB_length, HH.out.len]; omega
  intro v6 w6 hown6 hg6 _
  have hb6 : Below w3.heap.size w3 w6 := Below.grown hb5 hg6 hs5 HO5.out.lt
  have hbw6 : Below w.heap.size w w6 := hbw3.trans (hb6.mono hbw3.size)
  obtain ⟨A6, c6, hv6⟩ := hown6.form
  rw [List.length_append, Frm.sealB_length, HH.out.len, HH'.out.len] at hv6
  subst hv6
  have HB6 := Lib.hid hown6.byt; clear hown6 hg6
  go_wp2_with fail
  refine (open_any w6 _ _ _ _ HB6.out (by omega)).mono ?_
  rintro e w7 ⟨v7, rfl, hown7, hb7⟩
  have hbw7 : Below w.heap.size w w7 := hbw6.trans (hb7.mono hbw6.size)
  have hop := Frm.openB_whole l l' (by rw [HH.out.len]; omega)
  rw [hop] at hown7 ⊢
  obtain ⟨A7, c7, hv7⟩ := hown7.form
  rw [HH.out.len] at hv7
  subst hv7
  have hl : l.length = n := HH.out.len
  have hst7 := str0 hown7.byt
  have hst8 := str0 (HH.out.below hbw7)
  clear hop hown7
  dsimp only
  rw [hl]
  have t1 : (((6 + n + 4 : Nat) : Int) == (n : Int) + 10) = true := by simp; omega
  have t2 : (6 + (n : Int) + 4 == (n : Int) + 10) = true := by simp; omega
  have t3 : (l == l) = true := by simp
  have HL := Lib.hid hl; clear hl
  go_wp2
  go_ret
  exact ⟨rfl, hbw7⟩
end Go.Proofs.Ytdnbejhaocpacaa
