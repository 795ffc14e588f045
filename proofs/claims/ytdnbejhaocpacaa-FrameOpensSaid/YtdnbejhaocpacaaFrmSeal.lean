/-
  Layer 3: what frame.Seal gives.
-/
import Derived.Test.YtdnbejhaocpacaaFrmWalk
import Derived.Test.YtdnbejhaocpacaaBytes
namespace Go.Proofs.Ytdnbejhaocpacaa
open Go.RowKit

theorem seal_long (w : World) (A : Option Addr) (n c : Nat) (hn : 65536 < n) (hm : n ≤ maxLen) :
    Calls Try.prog 11 #[.slice A n c] w fun e w' => e = .returned (.tuple #[.slice none 0 0, .int .i64 9]) ∧ w = w' := by
  unfold maxLen at hm
  go_enter Try.func11, Try.ntmps11
  go_wp2
  go_ret2
  exact ⟨rfl, rfl⟩

def SealPost (w : World) (l : List UInt8) (e : Ending) (w' : World) : Prop :=
  ∃ v, e = .returned (.tuple #[v, .int .i64 0]) ∧ OwnB w' w.heap.size v (Frm.sealB l) ∧ Below w.heap.size w w'

set_option maxHeartbeats 1000000 in
theorem seal_any (w : World) (A : Option Addr) (n c : Nat) (l : List UInt8) (h : Byt w w.heap.size A n c l) (hn : n ≤ 65536) :
    Calls Try.prog 11 #[.slice A n c] w (SealPost w l) := by
  have HH := Lib.hid h; clear h
  obtain ⟨i0, hi, hz0, hz1, hz2⟩ := info_parts u8_info
  go_enter Try.func11, Try.ntmps11
  go_wp2_with (at_make; refine wpList_make_own _ rfl _ _ 22 rfl w.heap.size 5 i0 (.int .u8 0) 1 Try.underlying22 hi hz0 hz1 _ _ _ (6 + n + 4) rfl rfl ?c1 ?c2 ?c3 (Nat.le_refl _) ?_)
  case c1 => omega
  case c2 => rw [hz2]; omega
  case c3 => unfold maxLen; omega
  intro w1 hown1 hg1
  have hsz : w.heap.size + 1 ≤ w1.heap.size := (hown1.lt _ rfl).2
  have HO1 := Lib.hid hown1; clear hown1
  have HG1 := Lib.hid hg1; clear hg1
  clear hi hz0 hz1 hz2
  go_wp2_with (at_builtin; refine wpList_app8 rfl (.tmp 26) (.tmp 36) rfl w.heap.size _ [] rfl ?c1 (w1.heap.size + 1) _ _ _ (Frm.be3 n ++ (Frm.be3 n).map (255 - ·)) rfl ?c2 ?c3 ?c4 ?_)
  case c1 => exact OwnB.alloc (l := []) HO1.out _
  case c2 => exact Byt.new w1 _ _ _ (by simp [Frm.be3, Frm.u8_toNat, Frm.sub255]; omega) 6 rfl (by unfold maxLen; omega)
  case c3 => simp
  case c4 => simp; omega
  intro v2 w2 hown2 hg2 _
  have hb1 : Below w.heap.size w w1 := Below.grown (Below.refl _ _) HG1.out (Nat.le_refl _) (by simp)
  have hb2 : Below w.heap.size w w2 := Below.grown (hb1.alloc (by omega) _) hg2 (by simp; omega) (by intro k hk; simp [Value.ownBlock] at hk; omega)
  have HO2 := Lib.hid hown2; clear hown2 hg2
  have hs2 := hb2.size
  go_wp2_with (at_builtin; refine wpList_app8 rfl (.tmp 38) (.tmp 39) rfl w.heap.size _ _ rfl HO2.out w.heap.size _ _ _ l rfl (HH.out.below hb2) ?c3 hs2 ?_)
  case c3 => simp [Frm.be3]; omega
  intro v3 w3 hown3 hg3 _
  have hb3 : Below w.heap.size w w3 := Below.grown hb2 hg3 hs2 HO2.out.lt
  have hs3 := hb3.size
  have hf : Frm.be3 n ++ ((Frm.be3 n).map (255 - ·) ++ l) = Frm.front l := by unfold Frm.front; rw [HH.out.len, List.append_assoc]
  rw [hf] at hown3
  obtain ⟨A3, c3, hv3⟩ := hown3.form
  have hl3 : (Frm.front l).length = n + 6 := by rw [Frm.front_length, HH.out.len]
  rw [hl3] at hv3
  rw [hv3] at hown3 ⊢
  have HO3 := Lib.hid hown3
  clear hown3 hg3 hf hl3 hv3 HO2 hs2
  have hlt := Frm.asum_lt (Frm.front l)
  have hfl := Frm.front_length l
  have hll := HH.out.len
  have HFL := Lib.hid hfl
  have HLL := Lib.hid hll
  clear hfl hll
  go_wp2_with fail
  refine (sum_any w3 _ A3 (n + 6) c3 (Frm.front l) HO3.out.byt (by omega)).mono ?_
  rintro e w' ⟨rfl, rfl⟩
  generalize hs : Frm.asum (Frm.front l) = s at *
  have HS := Lib.hid hs; clear hs
  go_wp2_with (at_builtin; refine wpList_app8 rfl (.tmp 43) (.tmp 55) rfl w.heap.size _ (Frm.front l) rfl ?c1 (w3.heap.size + 1) _ _ _ (Frm.be4 s) rfl ?c2 ?c3 ?c4 ?_)
  case c1 => exact OwnB.alloc HO3.out _
  case c2 => exact Byt.new w3 _ _ _ (by simp [Frm.be4, Frm.u8_toNat]; omega) 4 rfl (by unfold maxLen; omega)
  case c3 => rw [HFL.out, HLL.out]; omega
  case c4 => simp; omega
  intro v4 w4 hown4 hg4 _
  have hb4 : Below w.heap.size w w4 := Below.grown (hb3.alloc hs3 _) hg4 (by simp; omega) HO3.out.lt
  clear hg4
  go_wp2
  go_ret2
  refine ⟨v4, rfl, ?_, hb4⟩
  unfold Frm.sealB
  rw [HS.out]
  exact hown4
end Go.Proofs.Ytdnbejhaocpacaa
