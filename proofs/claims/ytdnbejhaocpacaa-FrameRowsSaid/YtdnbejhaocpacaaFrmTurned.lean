/-
  Layer 3: the law FrameTurned, walked.
-/
import Derived.Test.YtdnbejhaocpacaaFrmAwake
namespace Go.Proofs.Ytdnbejhaocpacaa
open Go.RowKit

theorem OwnB.stored {w : World} {base g n c : Nat} {l : List UInt8} (h : OwnB w base (.slice (some ⟨g, 0, none⟩) n c) l) (i : Nat) (y : UInt8) (hn : l.length = n) :
    OwnB (w.setCell ⟨g, i, none⟩ (.int .u8 y.toNat)) base (.slice (some ⟨g, 0, none⟩) n c) (l.set i y) ∧ w.grownBy (w.setCell ⟨g, i, none⟩ (.int .u8 y.toNat)) (some g) := by
  subst hn
  obtain ⟨h1, h2⟩ := World.ownsRow.stored h i (.int .u8 y.toNat)
  refine ⟨?_, h2⟩
  unfold OwnB
  rw [List.length_set]
  have : bvs (l.set i y) = (bvs l).set i (.int .u8 y.toNat) := by simp [bvs, List.map_set]
  rw [this]
  exact h1
theorem OwnB.head {w : World} {base : Nat} {v : Value} {l : List UInt8} (h : OwnB w base v l) (hp : 0 < l.length) : ∃ g c, v = .slice (some ⟨g, 0, none⟩) l.length c ∧ base ≤ g ∧ g < w.heap.size := by
  rcases h.2 with ⟨e, hl⟩ | ⟨g, cap, cur, e, hb, hg, _⟩
  · omega
  · exact ⟨g, cap, e, hb, (Array.getElem?_eq_some_iff.1 hg).1⟩

theorem getD_at (l : List UInt8) (k : Nat) (h : k < l.length) : l.getD k 0 = l[k] := by simp [List.getD, h]

set_option maxHeartbeats 1000000 in
theorem turned_any (w : World) (A : Option Addr) (n c : Nat) (l : List UInt8) (h : Byt w w.heap.size A n c l) (A' : Option Addr) (n' c' : Nat) (l' : List UInt8) (h' : Byt w w.heap.size A' n' c' l')
    (at_ : Int) (h1 : -9223372036854775808 ≤ at_) (h2 : at_ ≤ 9223372036854775807) (by_ : Int) (h3 : 0 ≤ by_) (h4 : by_ ≤ 255) :
    Calls Try.prog 5 #[.slice A n c, .slice A' n' c', .int .i64 at_, .int .u8 by_] w (Says true w) := by
  have hmax := h.max
  have hcap := h.cap
  have hmax' := h'.max
  have hcap' := h'.cap
  unfold maxLen at hmax hmax'
  have HH := Lib.hid h; clear h
  have HH' := Lib.hid h'; clear h'
  go_enter Try.func5, Try.ntmps5
  go_wp2_with fail
  refine (awake_any w).mono ?_
  rintro e w1 ⟨rfl, hb1⟩
  by_cases hn : 5000 < n
  · go_wp2
    go_ret
    exact ⟨rfl, hb1⟩
  by_cases hn' : 3000 < n'
  · go_wp2
    go_ret
    exact ⟨rfl, hb1⟩
  by_cases hby : by_ = 0
  · subst hby
    go_wp2
    go_ret
    exact ⟨rfl, hb1⟩
  have hby' : (by_ == 0) = false := by simpa using hby
  go_wp2_with fail
  refine (seal_any w1 A n c l ((HH.out.below hb1).more hb1.size) (by omega)).mono ?_
  rintro e w2 ⟨v, rfl, hown, hb2⟩
  have hl10 : (Frm.sealB l).length = n + 10 := by rw [Frm.sealB_length, HH.out.len]
  obtain ⟨g, c2, hv, hg1, hg2⟩ := hown.head (by omega)
  rw [hl10] at hv
  subst hv
  have HL10 := Lib.hid hl10; clear hl10
  have hbt := hown.byt
  have hc2 := hbt.cap
  have hm2 := hbt.max
  unfold maxLen at hm2
  have HO := Lib.hid hown; clear hown
  have HB := Lib.hid hbt; clear hbt
  have hbw : Below w.heap.size w w2 := hb1.trans (hb2.mono hb1.size)
  have hs1 := hb1.size
  by_cases hc0 : at_ < 0
  · go_wp2
    go_ret
    exact ⟨rfl, hbw⟩
  by_cases hc1 : ((n + 10 : Nat) : Int) ≤ at_
  · go_wp2
    go_ret
    exact ⟨rfl, hbw⟩
  obtain ⟨k, rfl⟩ := Int.eq_ofNat_of_zero_le (by omega : 0 ≤ at_)
  have hk : k < n + 10 := by omega
  obtain ⟨y, hy⟩ : ∃ y : UInt8, (y.toNat : Int) = by_ := ⟨UInt8.ofNat by_.toNat, by simp; omega⟩
  subst hy
  obtain ⟨_, _, e0, _, hcell⟩ := HB.out.cell (by omega)
  have hck := hcell k (by rw [HL10.out]; exact hk)
  simp only [Option.some.injEq, Addr.mk.injEq, and_true] at e0
  obtain ⟨rfl, rfl⟩ := e0
  rw [Nat.zero_add] at hck
  have hfz : w2.frozen? ⟨g, k, none⟩ = false := World.ownsRow.frozenAt (n := n + 10) (by have := HO.out; unfold OwnB at this; rw [HL10.out] at this; exact this) k
  have hxk := Lib.hid (getD_at (Frm.sealB l) k (by rw [HL10.out]; exact hk))
  generalize hx : (Frm.sealB l)[k]'(by rw [HL10.out]; exact hk) = x at *
  have HX := Lib.hid hx; clear hx hcell
  have hxb := x.toNat_lt
  have hyb := y.toNat_lt
  have hxor : bits .xor .u8 (x.toNat : Int) (y.toNat : Int) = ((x ^^^ y).toNat : Int) := by rw [u8_xor_nat _ _ hxb hyb, UInt8.toNat_xor]
  have t1 : (k : Int) < ((n + 10 : Nat) : Int) := by omega
  go_wp2_with (at_builtin; refine wpList_app8 rfl (.tmp 57) (.tmp 58) rfl w1.heap.size _ ((Frm.sealB l).set k (x ^^^ y)) rfl ?c1 w.heap.size _ _ _ l' rfl ?c2 ?c3 ?c4 ?_)
  case c1 => exact (HO.out.stored k (x ^^^ y) HL10.out).1
  case c2 => exact (HH'.out.below hbw).setCell (by show w.heap.size ≤ g; omega) _
  case c3 => rw [List.length_set, HL10.out]; omega
  case c4 => simp; have := hb2.size; omega
  intro v3 w3 hown3 hg3 hat3
  have hbw3 : Below w.heap.size w w3 := Below.grown (hbw.setCell (p := ⟨g, k, none⟩) (by show w.heap.size ≤ g; omega) _) hg3 (by simp; have := hb2.size; omega) (by intro k hk; simp [Value.ownBlock] at hk; omega)
  obtain ⟨A3, c3, hv3⟩ := hown3.form
  rw [List.length_append, List.length_set, HL10.out, HH'.out.len] at hv3
  subst hv3
  have HB3 := Lib.hid hown3.byt
  clear hown3 hg3 hat3 hck hfz hxor
  go_wp2_with fail
  refine (open_any w3 _ _ _ _ HB3.out (by omega)).mono ?_
  rintro e w4 ⟨v4, rfl, hown4, hb4⟩
  have hne : x ^^^ y ≠ (Frm.sealB l).getD k 0 := by
    rw [hxk.out]
    intro e
    have e1 := congrArg (x ^^^ ·) e
    simp only [← UInt8.xor_assoc, UInt8.xor_self, UInt8.zero_xor] at e1
    exact hby (by rw [e1]; rfl)
  rw [Frm.openB_turned l l' (by rw [HH.out.len]; omega) k (by rw [HH.out.len]; exact hk) _ hne] at *
  obtain ⟨A4, c4, hv4⟩ := hown4.form
  subst hv4
  clear hown4
  go_wp2
  go_ret
  exact ⟨rfl, hbw3.trans (hb4.mono hbw3.size)⟩
end Go.Proofs.Ytdnbejhaocpacaa
