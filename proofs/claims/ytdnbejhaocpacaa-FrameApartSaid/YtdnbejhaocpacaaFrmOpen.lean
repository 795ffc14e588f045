/-
  Layer 3: what frame.Open gives.
-/
import Derived.Test.YtdnbejhaocpacaaFrmWalk
import Derived.Test.YtdnbejhaocpacaaBytes
namespace Go.Proofs.Ytdnbejhaocpacaa
open Go.RowKit

def OpenPost (w : World) (l : List UInt8) (e : Ending) (w' : World) : Prop :=
  ∃ v, e = .returned (.tuple #[v, .int .i64 (Frm.openB l).2.1, .int .i64 (Frm.openB l).2.2]) ∧ OwnB w' w.heap.size v (Frm.openB l).1 ∧ Below w.heap.size w w'

theorem idx0 (x0 x1 x2 : Value) (w : World) : (Instr.index 54 (.agg #[x0, x1, x2]) (.int .i64 0)).run Try.prog w = .ok x0 w := by kernel_rfl
theorem idx1 (x0 x1 x2 : Value) (w : World) : (Instr.index 54 (.agg #[x0, x1, x2]) (.int .i64 1)).run Try.prog w = .ok x1 w := by kernel_rfl
theorem idx2 (x0 x1 x2 : Value) (w : World) : (Instr.index 54 (.agg #[x0, x1, x2]) (.int .i64 2)).run Try.prog w = .ok x2 w := by kernel_rfl

theorem openPost_bad (w w' : World) (l : List UInt8) (h : Frm.bad l = true) (hb : Below w.heap.size w w') :
    OpenPost w l (.returned (.tuple #[.slice none 0 0, .int .i64 0, .int .i64 2])) w' := by
  have e : Frm.openB l = ([], 0, 2) := by simp [Frm.openB, h]
  refine ⟨.slice none 0 0, by rw [e]; rfl, ?_, hb⟩
  rw [e]
  exact World.ownsRow_nil _ _ _ _

set_option maxHeartbeats 1000000 in
theorem open_any (w : World) (A : Option Addr) (n c : Nat) (l : List UInt8) (h : Byt w w.heap.size A n c l) (hn : n ≤ 1000000) :
    Calls Try.prog 13 #[.slice A n c] w (OpenPost w l) := by
  have HH := Lib.hid h; clear h
  have ix0 := idx0
  have ix1 := idx1
  have ix2 := idx2
  go_enter Try.func13, Try.ntmps13
  go_wp2_with fail
  have hB1 := Lib.hid ((HH.out.alloc (Nat.le_refl _) (Obj.cells #[Value.slice A n c] 22)).alloc (by simp) (Obj.cells #[Value.func (Fn.func 24) #[] #[Value.pointer (some { block := w.heap.size, off := 0 })]] 23))
  have hbl : Below w.heap.size w ((w.alloc (Obj.cells #[Value.slice A n c] 22)).alloc (Obj.cells #[Value.func (Fn.func 24) #[] #[Value.pointer (some { block := w.heap.size, off := 0 })]] 23)) := ((Below.refl _ _).alloc (Nat.le_refl _) _).alloc (by simp) _
  have hc0 : ((w.alloc (Obj.cells #[Value.slice A n c] 22)).alloc (Obj.cells #[Value.func (Fn.func 24) #[] #[Value.pointer (some { block := w.heap.size, off := 0 })]] 23)).cell? ⟨w.heap.size, 0, none⟩ = some (.slice A n c) := by go_simp
  have hc1 : ((w.alloc (Obj.cells #[Value.slice A n c] 22)).alloc (Obj.cells #[Value.func (Fn.func 24) #[] #[Value.pointer (some { block := w.heap.size, off := 0 })]] 23)).cell? ⟨w.heap.size + 1, 0, none⟩ = some (Value.func (Fn.func 24) #[] #[Value.pointer (some { block := w.heap.size, off := 0 })]) := by go_simp
  have hsz : ((w.alloc (Obj.cells #[Value.slice A n c] 22)).alloc (Obj.cells #[Value.func (Fn.func 24) #[] #[Value.pointer (some { block := w.heap.size, off := 0 })]] 23)).heap.size = w.heap.size + 2 := by simp
  generalize ((w.alloc (Obj.cells #[Value.slice A n c] 22)).alloc (Obj.cells #[Value.func (Fn.func 24) #[] #[Value.pointer (some { block := w.heap.size, off := 0 })]] 23)) = w1 at *
  have hsz' : w.heap.size + 2 ≤ w1.heap.size := by omega
  clear hsz
  have HC0 := Lib.hid hc0
  have HC1 := Lib.hid hc1
  refine wp_loop_rounds 4 ?_; rw [rounds_succ]
  go_wp2_with fail
  refine (open1_any w1 _ _ A n c l HC0.out hB1.out).mono ?_
  rintro e w2 ⟨rfl, k1, rfl⟩
  cases hu : Frm.unlike l
  case true =>
    have HU := Lib.hid hu; clear hu
    go_wp2
    go_ret3
    exact openPost_bad w _ l (by simp [Frm.bad, HU.out]) (below_drewN hbl _)
  case false =>
    have HU := Lib.hid hu; clear hu
    go_wp2_with fail
    rw [rounds_succ]
    go_wp2_with fail
    refine (open2_any (w1.drewN k1) _ _ A n c l HC0.out (hB1.out.drewN _)).mono ?_
    rintro e w2 ⟨rfl, k2, rfl⟩
    cases hl : Frm.long l
    case true =>
      have HL := Lib.hid hl; clear hl
      go_wp2
      go_ret3
      exact openPost_bad w _ l (by simp [Frm.bad, HL.out]) (below_drewN hbl _)
    case false =>
      have HL := Lib.hid hl; clear hl
      go_wp2_with fail
      rw [rounds_succ]
      go_wp2_with fail
      refine (open4_any (w1.drewN (k1 + k2)) _ _ _ A n c l HC1.out HC0.out (hB1.out.drewN _) (by simp; omega) hn).mono ?_
      rintro e w3 ⟨rfl, hb3⟩
      have hb3' : Below w1.heap.size w1 w3 := (below_drewN (Below.refl _ _) _).trans hb3
      have hbw3 : Below w.heap.size w w3 := hbl.trans (hb3'.mono hbl.size)
      have g0 : w3.cell? ⟨w.heap.size, 0, none⟩ = some (.slice A n c) := (hb3'.cell (p := ⟨w.heap.size, 0, none⟩) (show w.heap.size < w1.heap.size by omega)).trans HC0.out
      have g1 : w3.cell? ⟨w.heap.size + 1, 0, none⟩ = some (Value.func (Fn.func 24) #[] #[Value.pointer (some { block := w.heap.size, off := 0 })]) := (hb3'.cell (p := ⟨w.heap.size + 1, 0, none⟩) (show w.heap.size + 1 < w1.heap.size by omega)).trans HC1.out
      have hB3 := Lib.hid (hB1.out.below (hb3'.mono hbl.size))
      have hs3 : w.heap.size + 2 ≤ w3.heap.size := by have := hb3'.size; omega
      clear hc0 hc1 hb3 hb3' hB1 HC0 HC1 hbl hsz'
      cases hw : Frm.wrong l
      case true =>
        have HW := Lib.hid hw; clear hw
        go_wp2
        go_ret3
        exact openPost_bad w _ l (by simp [Frm.bad, HW.out]) hbw3
      case false =>
        have HW := Lib.hid hw; clear hw
        go_wp2_with fail
        rw [rounds_succ]
        go_wp2_with fail
        refine (open3_any w3 _ _ A n c l g0 hB3.out).mono ?_
        rintro e w4 ⟨rfl, k4, rfl⟩
        cases ht : Frm.there l
        case false =>
          have HT := Lib.hid ht; clear ht
          go_wp2
          go_ret3
          have e : Frm.openB l = ([], 0, 1) := by simp [Frm.openB, Frm.bad, HU.out, HL.out, HW.out, HT.out]
          exact ⟨.slice none 0 0, by rw [e]; rfl, by rw [e]; exact OwnB.nil _ _, below_drewN hbw3 _⟩
        case true =>
          have hsz : 6 ≤ l.length ∧ Frm.sz l + 10 ≤ l.length := by simpa [Frm.there] using ht
          have HT := Lib.hid ht; clear ht
          rw [HH.out.len] at hsz
          obtain ⟨hs6, hs10⟩ := hsz
          have hmax := HH.out.max
          have hcap := HH.out.cap
          unfold maxLen at hmax
          obtain ⟨b, off, rfl, hb, _⟩ := HH.out.cell (by omega)
          go_wp2_with fail
          refine (size_any _ _ _ _ _ _ (hB3.out.drewN _) (by omega)).mono ?_
          rintro e w5 ⟨rfl, k5, rfl⟩
          have e : Hid (Frm.openB l = ((l.drop 6).take (Frm.sz l), 6 + Frm.sz l + 4, 0)) := by simp [Hid, Frm.openB, Frm.bad, HU.out, HL.out, HW.out, HT.out]
          generalize hz : Frm.sz l = z at *
          have HZ := Lib.hid hz; clear hz
          have hc2 := Lib.hid (hB3.out.cut 6 z (by omega))
          clear ix0 ix1 ix2
          have g0' : ∀ (k : Nat) (o : Obj), ((w3.drewN k).alloc o).cell? ⟨w.heap.size, 0, none⟩ = some (Value.slice (some { block := b, off := off }) n c) := fun k o =>
            (World.cell?_alloc_lt (w3.drewN k) o _ (show w.heap.size < w3.heap.size by omega)).trans g0
          have hlz : z ≤ 1000000 := by omega
          go_wp2_with (at_builtin; refine wpList_app8 rfl (.tmp 32) (.tmp 35) rfl w.heap.size _ [] rfl ?c1 w.heap.size _ _ _ ((l.drop 6).take z) rfl ?c2 ?c3 ?c4 ?_)
          case c1 => exact World.ownsRow_lit (w3.drewN _) #[] 0 (by simp; omega) (by simp [maxLen]) rfl
          case c2 => rw [Nat.add_sub_cancel_left]; exact (hc2.out.drewN _).alloc (by simp; omega) _
          case c3 => simp; omega
          case c4 => simp; omega
          intro v' w6 hown hgr hat
          have hbw6 : Below w.heap.size w w6 := Below.grown ((below_drewN hbw3 (k4 + k5)).alloc (by simp; omega) (Obj.cells #[] 5)) hgr (by simp; omega) (by intro k hk; simp [Value.ownBlock] at hk; omega)
          clear g0' hgr hat
          go_wp2
          go_ret3
          exact ⟨v', by rw [e.out]; rfl, by rw [e.out]; exact hown, hbw6⟩
end Go.Proofs.Ytdnbejhaocpacaa
