/-
  Layer 2: the document's Same, Texts, Big, Some.
-/
import Derived.Test.YtoljbbmjbgepiaaGreatDoorErWalk
import Derived.Test.YtoljbbmjbgepiaaGreatDoorStrs
namespace Go.Proofs.YtoljbbmjbgepiaaGreatDoor
open Go.RowKit Go.Maps Go.Sort

set_option maxRecDepth 100000 in
set_option maxHeartbeats 2000000 in
theorem same02_any (w : World) (B B' : Nat) (A A' : Option Addr) (n c c' : Nat) (es : List Ev) (h : Evs w B A n c es) (h' : Evs w B' A' n c' es) (hn : n ≤ 100000) :
    Calls Tryz.prog 14 #[.slice A n c, .slice A' n c'] w fun e w' => e = .returned (.bool true) ∧ ∃ k, w' = w.drewN k := by
  have HH := Lib.hid h; clear h
  have HH' := Lib.hid h'; clear h'
  have hnn : ((n : Int) != (n : Int)) = false := by simp
  go_enter Tryz.func14, Tryz.ntmps14
  go_wp2
  clear hnn
  go_loopw [5] (fun i wr => ∃ k q : Nat, i = .int .i64 k ∧ k ≤ n ∧ wr = w.drewN q) (fun i _ => n - (intOf i).toNat)
  case atStart => exact ⟨0, 0, rfl, Nat.zero_le _, rfl⟩
  case round =>
    obtain ⟨k, q, rfl, hk, rfl⟩ := hrel
    by_cases hkn : k < n
    · have hkl : k < es.length := by rw [HH.out.len]; exact hkn
      obtain ⟨b, off, rfl, hb, hc⟩ := HH.out.ev k hkl
      obtain ⟨b', off', rfl, hb', hc'⟩ := HH'.out.ev k hkl
      obtain ⟨e0, e1, e2, e3, e4, e5, e6, e7⟩ := hc
      obtain ⟨f0, f1, f2, f3, f4, f5, f6, f7⟩ := hc'
      have t1 : (k : Int) < n := by omega
      generalize es[k] = x at *
      go_wp2
      go_quiet (fail)
      go_wp2
      go_roundw
      case rel => exact ⟨k + 1, q + nq, by go_num, by omega, by first | rfl | exact World.drewN_drewN ..⟩
      case measure => simp [intOf]; omega
    · go_wp2
      go_ret
      exact ⟨rfl, _, rfl⟩

def bigB (e : Ev) (m : Int) : Bool := decide (m < e.src.length) || decide (m < e.per.length) || decide (m < e.item.length) || decide (m < e.text.length)
theorem big_any (w : World) (e : Ev) (m : Int) : Calls Tryz.prog 33 #[e.agg, .int .i64 m] w (Says (bigB e m) w) := by
  have HB := Lib.hid (show bigB e m = (decide (m < e.src.length) || decide (m < e.per.length) || decide (m < e.item.length) || decide (m < e.text.length)) from rfl)
  have hb : Below w.heap.size w (w.alloc (evObj e)) := (Below.refl _ _).alloc (Nat.le_refl _) _
  unfold Ev.agg
  cases h1 : decide (m < (e.src.length : Int))
  · cases h2 : decide (m < (e.per.length : Int))
    · cases h3 : decide (m < (e.item.length : Int))
      · have HX := Lib.hid (show bigB e m = decide (m < e.text.length) by rw [HB.out, h1, h2, h3]; rfl)
        go_enter Tryz.func33, Tryz.ntmps33
        go_wp2
        go_ret
        exact ⟨ret_bool HX.out.symm, hb⟩
      · have HX := Lib.hid (show bigB e m = true by rw [HB.out, h1, h2, h3]; rfl)
        go_enter Tryz.func33, Tryz.ntmps33
        go_wp2
        go_ret
        exact ⟨ret_bool HX.out.symm, hb⟩
    · have HX := Lib.hid (show bigB e m = true by rw [HB.out, h1, h2]; rfl)
      go_enter Tryz.func33, Tryz.ntmps33
      go_wp2
      go_ret
      exact ⟨ret_bool HX.out.symm, hb⟩
  · have HX := Lib.hid (show bigB e m = true by rw [HB.out, h1]; rfl)
    go_enter Tryz.func33, Tryz.ntmps33
    go_wp2
    go_ret
    exact ⟨ret_bool HX.out.symm, hb⟩
end Go.Proofs.YtoljbbmjbgepiaaGreatDoor
