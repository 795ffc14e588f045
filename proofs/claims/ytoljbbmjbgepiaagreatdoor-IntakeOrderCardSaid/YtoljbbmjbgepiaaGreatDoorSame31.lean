/-
  Layer 31: the document's Same of events.
-/
import Derived.Test.YtoljbbmjbgepiaaGreatDoorErGone
import Derived.Test.YtoljbbmjbgepiaaGreatDoorStrs
namespace Go.Proofs.YtoljbbmjbgepiaaGreatDoor
open Go.RowKit Go.Maps Go.Sort

set_option maxRecDepth 100000 in
set_option maxHeartbeats 2000000 in
theorem same31_any (w : World) (B B' : Nat) (A A' : Option Addr) (n c c' : Nat) (es : List Ev) (h : Evs w B A n c es) (h' : Evs w B' A' n c' es) (hn : n ≤ 100000) :
    Calls Tryz.prog 23 #[.slice A n c, .slice A' n c'] w fun e w' => e = .returned (.bool true) ∧ ∃ k, w' = w.drewN k := by
  have HH := Lib.hid h; clear h
  have HH' := Lib.hid h'; clear h'
  have hnn : ((n : Int) != (n : Int)) = false := by simp
  go_enter Tryz.func23, Tryz.ntmps23
  go_wp2
  clear hnn
  go_loopw [5] (fun i wr => ∃ k q : Nat, i = .int .i64 k ∧ k ≤ n ∧ wr = w.drewN q) (fun i _ => n - (intOf i).toNat)
  case atStart => exact ⟨0, 0, rfl, Nat.zero_le _, rfl⟩
  case round =>
    obtain ⟨k, q, rfl, hk, rfl⟩ := hrel
    by_cases hkn : k < n
    · have hkl : k < es.length := by rw [HH.out.len]; exact hkn
      obtain ⟨b, off, rfl, hb, hc⟩ := HH.out.ev k hkl
      obtain ⟨b', off', rfl, hb', hc'⟩ := HH'.out.ev k hkl
      obtain ⟨e0, e1, e2, e3, e4, e5, e6, e7⟩ := hc
      obtain ⟨f0, f1, f2, f3, f4, f5, f6, f7⟩ := hc'
      have t1 : (k : Int) < n := by omega
      generalize es[k] = x at *
      go_wp2
      go_quiet (fail)
      go_wp2
      go_roundw
      case rel => exact ⟨k + 1, q + nq, by go_num, by omega, by first | rfl | exact World.drewN_drewN ..⟩
      case measure => simp [intOf]; omega
    · go_wp2
      go_ret
      exact ⟨rfl, _, rfl⟩

def EvsV (w : World) (v : Value) (es : List Ev) : Prop := ∃ A c, v = .slice A es.length c ∧ Evs w w.heap.size A es.length c es
theorem EvsV.below {w w' : World} {v : Value} {es : List Ev} (h : EvsV w v es) (hb : Below w.heap.size w w') : EvsV w' v es := by
  obtain ⟨A, c, e, h1⟩ := h
  exact ⟨A, c, e, Cel.more (Cel.below h1 hb) hb.size⟩
theorem EvsV.of_own {w : World} {base : Nat} {v : Value} {es : List Ev} (h : OwnE w base v es) : EvsV w v es := by
  obtain ⟨A, c, e⟩ := ownsRow_form h
  subst e
  exact ⟨A, c, rfl, Cel.of_own h⟩


theorem rising_length {r ks : List (List UInt8)} (h : Rising r ks) : r.length ≤ ks.length := by
  have hnd : r.Nodup := List.pairwise_iff_getElem.2 fun i j hi hj hij e => by
    have := List.pairwise_iff_getElem.1 h.1 i j hi hj hij
    rw [e] at this
    exact lt_irr _ this
  have key : ∀ (r ks : List (List UInt8)), r.Nodup → (∀ x, x ∈ r → x ∈ ks) → r.length ≤ ks.length := by
    intro r
    induction r with
    | nil => intro ks _ _; simp
    | cons a l ih =>
      intro ks hnd hsub
      have hnd' := List.nodup_cons.1 hnd
      have ha : a ∈ ks := hsub a List.mem_cons_self
      have := ih (ks.erase a) hnd'.2 (fun x hx => by
        have hxa : x ≠ a := fun e => hnd'.1 (by rw [← e]; exact hx)
        exact (List.mem_erase_of_ne hxa).2 (hsub x (List.mem_cons_of_mem _ hx)))
      rw [List.length_erase_of_mem ha] at this
      have := List.length_pos_of_mem ha
      simp only [List.length_cons]
      omega
  exact key r ks hnd fun x hx => (h.2 x).1 hx

end Go.Proofs.YtoljbbmjbgepiaaGreatDoor
