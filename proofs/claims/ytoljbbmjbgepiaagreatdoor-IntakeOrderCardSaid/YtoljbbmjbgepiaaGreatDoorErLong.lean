/-
  Layer 31: the law's long.
-/
import Derived.Test.YtoljbbmjbgepiaaGreatDoorSame31
namespace Go.Proofs.YtoljbbmjbgepiaaGreatDoor
open Go.RowKit Go.Maps Go.Sort

def Ev.bulk (e : Ev) : Nat := e.src.length + e.per.length + e.item.length + e.text.length
/-- no text is longer than memory -/
def Ev.fit (e : Ev) : Prop := e.src.length ≤ 140737488355328 ∧ e.per.length ≤ 140737488355328 ∧ e.item.length ≤ 140737488355328 ∧ e.text.length ≤ 140737488355328
def longB (es : List Ev) : Bool := es.any (fun e => decide (400 < e.bulk)) || decide (40 < es.length)

set_option maxRecDepth 100000 in
set_option maxHeartbeats 2000000 in
theorem long_any (w : World) (A : Option Addr) (n c : Nat) (es : List Ev) (h : Evs w w.heap.size A n c es) (hn : n ≤ 140737488355328) (hfit : ∀ e ∈ es, e.fit) :
    Calls Tryz.prog 18 #[.slice A n c] w (Says (longB es) w) := by
  have HH := Lib.hid h; clear h
  have HF := Lib.hid hfit; clear hfit
  have hl := HH.out.len
  have HL := Lib.hid hl; clear hl
  go_enter Tryz.func18, Tryz.ntmps18
  go_wp2
  go_loopw [7] (fun i wr => ∃ k : Nat, i = .int .i64 k ∧ k ≤ n ∧ Below w.heap.size w wr ∧ Hid (∀ j (hj : j < es.length), j < k → es[j].bulk ≤ 400)) (fun i _ => n - (intOf i).toNat)
  case atStart => exact ⟨0, rfl, Nat.zero_le _, Below.refl _ _, fun j _ h => by omega⟩
  case round =>
    obtain ⟨k, rfl, hk, hbel, HK⟩ := hrel
    by_cases hkn : k < n
    · have hkl : k < es.length := by rw [HL.out]; exact hkn
      obtain ⟨b, off, rfl, hb, hev⟩ := HH.out.ev k hkl
      obtain ⟨e0, e1, e2, e3, e4, e5, e6, e7⟩ := hev.below hbel hb
      obtain ⟨s1, s2, s3, s4⟩ := HF.out es[k] (List.getElem_mem hkl)
      have HBU := Lib.hid (show es[k].bulk = es[k].src.length + es[k].per.length + es[k].item.length + es[k].text.length from rfl)
      have HMEM := Lib.hid (List.getElem_mem hkl)
      have HKK := Lib.hid (show es[k].bulk ≤ 400 → ∀ j (hj : j < es.length), j < k + 1 → es[j].bulk ≤ 400 from fun h j hj hlt => by
        by_cases e : j = k
        · subst e; exact h
        · exact HK.out j hj (by omega))
      clear hev
      generalize es[k] = x at *
      have t1 : (k : Int) < n := by omega
      have hb1 : Below w.heap.size w (wr.alloc (evObj x)) := hbel.alloc hbel.size _
      by_cases hbig : 400 < x.src.length + x.per.length + x.item.length + x.text.length
      · have hlb : longB es = true := by
          unfold longB
          have : es.any (fun e => decide (400 < e.bulk)) = true := List.any_eq_true.2 ⟨x, HMEM.out, decide_eq_true (by rw [HBU.out]; exact hbig)⟩
          rw [this]; rfl
        have HLB := Lib.hid hlb; clear hlb
        go_wp2
        go_ret
        exact ⟨ret_bool HLB.out.symm, hb1⟩
      · have HK2 := Lib.hid (HKK.out (by rw [HBU.out]; omega))
        go_wp2
        go_roundw
        case rel => exact ⟨k + 1, by go_num, by omega, hb1, HK2.out⟩
        case measure => simp [intOf]; omega
    · have hany : es.any (fun e => decide (400 < e.bulk)) = false := by
        rw [List.any_eq_false]
        intro e he
        obtain ⟨j, hj, rfl⟩ := List.getElem_of_mem he
        have := HK.out j hj (by rw [HL.out] at hj; omega)
        simpa using this
      have HA := Lib.hid hany; clear hany
      go_wp2
      go_ret
      refine ⟨ret_bool ?_, hbel⟩
      unfold longB
      rw [HA.out, Bool.false_or, HL.out]
      first | rfl | (rw [Bool.eq_iff_iff]; simp; omega)
end Go.Proofs.YtoljbbmjbgepiaaGreatDoor
