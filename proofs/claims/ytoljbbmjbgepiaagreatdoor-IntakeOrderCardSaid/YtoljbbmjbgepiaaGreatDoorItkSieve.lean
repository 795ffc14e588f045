/-
  Layer 8: Drop's sieve.
-/
import Derived.Test.YtoljbbmjbgepiaaGreatDoorErWalk
namespace Go.Proofs.YtoljbbmjbgepiaaGreatDoor
open Go.RowKit

set_option maxHeartbeats 1000000 in
set_option maxRecDepth 100000 in
theorem dsieve_any (w : World) (A : Option Addr) (n c : Nat) (es : List Ev) (h : Evs w w.heap.size A n c es) (bk F : Nat) (caps : Array Value) (hbk : w.cell? ⟨bk, 0, none⟩ = some (.func (.func F) #[] caps)) (p : Ev → Bool) (hn : n ≤ 200000)
    (hcall : ∀ (args : Array Value) (w : World), (callFunc F args).run Tryz.prog w = .ok (.enter F args) w)
    (hf : ∀ (w1 : World) (e : Ev), e ∈ es → Below w.heap.size w w1 → Calls Tryz.prog F (#[e.agg] ++ caps) w1 (Says (p e) w1)) :
    Calls Tryz.prog 76 #[.slice A n c, .pointer (some ⟨bk, 0, none⟩)] w (SievePost w es p) := by
  have HH := Lib.hid h; clear h
  have HF := Lib.hid hf; clear hf
  have hbkl : bk < w.heap.size := World.block_lt_of_cell? w ⟨bk, 0, none⟩ hbk
  have HBK := Lib.hid hbk; clear hbk
  go_enter Tryz.func76, Tryz.ntmps76
  go_wp2
  go_loopw [4, 9] (fun v i wr => SieveRel w n es p v i wr) (fun _ i _ => n - (intOf i).toNat)
  case atStart => exact ⟨0, rfl, Nat.zero_le _, World.ownsRow_nil _ _ _ _, Below.refl _ _⟩
  case round =>
    obtain ⟨k, rfl, hk, hown, hbel⟩ := hrel
    have HO := Lib.hid hown; clear hown
    by_cases hkn : k < n
    · have hkl : k < es.length := by rw [HH.out.len]; exact hkn
      obtain ⟨b, off, rfl, hb, hev⟩ := HH.out.ev k hkl
      obtain ⟨e0, e1, e2, e3, e4, e5, e6, e7⟩ := hev.below hbel hb
      have HTK := Lib.hid (show (es.take (k + 1)).filter p = (es.take k).filter p ++ (if p es[k] then [es[k]] else []) by
        rw [List.take_add_one, List.getElem?_eq_getElem hkl, Option.toList_some, List.filter_append]
        simp [List.filter_cons])
      have HM := Lib.hid (List.getElem_mem hkl)
      generalize es[k] = x at *
      have t1 : (k : Int) < n := by omega
      have hbk' : wr.cell? ⟨bk, 0, none⟩ = some (.func (.func F) #[] caps) := (hbel.cell (p := ⟨bk, 0, none⟩) hbkl).trans HBK.out
      have hbkr : bk < wr.heap.size := Nat.lt_of_lt_of_le hbkl hbel.size
      go_wp2_with fail
      have hb1 : Below w.heap.size w (wr.alloc (evObj x)) := hbel.alloc hbel.size _
      refine (HF.out _ x HM.out hb1).mono ?_
      rintro e w1 ⟨rfl, hbw1⟩
      have hbw : Below w.heap.size w w1 := hb1.trans (hbw1.mono hb1.size)
      have hs1 : wr.heap.size + 1 ≤ w1.heap.size := by have := hbw1.size; simp at this; omega
      have hs0 := hbel.size
      have HOW := Lib.hid (ownsRow_below (World.ownsRow.alloc HO.out (evObj x)) hbw1 (Nat.le_refl _))
      have hin := (EvIn.new wr x).below hbw1 (by simp)
      obtain ⟨f0, f1, f2, f3, f4, f5, f6, f7⟩ := hin
      clear e0 e1 e2 e3 e4 e5 e6 e7 hb1 hbw1 hev hcall hbk' hbkr
      have hlen : ((es.take k).filter p).length ≤ k := by
        have := List.length_filter_le p (es.take k); rw [List.length_take] at this; omega
      cases hp : p x
      · have HT : Hid ((es.take (k + 1)).filter p = (es.take k).filter p) := by have := HTK.out; rw [hp] at this; unfold Hid; simpa using this
        clear hp HTK
        go_wp2
        go_roundw
        case rel => exact ⟨k + 1, by go_num, by omega, by rw [HT.out]; exact HOW.out, hbw⟩
        case measure => simp [intOf]; omega
      · have HT : Hid ((es.take (k + 1)).filter p = (es.take k).filter p ++ [x]) := by have := HTK.out; rw [hp] at this; unfold Hid; simpa using this
        clear hp HTK
        obtain ⟨i0, hi, hz0, hz1, hz2⟩ := info_parts ev_info
        have HI := Lib.hid hi; have HZ0 := Lib.hid hz0; have HZ1 := Lib.hid hz1; have HZ2 := Lib.hid hz2
        clear hi hz0 hz1 hz2
        go_wp2_with (at_builtin; refine wpList_app (P := Tryz.prog) rfl (.tmp 16) (.tmp 18) 22 rfl 28 i0 _ 8 96 Tryz.underlying22 HI.out HZ0.out HZ1.out HZ2.out rfl (by decide) w.heap.size _ ((es.take k).filter p).length (evCells ((es.take k).filter p)) rfl ?c1 (w1.heap.size + 1) _ _ _ x.cells rfl ?c2 (cells_one x) ?c4 ?c5 ?c6 ?_)
        case c1 => exact World.ownsRow.alloc HOW.out _
        case c2 => exact Cel.new w1 _ _ (by unfold maxLen; omega) rfl
        case c4 => unfold maxLen; omega
        case c5 => omega
        case c6 => first | omega | (simp; omega)
        intro v' w2 hown2 hg2 _
        have hb2 : Below w.heap.size w w2 := Below.grown (hbw.alloc (by omega) _) hg2 (by simp; omega) (fun k' hk' => (HOW.out.lt k' hk').1)
        have HO2 := Lib.hid hown2
        have HB2 := Lib.hid hb2
        clear hown2 hg2 hb2 f0 f1 f2 f3 f4 f5 f6 f7
        go_wp2
        go_roundw
        case rel =>
          refine ⟨k + 1, by go_num, by omega, ?_, HB2.out⟩
          rw [HT.out]
          unfold OwnE
          rw [evCells_one, List.length_append]
          exact HO2.out
        case measure => simp [intOf]; omega
    · have hkk : es.take k = es := List.take_of_length_le (by rw [HH.out.len]; omega)
      have HKK := Lib.hid hkk; clear hkk
      go_wp2
      go_ret
      exact ⟨u4, rfl, by have := HO.out; rw [HKK.out] at this; exact this, hbel⟩
end Go.Proofs.YtoljbbmjbgepiaaGreatDoor
