/-
  Layer 31: erase.sieve.
-/
import Derived.Test.YtejjfhhppjdcaaaGreatDoorBEv
namespace Go.Proofs.YtejjfhhppjdcaaaGreatDoor
open Go.RowKit

/-- it gives b, and changes nothing that was there -/
def Says (b : Bool) (w : World) (e : Ending) (w' : World) : Prop := e = .returned (.bool b) ∧ Below w.heap.size w w'

/-- v is a slice of the call's own that holds just these events -/
def OwnE (w : World) (base : Nat) (v : Value) (es : List Ev) : Prop := w.ownsRow base 36 8 v es.length (evCells es)

def SievePost (w : World) (es : List Ev) (p : Ev → Bool) (e : Ending) (w' : World) : Prop :=
  ∃ v, e = .returned v ∧ OwnE w' w.heap.size v (es.filter p) ∧ Below w.heap.size w w'

def SieveRel (w : World) (n : Nat) (es : List Ev) (p : Ev → Bool) (v i : Value) (wr : World) : Prop :=
  ∃ k : Nat, i = .int .i64 k ∧ k ≤ n ∧ OwnE wr w.heap.size v ((es.take k).filter p) ∧ Below w.heap.size w wr

set_option maxHeartbeats 1000000 in
set_option maxRecDepth 100000 in
theorem sieve_any (w : World) (A : Option Addr) (n c : Nat) (es : List Ev) (h : Evs w w.heap.size A n c es) (F : Nat) (caps : Array Value) (p : Ev → Bool) (hn : n ≤ 1000)
    (hcall : ∀ (args : Array Value) (w : World), (callFunc F args).run Tryz.prog w = .ok (.enter F args) w)
    (hf : ∀ (w1 : World) (e : Ev), e ∈ es → Below w.heap.size w w1 → Calls Tryz.prog F (#[e.agg] ++ caps) w1 (Says (p e) w1)) :
    Calls Tryz.prog 116 #[.slice A n c, .func (.func F) #[] caps] w (SievePost w es p) := by
  have HH := Lib.hid h; clear h
  have HF := Lib.hid hf; clear hf
  go_enter Tryz.func116, Tryz.ntmps116
  go_wp2
  go_loopw [5, 10] (fun v i wr => SieveRel w n es p v i wr) (fun _ i _ => n - (intOf i).toNat)
  case atStart => exact ⟨0, rfl, Nat.zero_le _, World.ownsRow_nil _ _ _ _, Below.refl _ _⟩
  case round =>
    obtain ⟨k, rfl, hk, hown, hbel⟩ := hrel
    have HO := Lib.hid hown; clear hown
    by_cases hkn : k < n
    · have hkl : k < es.length := by rw [HH.out.len]; exact hkn
      obtain ⟨b, off, rfl, hb, hev⟩ := HH.out.ev k hkl
      obtain ⟨e0, e1, e2, e3, e4, e5, e6, e7⟩ := hev.below hbel hb
      have HTK := Lib.hid (show (es.take (k + 1)).filter p = (es.take k).filter p ++ (if p es[k] then [es[k]] else []) by
        rw [List.take_add_one, List.getElem?_eq_getElem hkl, Option.toList_some, List.filter_append]
        simp [List.filter_cons])
      have HM := Lib.hid (List.getElem_mem hkl)
      generalize es[k] = x at *
      have t1 : (k : Int) < n := by omega
      go_wp2_with fail
      have hb1 : Below w.heap.size w (wr.alloc (evObj x)) := hbel.alloc hbel.size _
      refine (HF.out _ x HM.out hb1).mono ?_
      rintro e w1 ⟨rfl, hbw1⟩
      have hbw : Below w.heap.size w w1 := hb1.trans (hbw1.mono hb1.size)
      have hs1 : wr.heap.size + 1 ≤ w1.heap.size := by have := hbw1.size; simp at this; omega
      have hs0 := hbel.size
      have HOW := Lib.hid (ownsRow_below (World.ownsRow.alloc HO.out (evObj x)) hbw1 (Nat.le_refl _))
      have hin := (EvIn.new wr x).below hbw1 (by simp)
      obtain ⟨f0, f1, f2, f3, f4, f5, f6, f7⟩ := hin
      clear e0 e1 e2 e3 e4 e5 e6 e7 hb1 hbw1 hev hcall
      have hlen : ((es.take k).filter p).length ≤ k := by
        have := List.length_filter_le p (es.take k); rw [List.length_take] at this; omega
      cases hp : p x
      · have HT : Hid ((es.take (k + 1)).filter p = (es.take k).filter p) := by have := HTK.out; rw [hp] at this; unfold Hid; simpa using this
        clear hp HTK
        go_wp2
        go_roundw
        case rel => exact ⟨k + 1, by go_num, by omega, by rw [HT.out]; exact HOW.out, hbw⟩
        case measure => simp [intOf]; omega
      · have HT : Hid ((es.take (k + 1)).filter p = (es.take k).filter p ++ [x]) := by have := HTK.out; rw [hp] at this; unfold Hid; simpa using this
        clear hp HTK
        obtain ⟨i0, hi, hz0, hz1, hz2⟩ := info_parts ev_info
        have HI := Lib.hid hi; have HZ0 := Lib.hid hz0; have HZ1 := Lib.hid hz1; have HZ2 := Lib.hid hz2
        clear hi hz0 hz1 hz2
        go_wp2_with (at_builtin; refine wpList_app (P := Tryz.prog) rfl (.tmp 17) (.tmp 19) 22 rfl 36 i0 _ 8 96 Tryz.underlying22 HI.out HZ0.out HZ1.out HZ2.out rfl (by decide) w.heap.size _ ((es.take k).filter p).length (evCells ((es.take k).filter p)) rfl ?c1 (w1.heap.size + 1) _ _ _ x.cells rfl ?c2 (cells_one x) ?c4 ?c5 ?c6 ?_)
        case c1 => exact World.ownsRow.alloc HOW.out _
        case c2 => exact Cel.new w1 _ _ (by unfold maxLen; omega) rfl
        case c4 => unfold maxLen; omega
        case c5 => omega
        case c6 => first | omega | (simp; omega)
        intro v' w2 hown2 hg2 _
        have hb2 : Below w.heap.size w w2 := Below.grown (hbw.alloc (by omega) _) hg2 (by simp; omega) (fun k' hk' => (HOW.out.lt k' hk').1)
        have HO2 := Lib.hid hown2
        have HB2 := Lib.hid hb2
        clear hown2 hg2 hb2 f0 f1 f2 f3 f4 f5 f6 f7
        go_wp2
        go_roundw
        case rel =>
          refine ⟨k + 1, by go_num, by omega, ?_, HB2.out⟩
          rw [HT.out]
          unfold OwnE
          rw [evCells_one, List.length_append]
          exact HO2.out
        case measure => simp [intOf]; omega
    · have hkk : es.take k = es := List.take_of_length_le (by rw [HH.out.len]; omega)
      have HKK := Lib.hid hkk; clear hkk
      go_wp2
      go_ret
      exact ⟨u5, rfl, by have := HO.out; rw [HKK.out] at this; exact this, hbel⟩
end Go.Proofs.YtejjfhhppjdcaaaGreatDoor
