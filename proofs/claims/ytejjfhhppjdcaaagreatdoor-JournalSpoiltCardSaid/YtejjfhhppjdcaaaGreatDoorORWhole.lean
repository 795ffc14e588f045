/-
  Layer 5: the document's Whole.
-/
import Derived.Test.YtejjfhhppjdcaaaGreatDoorORJl6
import Derived.Test.YtejjfhhppjdcaaaGreatDoorOCrPlain
namespace Go.Proofs.YtejjfhhppjdcaaaGreatDoor
open Go.RowKit Go.Maps Go.Sort

def RWhRel (w : World) (l : List (Option Ev)) (b : Nat) (u i : Value) (wr : World) : Prop :=
  ∃ k r : Nat, i = .int .i64 k ∧ k ≤ l.length ∧ u = .int .i64 r ∧ r ≤ b ∧ wholeB l b = k + wholeB (l.drop k) r ∧ RowKit.Below w.heap.size w wr
def WholeP (w : World) (q : Nat) (e : Ending) (w' : World) : Prop := e = .returned (.int .i64 q) ∧ RowKit.Below w.heap.size w w'
set_option maxRecDepth 100000 in
set_option maxHeartbeats 2000000 in
theorem rwhole_any (w : World) (A : Option Addr) (n c : Nat) (l : List (Option Ev)) (h : Ents w w.heap.size A n c l) (hx : ∀ e, some e ∈ l → mayB e = true) (hn : n ≤ 1000) (b : Nat) (hb : b ≤ 1000000000) : Calls Tryz.prog 31 #[.slice A n c, .int .i64 b] w (WholeP w (wholeB l b)) := by
  have HH := Lib.hid h; have HX := Lib.hid hx
  have HL := Lib.hid h.len
  clear h hx
  go_enter Tryz.func31, Tryz.ntmps31
  go_wp2
  go_loopw [1, 5] (fun u i wr => RWhRel w l b u i wr) (fun _ i _ => n - (intOf i).toNat)
  case atStart => exact ⟨0, b, rfl, Nat.zero_le _, rfl, Nat.le_refl _, by simp, Below.refl _ _⟩
  case round =>
    obtain ⟨k, r, rfl, hk, rfl, hrb, hwb, hbel⟩ := hrel
    have HB := Lib.hid hbel; clear hbel
    have HW := Lib.hid hwb; clear hwb
    by_cases hkn : k < n
    · have hkl : k < l.length := by rw [HL.out]; exact hkn
      obtain ⟨b', off, rfl, hbb, hc⟩ := HH.out.at_ k hkl
      obtain ⟨e0, e1, e2, e3, e4, e5, e6, e7, e8⟩ := hc.below HB.out hbb
      have HD := Lib.hid (show l.drop k = l[k] :: l.drop (k + 1) from List.drop_eq_getElem_cons hkl)
      have HXK := Lib.hid (show ∀ e, l[k] = some e → mayB e = true from fun e he => HX.out e (he ▸ List.getElem_mem hkl))
      have hl2 := rsealE_len _ HXK.out
      generalize l[k] = x at *
      have t1 : (k : Int) < n := by omega
      go_wp2_with fail
      refine (rframe_any wr x HXK.out).mono ?_
      rintro r2 w2 ⟨rfl, hb2⟩
      have HB2 := Lib.hid (show RowKit.Below w.heap.size w w2 from HB.out.trans (hb2.mono HB.out.size))
      clear hb2 e0 e1 e2 e3 e4 e5 e6 e7 e8 hc
      have HWX := Lib.hid (show wholeB (x :: l.drop (k + 1)) r = if r < (sealE x).length then 0 else wholeB (l.drop (k + 1)) (r - (sealE x).length) + 1 from rfl)
      rw [← HD.out] at HWX
      generalize sealE x = q at *
      by_cases hlt : r < q.length
      · have t2 : (r : Int) - (q.length : Int) < 0 := by omega
        have HR := Lib.hid (show WholeP w (wholeB l b) (.returned (.int .i64 (k : Int))) w2 from ⟨by rw [HW.out, HWX.out, if_pos hlt]; rfl, HB2.out⟩)
        go_wp2
        go_ret
        exact HR.out
      · obtain ⟨r', hr'⟩ : ∃ r', r' = r - q.length := ⟨_, rfl⟩
        have t3 : (r : Int) - (q.length : Int) = (r' : Int) := by omega
        have t2 : ¬ (r' : Int) < 0 := by omega
        have HST := Lib.hid (show RWhRel w l b (.int .i64 (r' : Int)) (.int .i64 ((k : Int) + 1)) w2 from ⟨k + 1, r', rfl, by omega, rfl, by omega, by rw [HW.out, HWX.out, if_neg hlt, hr']; omega, HB2.out⟩)
        clear hr'
        go_wp2
        go_roundw
        case rel => exact HST.out
        case measure => simp [intOf]; omega
    · have t1 : ¬ (k : Int) < n := by omega
      have h2 : wholeB l b = n := by
        have h3 := HL.out
        rw [HW.out, List.drop_eq_nil_of_le (by omega)]
        show k + 0 = n
        omega
      have HR := Lib.hid (show WholeP w (wholeB l b) (.returned (.int .i64 (n : Int))) wr from ⟨by rw [h2], HB.out⟩)
      clear h2
      go_wp2
      go_ret
      exact HR.out
end Go.Proofs.YtejjfhhppjdcaaaGreatDoor
