/-
  Layer 3: what frame.All gives.
-/
import Derived.Test.YtdnbejhaocpacaaFrmOpen
import Derived.Test.YtdnbejhaocpacaaCells
namespace Go.Proofs.Ytdnbejhaocpacaa
open Go.RowKit

theorem bs_info : (Try.prog.info? 22).map (fun i => (i.zero, i.size, i.bytes)) = some (some (.slice none 0 0), 1, 24) := by kernel_rfl

/-- each of these values is a slice of the call's own that holds just these bytes -/
def OwnBs (w : World) (base : Nat) (vs : List Value) (ps : List (List UInt8)) : Prop :=
  vs.length = ps.length ∧ ∀ (i : Nat) (v : Value) (p : List UInt8), vs[i]? = some v → ps[i]? = some p → OwnB w base v p

theorem OwnBs.nil (w : World) (base : Nat) : OwnBs w base [] [] := ⟨rfl, fun i v p h => by simp at h⟩
theorem OwnBs.kept {w w' : World} {base : Nat} {vs : List Value} {ps : List (List UInt8)} (h : OwnBs w base vs ps) (hk : ∀ v p, OwnB w base v p → OwnB w' base v p) : OwnBs w' base vs ps :=
  ⟨h.1, fun i v p h1 h2 => hk v p (h.2 i v p h1 h2)⟩
theorem OwnBs.snoc {w : World} {base : Nat} {vs : List Value} {ps : List (List UInt8)} (h : OwnBs w base vs ps) {v : Value} {p : List UInt8} (hv : OwnB w base v p) : OwnBs w base (vs ++ [v]) (ps ++ [p]) := by
  refine ⟨by simp [h.1], fun i v' p' h1 h2 => ?_⟩
  rcases Nat.lt_or_ge i vs.length with hi | hi
  · rw [List.getElem?_append_left hi] at h1
    rw [List.getElem?_append_left (by rw [← h.1]; exact hi)] at h2
    exact h.2 i v' p' h1 h2
  · rw [List.getElem?_append_right hi] at h1
    rw [List.getElem?_append_right (by rw [← h.1]; exact hi), ← h.1] at h2
    rcases hk : i - vs.length with _ | k
    · rw [hk] at h1 h2
      simp at h1 h2
      subst h1 h2
      exact hv
    · rw [hk] at h1
      simp at h1

def AllPost (w : World) (l : List UInt8) (e : Ending) (w' : World) : Prop :=
  ∃ v vs, e = .returned (.tuple #[v, .int .i64 (Frm.allB l).2.1, .int .i64 (Frm.allB l).2.2]) ∧ w'.ownsRow w.heap.size 22 1 v vs.length vs ∧ OwnBs w' w.heap.size vs (Frm.allB l).1 ∧ Below w.heap.size w w'

/-- at every round's head: so far these payloads stand, and the rest is still to come -/
def AllRel (w : World) (n : Nat) (l : List UInt8) (v i : Value) (wr : World) : Prop :=
  ∃ (k : Nat) (vs : List Value) (ps : List (List UInt8)), i = .int .i64 k ∧ k ≤ n ∧ vs.length ≤ k ∧ wr.ownsRow w.heap.size 22 1 v vs.length vs ∧ OwnBs wr w.heap.size vs ps ∧ Below w.heap.size w wr ∧
    Frm.allB l = (ps ++ (Frm.allB (l.drop k)).1, k + (Frm.allB (l.drop k)).2.1, (Frm.allB (l.drop k)).2.2)

set_option maxHeartbeats 1000000 in
theorem all_any (w : World) (A : Option Addr) (n c : Nat) (l : List UInt8) (h : Byt w w.heap.size A n c l) (hn : n ≤ 1000000) :
    Calls Try.prog 15 #[.slice A n c] w (AllPost w l) := by
  have HH := Lib.hid h; clear h
  have hmax := HH.out.max
  have hcap := HH.out.cap
  unfold maxLen at hmax
  obtain ⟨i0, hi, hz0, hz1, hz2⟩ := info_parts bs_info
  have HI := Lib.hid hi; have HZ0 := Lib.hid hz0; have HZ1 := Lib.hid hz1; have HZ2 := Lib.hid hz2
  clear hi hz0 hz1 hz2
  go_enter Try.func15, Try.ntmps15
  go_wp2
  go_loopw [5, 6] (fun v i wr => AllRel w n l v i wr) (fun _ i _ => n - (intOf i).toNat)
  case atStart => exact ⟨0, [], [], rfl, Nat.zero_le _, Nat.le_refl _, World.ownsRow_nil _ _ _ _, OwnBs.nil _ _, Below.refl _ _, by simp⟩
  case round =>
    obtain ⟨k, vs, ps, rfl, hk, hvk, hown, hbs, hbel, hall⟩ := hrel
    have HO := Lib.hid hown; have HB := Lib.hid hbs; have HA := Lib.hid hall
    clear hown hbs hall
    have hsz := hbel.size
    by_cases hkn : k < n
    · obtain ⟨b, off, rfl, hb, _⟩ := HH.out.cell (by omega)
      have hcut : Hid (Byt wr w.heap.size (some ⟨b, off + k, none⟩) (n - k) (c - k) (l.drop k)) := by
        have := ((HH.out.below hbel).cut k (n - k) (by omega))
        rwa [List.take_of_length_le (by rw [List.length_drop, HH.out.len]; omega)] at this
      have hlen : (l.drop k).length = n - k := by rw [List.length_drop, HH.out.len]
      have hne : l.drop k ≠ [] := fun e => by rw [e] at hlen; simp at hlen; omega
      have HN := Lib.hid hne; clear hne
      have HLn := Lib.hid hlen; clear hlen
      go_wp2_with fail
      refine (open_any wr _ (n - k) (c - k) (l.drop k) (hcut.out.more hsz) (by omega)).mono ?_
      rintro e w1 ⟨p, rfl, hown1, hb1⟩
      obtain ⟨Ap, cp, hp⟩ := hown1.form
      have H10 := Lib.hid (Frm.openB_pos (l.drop k))
      have hle := Frm.openB_le (l.drop k)
      have HST := Lib.hid (Frm.allB_stop (l.drop k) HN.out)
      have HGO := Lib.hid (Frm.allB_go (l.drop k) HN.out)
      rw [HLn.out] at hle
      generalize hq : Frm.openB (l.drop k) = r at *
      obtain ⟨q, m, st⟩ := r
      have HQ := Lib.hid hq; clear hq
      dsimp only at *
      subst hp
      have hbw1 : Below w.heap.size w w1 := hbel.trans (hb1.mono hsz)
      have hsz1 := hb1.size
      have hown0 : OwnB w1 w.heap.size (.slice Ap q.length cp) q := hown1.base_le hsz
      have HP := Lib.hid hown0; clear hown1 hown0
      have HO1 := Lib.hid (ownsRow_below HO.out hb1 (Nat.le_refl _))
      have HB1 := Lib.hid (HB.out.kept (fun v p hv => hv.below hb1 (Nat.le_refl _)))
      by_cases hst : st = 0
      · subst hst
        have hm10 : 10 ≤ m := H10.out rfl
        have hgo := HGO.out rfl
        rw [List.drop_drop] at hgo
        have HG := Lib.hid hgo; clear hgo
        go_wp2_with (at_builtin; refine wpList_app (P := Try.prog) rfl (.tmp 27) (.tmp 29) 37 rfl 22 i0 (.slice none 0 0) 1 24 Try.underlying37 HI.out HZ0.out HZ1.out HZ2.out rfl (by decide) w.heap.size _ vs.length vs rfl ?c1 (w1.heap.size + 1) _ _ _ [.slice Ap q.length cp] rfl ?c2 ?c3 ?c4 ?c5 ?c6 ?_)
        case c1 => exact World.ownsRow.alloc HO1.out _
        case c2 => exact Cel.new w1 #[.slice Ap q.length cp] _ (by unfold maxLen; omega) rfl
        case c3 => simp [Value.oneCell']
        case c4 => unfold maxLen; omega
        case c5 => omega
        case c6 => first | omega | (simp; omega)
        intro v' w2 hown2 hg2 hat2
        have hne := ownsRow_apart (World.ownsRow.alloc HP.out (Obj.cells #[.slice Ap q.length cp] 22)) (World.ownsRow.alloc HO1.out (Obj.cells #[.slice Ap q.length cp] 22)) (by decide)
        have hp2 : OwnB w2 w.heap.size (.slice Ap q.length cp) q := (HP.out.alloc (Obj.cells #[.slice Ap q.length cp] 22)).kept hg2 hne
        have hbs2 : OwnBs w2 w.heap.size vs ps := HB1.out.kept fun v p' hv => (OwnB.alloc hv (Obj.cells #[.slice Ap q.length cp] 22)).kept hg2 (ownsRow_apart (World.ownsRow.alloc hv (Obj.cells #[.slice Ap q.length cp] 22)) (World.ownsRow.alloc HO1.out (Obj.cells #[.slice Ap q.length cp] 22)) (by decide))
        have hb2 : Below w.heap.size w w2 := Below.grown (hbw1.alloc (by omega) (Obj.cells #[.slice Ap q.length cp] 22)) hg2 (by simp; omega) (fun k' hk' => (HO1.out.lt k' hk').1)
        have HB2 := Lib.hid (hbs2.snoc hp2)
        have HO2 := Lib.hid hown2
        have HBel2 := Lib.hid hb2
        clear hown2 hg2 hat2 hne hp2 hbs2 hb2
        go_wp2
        go_roundw
        case rel =>
          refine ⟨k + m, vs ++ [.slice Ap q.length cp], ps ++ [q], by go_num, by omega, by simp; omega, by rw [List.length_append]; exact HO2.out, HB2.out, HBel2.out, ?_⟩
          rw [HA.out, HG.out]
          simp [Nat.add_assoc]
        case measure => simp [intOf]; omega
      · have hs' : ((st : Int) != 0) = true := by simp; omega
        have hstop := HST.out hst
        go_wp2
        go_ret3
        refine ⟨u5, vs, ?_, HO1.out, ?_, hbw1⟩
        · rw [HA.out, hstop]; rfl
        · rw [HA.out, hstop]; simpa using HB1.out
    · have hk' : l.drop k = [] := List.drop_eq_nil_iff.2 (by rw [HH.out.len]; omega)
      have HK := Lib.hid hk'; clear hk'
      go_wp2
      go_ret3
      refine ⟨u5, vs, ?_, HO.out, ?_, hbel⟩
      · rw [HA.out, HK.out]; rfl
      · rw [HA.out, HK.out]; simpa [Frm.allB_nil] using HB.out
end Go.Proofs.Ytdnbejhaocpacaa
