/-
  Layer 3: what frame.Open gives.
  Layer 3: what frame.All gives.
-/
import Derived.Test.YtbejfgmdkmddnaaGreatDoorSFrmWalk
import Derived.Test.YtbejfgmdkmddnaaGreatDoorSClkDec1
import Derived.Test.YtbejfgmdkmddnaaGreatDoorSCells
namespace Go.Proofs.YtbejfgmdkmddnaaGreatDoor
open Go.RowKit

def FOpenPost (w : World) (l : List UInt8) (e : Ending) (w' : World) : Prop :=
  ∃ v, e = .returned (.tuple #[v, .int .i64 (Frm.openB l).2.1, .int .i64 (Frm.openB l).2.2]) ∧ OwnB w' w.heap.size v (Frm.openB l).1 ∧ Below w.heap.size w w'

theorem idx0 (x0 x1 x2 : Value) (w : World) : (Instr.index 212 (.agg #[x0, x1, x2]) (.int .i64 0)).run Tryz.prog w = .ok x0 w := by kernel_rfl
theorem idx1 (x0 x1 x2 : Value) (w : World) : (Instr.index 212 (.agg #[x0, x1, x2]) (.int .i64 1)).run Tryz.prog w = .ok x1 w := by kernel_rfl
theorem idx2 (x0 x1 x2 : Value) (w : World) : (Instr.index 212 (.agg #[x0, x1, x2]) (.int .i64 2)).run Tryz.prog w = .ok x2 w := by kernel_rfl

theorem openPost_bad (w w' : World) (l : List UInt8) (h : Frm.bad l = true) (hb : Below w.heap.size w w') :
    FOpenPost w l (.returned (.tuple #[.slice none 0 0, .int .i64 0, .int .i64 2])) w' := by
  have e : Frm.openB l = ([], 0, 2) := by simp [Frm.openB, h]
  refine ⟨.slice none 0 0, by rw [e]; rfl, ?_, hb⟩
  rw [e]
  exact World.ownsRow_nil _ _ _ _

set_option maxHeartbeats 1000000 in
theorem open_any (w : World) (A : Option Addr) (n c : Nat) (l : List UInt8) (h : Byt w w.heap.size A n c l) (hn : n ≤ 1000000) :
    Calls Tryz.prog 97 #[.slice A n c] w (FOpenPost w l) := by
  have HH := Lib.hid h; clear h
  have ix0 := idx0
  have ix1 := idx1
  have ix2 := idx2
  go_enter Tryz.func97, Tryz.ntmps97
  go_wp2_with fail
  have hB1 := Lib.hid ((HH.out.alloc (Nat.le_refl _) (Obj.cells #[Value.slice A n c] 32)).alloc (by simp) (Obj.cells #[Value.func (Fn.func 158) #[] #[Value.pointer (some { block := w.heap.size, off := 0 })]] 23))
  have hbl : Below w.heap.size w ((w.alloc (Obj.cells #[Value.slice A n c] 32)).alloc (Obj.cells #[Value.func (Fn.func 158) #[] #[Value.pointer (some { block := w.heap.size, off := 0 })]] 23)) := ((Below.refl _ _).alloc (Nat.le_refl _) _).alloc (by simp) _
  have hc0 : ((w.alloc (Obj.cells #[Value.slice A n c] 32)).alloc (Obj.cells #[Value.func (Fn.func 158) #[] #[Value.pointer (some { block := w.heap.size, off := 0 })]] 23)).cell? ⟨w.heap.size, 0, none⟩ = some (.slice A n c) := by go_simp
  have hc1 : ((w.alloc (Obj.cells #[Value.slice A n c] 32)).alloc (Obj.cells #[Value.func (Fn.func 158) #[] #[Value.pointer (some { block := w.heap.size, off := 0 })]] 23)).cell? ⟨w.heap.size + 1, 0, none⟩ = some (Value.func (Fn.func 158) #[] #[Value.pointer (some { block := w.heap.size, off := 0 })]) := by go_simp
  have hsz : ((w.alloc (Obj.cells #[Value.slice A n c] 32)).alloc (Obj.cells #[Value.func (Fn.func 158) #[] #[Value.pointer (some { block := w.heap.size, off := 0 })]] 23)).heap.size = w.heap.size + 2 := by simp
  generalize ((w.alloc (Obj.cells #[Value.slice A n c] 32)).alloc (Obj.cells #[Value.func (Fn.func 158) #[] #[Value.pointer (some { block := w.heap.size, off := 0 })]] 23)) = w1 at *
  have hsz' : w.heap.size + 2 ≤ w1.heap.size := by omega
  clear hsz
  have HC0 := Lib.hid hc0
  have HC1 := Lib.hid hc1
  refine wp_loop_rounds 4 ?_; rw [rounds_succ]
  go_wp2_with fail
  refine (open1_any w1 _ _ A n c l HC0.out hB1.out).mono ?_
  rintro e w2 ⟨rfl, k1, rfl⟩
  cases hu : Frm.unlike l
  case true =>
    have HU := Lib.hid hu; clear hu
    go_wp2
    go_ret3
    exact openPost_bad w _ l (by simp [Frm.bad, HU.out]) (below_drewN hbl _)
  case false =>
    have HU := Lib.hid hu; clear hu
    go_wp2_with fail
    rw [rounds_succ]
    go_wp2_with fail
    refine (open2_any (w1.drewN k1) _ _ A n c l HC0.out (hB1.out.drewN _)).mono ?_
    rintro e w2 ⟨rfl, k2, rfl⟩
    cases hl : Frm.long l
    case true =>
      have HL := Lib.hid hl; clear hl
      go_wp2
      go_ret3
      exact openPost_bad w _ l (by simp [Frm.bad, HL.out]) (below_drewN hbl _)
    case false =>
      have HL := Lib.hid hl; clear hl
      go_wp2_with fail
      rw [rounds_succ]
      go_wp2_with fail
      refine (open4_any (w1.drewN (k1 + k2)) _ _ _ A n c l HC1.out HC0.out (hB1.out.drewN _) (by simp; omega) hn).mono ?_
      rintro e w3 ⟨rfl, hb3⟩
      have hb3' : Below w1.heap.size w1 w3 := (below_drewN (Below.refl _ _) _).trans hb3
      have hbw3 : Below w.heap.size w w3 := hbl.trans (hb3'.mono hbl.size)
      have g0 : w3.cell? ⟨w.heap.size, 0, none⟩ = some (.slice A n c) := (hb3'.cell (p := ⟨w.heap.size, 0, none⟩) (show w.heap.size < w1.heap.size by omega)).trans HC0.out
      have g1 : w3.cell? ⟨w.heap.size + 1, 0, none⟩ = some (Value.func (Fn.func 158) #[] #[Value.pointer (some { block := w.heap.size, off := 0 })]) := (hb3'.cell (p := ⟨w.heap.size + 1, 0, none⟩) (show w.heap.size + 1 < w1.heap.size by omega)).trans HC1.out
      have hB3 := Lib.hid (hB1.out.below (hb3'.mono hbl.size))
      have hs3 : w.heap.size + 2 ≤ w3.heap.size := by have := hb3'.size; omega
      clear hc0 hc1 hb3 hb3' hB1 HC0 HC1 hbl hsz'
      cases hw : Frm.wrong l
      case true =>
        have HW := Lib.hid hw; clear hw
        go_wp2
        go_ret3
        exact openPost_bad w _ l (by simp [Frm.bad, HW.out]) hbw3
      case false =>
        have HW := Lib.hid hw; clear hw
        go_wp2_with fail
        rw [rounds_succ]
        go_wp2_with fail
        refine (open3_any w3 _ _ A n c l g0 hB3.out).mono ?_
        rintro e w4 ⟨rfl, k4, rfl⟩
        cases ht : Frm.there l
        case false =>
          have HT := Lib.hid ht; clear ht
          go_wp2
          go_ret3
          have e : Frm.openB l = ([], 0, 1) := by simp [Frm.openB, Frm.bad, HU.out, HL.out, HW.out, HT.out]
          exact ⟨.slice none 0 0, by rw [e]; rfl, by rw [e]; exact OwnB.nil _ _, below_drewN hbw3 _⟩
        case true =>
          have hsz : 6 ≤ l.length ∧ Frm.sz l + 10 ≤ l.length := by simpa [Frm.there] using ht
          have HT := Lib.hid ht; clear ht
          rw [HH.out.len] at hsz
          obtain ⟨hs6, hs10⟩ := hsz
          have hmax := HH.out.max
          have hcap := HH.out.cap
          unfold maxLen at hmax
          obtain ⟨b, off, rfl, hb, _⟩ := HH.out.cell (by omega)
          go_wp2_with fail
          refine (size_any _ _ _ _ _ _ (hB3.out.drewN _) (by omega)).mono ?_
          rintro e w5 ⟨rfl, k5, rfl⟩
          have e : Hid (Frm.openB l = ((l.drop 6).take (Frm.sz l), 6 + Frm.sz l + 4, 0)) := by simp [Hid, Frm.openB, Frm.bad, HU.out, HL.out, HW.out, HT.out]
          generalize hz : Frm.sz l = z at *
          have HZ := Lib.hid hz; clear hz
          have hc2 := Lib.hid (hB3.out.cut 6 z (by omega))
          clear ix0 ix1 ix2
          have g0' : ∀ (k : Nat) (o : Obj), ((w3.drewN k).alloc o).cell? ⟨w.heap.size, 0, none⟩ = some (Value.slice (some { block := b, off := off }) n c) := fun k o =>
            (World.cell?_alloc_lt (w3.drewN k) o _ (show w.heap.size < w3.heap.size by omega)).trans g0
          have hlz : z ≤ 1000000 := by omega
          go_wp2_with (at_builtin; refine wpList_app8 rfl (.tmp 32) (.tmp 35) rfl w.heap.size _ [] rfl ?c1 w.heap.size _ _ _ ((l.drop 6).take z) rfl ?c2 ?c3 ?c4 ?_)
          case c1 => exact World.ownsRow_lit (w3.drewN _) #[] 0 (by simp; omega) (by simp [maxLen]) rfl
          case c2 => rw [Nat.add_sub_cancel_left]; exact (hc2.out.drewN _).alloc (by simp; omega) _
          case c3 => simp; omega
          case c4 => simp; omega
          intro v' w6 hown hgr hat
          have hbw6 : Below w.heap.size w w6 := Below.grown ((below_drewN hbw3 (k4 + k5)).alloc (by simp; omega) (Obj.cells #[] 5)) hgr (by simp; omega) (by intro k hk; simp [Value.ownBlock] at hk; omega)
          clear g0' hgr hat
          go_wp2
          go_ret3
          exact ⟨v', by rw [e.out]; rfl, by rw [e.out]; exact hown, hbw6⟩
end Go.Proofs.YtbejfgmdkmddnaaGreatDoor
namespace Go.Proofs.YtbejfgmdkmddnaaGreatDoor
open Go.RowKit

theorem bs_info : (Tryz.prog.info? 32).map (fun i => (i.zero, i.size, i.bytes)) = some (some (.slice none 0 0), 1, 24) := by kernel_rfl

/-- each of these values is a slice of the call's own that holds just these bytes -/
def OwnBs (w : World) (base : Nat) (vs : List Value) (ps : List (List UInt8)) : Prop :=
  vs.length = ps.length ∧ ∀ (i : Nat) (v : Value) (p : List UInt8), vs[i]? = some v → ps[i]? = some p → OwnB w base v p

theorem OwnBs.nil (w : World) (base : Nat) : OwnBs w base [] [] := ⟨rfl, fun i v p h => by simp at h⟩
theorem OwnBs.kept {w w' : World} {base : Nat} {vs : List Value} {ps : List (List UInt8)} (h : OwnBs w base vs ps) (hk : ∀ v p, OwnB w base v p → OwnB w' base v p) : OwnBs w' base vs ps :=
  ⟨h.1, fun i v p h1 h2 => hk v p (h.2 i v p h1 h2)⟩
theorem OwnBs.snoc {w : World} {base : Nat} {vs : List Value} {ps : List (List UInt8)} (h : OwnBs w base vs ps) {v : Value} {p : List UInt8} (hv : OwnB w base v p) : OwnBs w base (vs ++ [v]) (ps ++ [p]) := by
  refine ⟨by simp [h.1], fun i v' p' h1 h2 => ?_⟩
  rcases Nat.lt_or_ge i vs.length with hi | hi
  · rw [List.getElem?_append_left hi] at h1
    rw [List.getElem?_append_left (by rw [← h.1]; exact hi)] at h2
    exact h.2 i v' p' h1 h2
  · rw [List.getElem?_append_right hi] at h1
    rw [List.getElem?_append_right (by rw [← h.1]; exact hi), ← h.1] at h2
    rcases hk : i - vs.length with _ | k
    · rw [hk] at h1 h2
      simp at h1 h2
      subst h1 h2
      exact hv
    · rw [hk] at h1
      simp at h1

def AllPost (w : World) (l : List UInt8) (e : Ending) (w' : World) : Prop :=
  ∃ v vs, e = .returned (.tuple #[v, .int .i64 (Frm.allB l).2.1, .int .i64 (Frm.allB l).2.2]) ∧ w'.ownsRow w.heap.size 32 1 v vs.length vs ∧ OwnBs w' w.heap.size vs (Frm.allB l).1 ∧ Below w.heap.size w w'

/-- at every round's head: so far these payloads stand, and the rest is still to come -/
def AllRel (w : World) (n : Nat) (l : List UInt8) (v i : Value) (wr : World) : Prop :=
  ∃ (k : Nat) (vs : List Value) (ps : List (List UInt8)), i = .int .i64 k ∧ k ≤ n ∧ vs.length ≤ k ∧ wr.ownsRow w.heap.size 32 1 v vs.length vs ∧ OwnBs wr w.heap.size vs ps ∧ Below w.heap.size w wr ∧
    Frm.allB l = (ps ++ (Frm.allB (l.drop k)).1, k + (Frm.allB (l.drop k)).2.1, (Frm.allB (l.drop k)).2.2)

set_option maxHeartbeats 1000000 in
theorem all_any (w : World) (A : Option Addr) (n c : Nat) (l : List UInt8) (h : Byt w w.heap.size A n c l) (hn : n ≤ 1000000) :
    Calls Tryz.prog 42 #[.slice A n c] w (AllPost w l) := by
  have HH := Lib.hid h; clear h
  have hmax := HH.out.max
  have hcap := HH.out.cap
  unfold maxLen at hmax
  obtain ⟨i0, hi, hz0, hz1, hz2⟩ := info_parts bs_info
  have HI := Lib.hid hi; have HZ0 := Lib.hid hz0; have HZ1 := Lib.hid hz1; have HZ2 := Lib.hid hz2
  clear hi hz0 hz1 hz2
  go_enter Tryz.func42, Tryz.ntmps42
  go_wp2
  go_loopw [5, 6] (fun v i wr => AllRel w n l v i wr) (fun _ i _ => n - (intOf i).toNat)
  case atStart => exact ⟨0, [], [], rfl, Nat.zero_le _, Nat.le_refl _, World.ownsRow_nil _ _ _ _, OwnBs.nil _ _, Below.refl _ _, by simp⟩
  case round =>
    obtain ⟨k, vs, ps, rfl, hk, hvk, hown, hbs, hbel, hall⟩ := hrel
    have HO := Lib.hid hown; have HB := Lib.hid hbs; have HA := Lib.hid hall
    clear hown hbs hall
    have hsz := hbel.size
    by_cases hkn : k < n
    · obtain ⟨b, off, rfl, hb, _⟩ := HH.out.cell (by omega)
      have hcut : Hid (Byt wr w.heap.size (some ⟨b, off + k, none⟩) (n - k) (c - k) (l.drop k)) := by
        have := ((HH.out.below hbel).cut k (n - k) (by omega))
        rwa [List.take_of_length_le (by rw [List.length_drop, HH.out.len]; omega)] at this
      have hlen : (l.drop k).length = n - k := by rw [List.length_drop, HH.out.len]
      have hne : l.drop k ≠ [] := fun e => by rw [e] at hlen; simp at hlen; omega
      have HN := Lib.hid hne; clear hne
      have HLn := Lib.hid hlen; clear hlen
      go_wp2_with fail
      refine (open_any wr _ (n - k) (c - k) (l.drop k) (hcut.out.more hsz) (by omega)).mono ?_
      rintro e w1 ⟨p, rfl, hown1, hb1⟩
      obtain ⟨Ap, cp, hp⟩ := hown1.form
      have H10 := Lib.hid (Frm.openB_pos (l.drop k))
      have hle := Frm.openB_le (l.drop k)
      have HST := Lib.hid (Frm.allB_stop (l.drop k) HN.out)
      have HGO := Lib.hid (Frm.allB_go (l.drop k) HN.out)
      rw [HLn.out] at hle
      generalize hq : Frm.openB (l.drop k) = r at *
      obtain ⟨q, m, st⟩ := r
      have HQ := Lib.hid hq; clear hq
      dsimp only at *
      subst hp
      have hbw1 : Below w.heap.size w w1 := hbel.trans (hb1.mono hsz)
      have hsz1 := hb1.size
      have hown0 : OwnB w1 w.heap.size (.slice Ap q.length cp) q := hown1.base_le hsz
      have HP := Lib.hid hown0; clear hown1 hown0
      have HO1 := Lib.hid (ownsRow_below HO.out hb1 (Nat.le_refl _))
      have HB1 := Lib.hid (HB.out.kept (fun v p hv => hv.below hb1 (Nat.le_refl _)))
      by_cases hst : st = 0
      · subst hst
        have hm10 : 10 ≤ m := H10.out rfl
        have hgo := HGO.out rfl
        rw [List.drop_drop] at hgo
        have HG := Lib.hid hgo; clear hgo
        go_wp2_with (at_builtin; refine wpList_app (P := Tryz.prog) rfl (.tmp 27) (.tmp 29) 92 rfl 32 i0 (.slice none 0 0) 1 24 Tryz.underlying92 HI.out HZ0.out HZ1.out HZ2.out rfl (by decide) w.heap.size _ vs.length vs rfl ?c1 (w1.heap.size + 1) _ _ _ [.slice Ap q.length cp] rfl ?c2 ?c3 ?c4 ?c5 ?c6 ?_)
        case c1 => exact World.ownsRow.alloc HO1.out _
        case c2 => exact Cel.new w1 #[.slice Ap q.length cp] _ (by unfold maxLen; omega) rfl
        case c3 => simp [Value.oneCell']
        case c4 => unfold maxLen; omega
        case c5 => omega
        case c6 => first | omega | (simp; omega)
        intro v' w2 hown2 hg2 hat2
        have hne := ownsRow_apart (World.ownsRow.alloc HP.out (Obj.cells #[.slice Ap q.length cp] 32)) (World.ownsRow.alloc HO1.out (Obj.cells #[.slice Ap q.length cp] 32)) (by decide)
        have hp2 : OwnB w2 w.heap.size (.slice Ap q.length cp) q := (HP.out.alloc (Obj.cells #[.slice Ap q.length cp] 32)).kept hg2 hne
        have hbs2 : OwnBs w2 w.heap.size vs ps := HB1.out.kept fun v p' hv => (OwnB.alloc hv (Obj.cells #[.slice Ap q.length cp] 32)).kept hg2 (ownsRow_apart (World.ownsRow.alloc hv (Obj.cells #[.slice Ap q.length cp] 32)) (World.ownsRow.alloc HO1.out (Obj.cells #[.slice Ap q.length cp] 32)) (by decide))
        have hb2 : Below w.heap.size w w2 := Below.grown (hbw1.alloc (by omega) (Obj.cells #[.slice Ap q.length cp] 32)) hg2 (by simp; omega) (fun k' hk' => (HO1.out.lt k' hk').1)
        have HB2 := Lib.hid (hbs2.snoc hp2)
        have HO2 := Lib.hid hown2
        have HBel2 := Lib.hid hb2
        clear hown2 hg2 hat2 hne hp2 hbs2 hb2
        go_wp2
        go_roundw
        case rel =>
          refine ⟨k + m, vs ++ [.slice Ap q.length cp], ps ++ [q], by go_num, by omega, by simp; omega, by rw [List.length_append]; exact HO2.out, HB2.out, HBel2.out, ?_⟩
          rw [HA.out, HG.out]
          simp [Nat.add_assoc]
        case measure => simp [intOf]; omega
      · have hs' : ((st : Int) != 0) = true := by simp; omega
        have hstop := HST.out hst
        go_wp2
        go_ret3
        refine ⟨u5, vs, ?_, HO1.out, ?_, hbw1⟩
        · rw [HA.out, hstop]; rfl
        · rw [HA.out, hstop]; simpa using HB1.out
    · have hk' : l.drop k = [] := List.drop_eq_nil_iff.2 (by rw [HH.out.len]; omega)
      have HK := Lib.hid hk'; clear hk'
      go_wp2
      go_ret3
      refine ⟨u5, vs, ?_, HO.out, ?_, hbel⟩
      · rw [HA.out, HK.out]; rfl
      · rw [HA.out, HK.out]; simpa [show Frm.allB [] = ([], 0, 0) from rfl] using HB.out
end Go.Proofs.YtbejfgmdkmddnaaGreatDoor
