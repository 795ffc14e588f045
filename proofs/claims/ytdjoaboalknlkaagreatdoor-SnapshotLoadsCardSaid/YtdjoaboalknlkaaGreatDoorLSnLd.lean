/-
  Layer 30, plain: what is well read from bytes is read alike if more bytes stand behind; two texts are alike only if all that they tell is.
  Layer 3: what frame.Open gives.
  Layer 3: what frame.All gives.
  Layer 30: Load, of a snapshot, and of bytes that are none.
-/
import Derived.Test.YtdjoaboalknlkaaGreatDoorLSnPlain
import Derived.Test.YtdjoaboalknlkaaGreatDoorLFrmWalk
import Derived.Test.YtdjoaboalknlkaaGreatDoorLClkDec1
import Derived.Test.YtdjoaboalknlkaaGreatDoorLSets
import Derived.Test.YtdjoaboalknlkaaGreatDoorLSnRd3
import Derived.Test.YtdjoaboalknlkaaGreatDoorLSnSv
import Derived.Test.YtdjoaboalknlkaaGreatDoorLSnPcs
namespace Go.Proofs.YtdjoaboalknlkaaGreatDoor
open Go.RowKit

end Go.Proofs.YtdjoaboalknlkaaGreatDoor
namespace Go.Proofs.YtdjoaboalknlkaaGreatDoor
open Go.RowKit

def FOpenPost (w : World) (l : List UInt8) (e : Ending) (w' : World) : Prop :=
  ∃ v, e = .returned (.tuple #[v, .int .i64 (Frm.openB l).2.1, .int .i64 (Frm.openB l).2.2]) ∧ OwnB w' w.heap.size v (Frm.openB l).1 ∧ Below w.heap.size w w'

theorem idx0 (x0 x1 x2 : Value) (w : World) : (Instr.index 112 (.agg #[x0, x1, x2]) (.int .i64 0)).run Tryz.prog w = .ok x0 w := by kernel_rfl
theorem idx1 (x0 x1 x2 : Value) (w : World) : (Instr.index 112 (.agg #[x0, x1, x2]) (.int .i64 1)).run Tryz.prog w = .ok x1 w := by kernel_rfl
theorem idx2 (x0 x1 x2 : Value) (w : World) : (Instr.index 112 (.agg #[x0, x1, x2]) (.int .i64 2)).run Tryz.prog w = .ok x2 w := by kernel_rfl

theorem openPost_bad (w w' : World) (l : List UInt8) (h : Frm.bad l = true) (hb : Below w.heap.size w w') :
    FOpenPost w l (.returned (.tuple #[.slice none 0 0, .int .i64 0, .int .i64 2])) w' := by
  have e : Frm.openB l = ([], 0, 2) := by simp [Frm.openB, h]
  refine ⟨.slice none 0 0, by rw [e]; rfl, ?_, hb⟩
  rw [e]
  exact World.ownsRow_nil _ _ _ _

set_option maxHeartbeats 1000000 in
theorem open_any (w : World) (A : Option Addr) (n c : Nat) (l : List UInt8) (h : Byt w w.heap.size A n c l) (hn : n ≤ 1000000) :
    Calls Tryz.prog 22 #[.slice A n c] w (FOpenPost w l) := by
  have HH := Lib.hid h; clear h
  have ix0 := idx0
  have ix1 := idx1
  have ix2 := idx2
  go_enter Tryz.func22, Tryz.ntmps22
  go_wp2_with fail
  have hB1 := Lib.hid ((HH.out.alloc (Nat.le_refl _) (Obj.cells #[Value.slice A n c] 22)).alloc (by simp) (Obj.cells #[Value.func (Fn.func 56) #[] #[Value.pointer (some { block := w.heap.size, off := 0 })]] 23))
  have hbl : Below w.heap.size w ((w.alloc (Obj.cells #[Value.slice A n c] 22)).alloc (Obj.cells #[Value.func (Fn.func 56) #[] #[Value.pointer (some { block := w.heap.size, off := 0 })]] 23)) := ((Below.refl _ _).alloc (Nat.le_refl _) _).alloc (by simp) _
  have hc0 : ((w.alloc (Obj.cells #[Value.slice A n c] 22)).alloc (Obj.cells #[Value.func (Fn.func 56) #[] #[Value.pointer (some { block := w.heap.size, off := 0 })]] 23)).cell? ⟨w.heap.size, 0, none⟩ = some (.slice A n c) := by go_simp
  have hc1 : ((w.alloc (Obj.cells #[Value.slice A n c] 22)).alloc (Obj.cells #[Value.func (Fn.func 56) #[] #[Value.pointer (some { block := w.heap.size, off := 0 })]] 23)).cell? ⟨w.heap.size + 1, 0, none⟩ = some (Value.func (Fn.func 56) #[] #[Value.pointer (some { block := w.heap.size, off := 0 })]) := by go_simp
  have hsz : ((w.alloc (Obj.cells #[Value.slice A n c] 22)).alloc (Obj.cells #[Value.func (Fn.func 56) #[] #[Value.pointer (some { block := w.heap.size, off := 0 })]] 23)).heap.size = w.heap.size + 2 := by simp
  generalize ((w.alloc (Obj.cells #[Value.slice A n c] 22)).alloc (Obj.cells #[Value.func (Fn.func 56) #[] #[Value.pointer (some { block := w.heap.size, off := 0 })]] 23)) = w1 at *
  have hsz' : w.heap.size + 2 ≤ w1.heap.size := by omega
  clear hsz
  have HC0 := Lib.hid hc0
  have HC1 := Lib.hid hc1
  refine wp_loop_rounds 4 ?_; rw [rounds_succ]
  go_wp2_with fail
  refine (open1_any w1 _ _ A n c l HC0.out hB1.out).mono ?_
  rintro e w2 ⟨rfl, k1, rfl⟩
  cases hu : Frm.unlike l
  case true =>
    have HU := Lib.hid hu; clear hu
    go_wp2
    go_ret3
    exact openPost_bad w _ l (by simp [Frm.bad, HU.out]) (below_drewN hbl _)
  case false =>
    have HU := Lib.hid hu; clear hu
    go_wp2_with fail
    rw [rounds_succ]
    go_wp2_with fail
    refine (open2_any (w1.drewN k1) _ _ A n c l HC0.out (hB1.out.drewN _)).mono ?_
    rintro e w2 ⟨rfl, k2, rfl⟩
    cases hl : Frm.long l
    case true =>
      have HL := Lib.hid hl; clear hl
      go_wp2
      go_ret3
      exact openPost_bad w _ l (by simp [Frm.bad, HL.out]) (below_drewN hbl _)
    case false =>
      have HL := Lib.hid hl; clear hl
      go_wp2_with fail
      rw [rounds_succ]
      go_wp2_with fail
      refine (open4_any (w1.drewN (k1 + k2)) _ _ _ A n c l HC1.out HC0.out (hB1.out.drewN _) (by simp; omega) hn).mono ?_
      rintro e w3 ⟨rfl, hb3⟩
      have hb3' : Below w1.heap.size w1 w3 := (below_drewN (Below.refl _ _) _).trans hb3
      have hbw3 : Below w.heap.size w w3 := hbl.trans (hb3'.mono hbl.size)
      have g0 : w3.cell? ⟨w.heap.size, 0, none⟩ = some (.slice A n c) := (hb3'.cell (p := ⟨w.heap.size, 0, none⟩) (show w.heap.size < w1.heap.size by omega)).trans HC0.out
      have g1 : w3.cell? ⟨w.heap.size + 1, 0, none⟩ = some (Value.func (Fn.func 56) #[] #[Value.pointer (some { block := w.heap.size, off := 0 })]) := (hb3'.cell (p := ⟨w.heap.size + 1, 0, none⟩) (show w.heap.size + 1 < w1.heap.size by omega)).trans HC1.out
      have hB3 := Lib.hid (hB1.out.below (hb3'.mono hbl.size))
      have hs3 : w.heap.size + 2 ≤ w3.heap.size := by have := hb3'.size; omega
      clear hc0 hc1 hb3 hb3' hB1 HC0 HC1 hbl hsz'
      cases hw : Frm.wrong l
      case true =>
        have HW := Lib.hid hw; clear hw
        go_wp2
        go_ret3
        exact openPost_bad w _ l (by simp [Frm.bad, HW.out]) hbw3
      case false =>
        have HW := Lib.hid hw; clear hw
        go_wp2_with fail
        rw [rounds_succ]
        go_wp2_with fail
        refine (open3_any w3 _ _ A n c l g0 hB3.out).mono ?_
        rintro e w4 ⟨rfl, k4, rfl⟩
        cases ht : Frm.there l
        case false =>
          have HT := Lib.hid ht; clear ht
          go_wp2
          go_ret3
          have e : Frm.openB l = ([], 0, 1) := by simp [Frm.openB, Frm.bad, HU.out, HL.out, HW.out, HT.out]
          exact ⟨.slice none 0 0, by rw [e]; rfl, by rw [e]; exact OwnB.nil _ _, below_drewN hbw3 _⟩
        case true =>
          have hsz : 6 ≤ l.length ∧ Frm.sz l + 10 ≤ l.length := by simpa [Frm.there] using ht
          have HT := Lib.hid ht; clear ht
          rw [HH.out.len] at hsz
          obtain ⟨hs6, hs10⟩ := hsz
          have hmax := HH.out.max
          have hcap := HH.out.cap
          unfold maxLen at hmax
          obtain ⟨b, off, rfl, hb, _⟩ := HH.out.cell (by omega)
          go_wp2_with fail
          refine (size_any _ _ _ _ _ _ (hB3.out.drewN _) (by omega)).mono ?_
          rintro e w5 ⟨rfl, k5, rfl⟩
          have e : Hid (Frm.openB l = ((l.drop 6).take (Frm.sz l), 6 + Frm.sz l + 4, 0)) := by simp [Hid, Frm.openB, Frm.bad, HU.out, HL.out, HW.out, HT.out]
          generalize hz : Frm.sz l = z at *
          have HZ := Lib.hid hz; clear hz
          have hc2 := Lib.hid (hB3.out.cut 6 z (by omega))
          clear ix0 ix1 ix2
          have g0' : ∀ (k : Nat) (o : Obj), ((w3.drewN k).alloc o).cell? ⟨w.heap.size, 0, none⟩ = some (Value.slice (some { block := b, off := off }) n c) := fun k o =>
            (World.cell?_alloc_lt (w3.drewN k) o _ (show w.heap.size < w3.heap.size by omega)).trans g0
          have hlz : z ≤ 1000000 := by omega
          go_wp2_with (at_builtin; refine wpList_app8 rfl (.tmp 32) (.tmp 35) rfl w.heap.size _ [] rfl ?c1 w.heap.size _ _ _ ((l.drop 6).take z) rfl ?c2 ?c3 ?c4 ?_)
          case c1 => exact World.ownsRow_lit (w3.drewN _) #[] 0 (by simp; omega) (by simp [maxLen]) rfl
          case c2 => rw [Nat.add_sub_cancel_left]; exact (hc2.out.drewN _).alloc (by simp; omega) _
          case c3 => simp; omega
          case c4 => simp; omega
          intro v' w6 hown hgr hat
          have hbw6 : Below w.heap.size w w6 := Below.grown ((below_drewN hbw3 (k4 + k5)).alloc (by simp; omega) (Obj.cells #[] 5)) hgr (by simp; omega) (by intro k hk; simp [Value.ownBlock] at hk; omega)
          clear g0' hgr hat
          go_wp2
          go_ret3
          exact ⟨v', by rw [e.out]; rfl, by rw [e.out]; exact hown, hbw6⟩
end Go.Proofs.YtdjoaboalknlkaaGreatDoor
namespace Go.Proofs.YtdjoaboalknlkaaGreatDoor
open Go.RowKit

theorem bs_info : (Tryz.prog.info? 22).map (fun i => (i.zero, i.size, i.bytes)) = some (some (.slice none 0 0), 1, 24) := by kernel_rfl

/-- each of these values is a slice of the call's own that holds just these bytes -/
def OwnBs (w : World) (base : Nat) (vs : List Value) (ps : List (List UInt8)) : Prop :=
  vs.length = ps.length ∧ ∀ (i : Nat) (v : Value) (p : List UInt8), vs[i]? = some v → ps[i]? = some p → OwnB w base v p

theorem OwnBs.nil (w : World) (base : Nat) : OwnBs w base [] [] := ⟨rfl, fun i v p h => by simp at h⟩
theorem OwnBs.kept {w w' : World} {base : Nat} {vs : List Value} {ps : List (List UInt8)} (h : OwnBs w base vs ps) (hk : ∀ v p, OwnB w base v p → OwnB w' base v p) : OwnBs w' base vs ps :=
  ⟨h.1, fun i v p h1 h2 => hk v p (h.2 i v p h1 h2)⟩
theorem OwnBs.snoc {w : World} {base : Nat} {vs : List Value} {ps : List (List UInt8)} (h : OwnBs w base vs ps) {v : Value} {p : List UInt8} (hv : OwnB w base v p) : OwnBs w base (vs ++ [v]) (ps ++ [p]) := by
  refine ⟨by simp [h.1], fun i v' p' h1 h2 => ?_⟩
  rcases Nat.lt_or_ge i vs.length with hi | hi
  · rw [List.getElem?_append_left hi] at h1
    rw [List.getElem?_append_left (by rw [← h.1]; exact hi)] at h2
    exact h.2 i v' p' h1 h2
  · rw [List.getElem?_append_right hi] at h1
    rw [List.getElem?_append_right (by rw [← h.1]; exact hi), ← h.1] at h2
    rcases hk : i - vs.length with _ | k
    · rw [hk] at h1 h2
      simp at h1 h2
      subst h1 h2
      exact hv
    · rw [hk] at h1
      simp at h1

def AllPost (w : World) (l : List UInt8) (e : Ending) (w' : World) : Prop :=
  ∃ v vs, e = .returned (.tuple #[v, .int .i64 (Frm.allB l).2.1, .int .i64 (Frm.allB l).2.2]) ∧ w'.ownsRow w.heap.size 22 1 v vs.length vs ∧ OwnBs w' w.heap.size vs (Frm.allB l).1 ∧ Below w.heap.size w w'

/-- at every round's head: so far these payloads stand, and the rest is still to come -/
def AllRel (w : World) (n : Nat) (l : List UInt8) (v i : Value) (wr : World) : Prop :=
  ∃ (k : Nat) (vs : List Value) (ps : List (List UInt8)), i = .int .i64 k ∧ k ≤ n ∧ vs.length ≤ k ∧ wr.ownsRow w.heap.size 22 1 v vs.length vs ∧ OwnBs wr w.heap.size vs ps ∧ Below w.heap.size w wr ∧
    Frm.allB l = (ps ++ (Frm.allB (l.drop k)).1, k + (Frm.allB (l.drop k)).2.1, (Frm.allB (l.drop k)).2.2)

set_option maxHeartbeats 1000000 in
theorem all_any (w : World) (A : Option Addr) (n c : Nat) (l : List UInt8) (h : Byt w w.heap.size A n c l) (hn : n ≤ 1000000) :
    Calls Tryz.prog 10 #[.slice A n c] w (AllPost w l) := by
  have HH := Lib.hid h; clear h
  have hmax := HH.out.max
  have hcap := HH.out.cap
  unfold maxLen at hmax
  obtain ⟨i0, hi, hz0, hz1, hz2⟩ := info_parts bs_info
  have HI := Lib.hid hi; have HZ0 := Lib.hid hz0; have HZ1 := Lib.hid hz1; have HZ2 := Lib.hid hz2
  clear hi hz0 hz1 hz2
  go_enter Tryz.func10, Tryz.ntmps10
  go_wp2
  go_loopw [5, 6] (fun v i wr => AllRel w n l v i wr) (fun _ i _ => n - (intOf i).toNat)
  case atStart => exact ⟨0, [], [], rfl, Nat.zero_le _, Nat.le_refl _, World.ownsRow_nil _ _ _ _, OwnBs.nil _ _, Below.refl _ _, by simp⟩
  case round =>
    obtain ⟨k, vs, ps, rfl, hk, hvk, hown, hbs, hbel, hall⟩ := hrel
    have HO := Lib.hid hown; have HB := Lib.hid hbs; have HA := Lib.hid hall
    clear hown hbs hall
    have hsz := hbel.size
    by_cases hkn : k < n
    · obtain ⟨b, off, rfl, hb, _⟩ := HH.out.cell (by omega)
      have hcut : Hid (Byt wr w.heap.size (some ⟨b, off + k, none⟩) (n - k) (c - k) (l.drop k)) := by
        have := ((HH.out.below hbel).cut k (n - k) (by omega))
        rwa [List.take_of_length_le (by rw [List.length_drop, HH.out.len]; omega)] at this
      have hlen : (l.drop k).length = n - k := by rw [List.length_drop, HH.out.len]
      have hne : l.drop k ≠ [] := fun e => by rw [e] at hlen; simp at hlen; omega
      have HN := Lib.hid hne; clear hne
      have HLn := Lib.hid hlen; clear hlen
      go_wp2_with fail
      refine (open_any wr _ (n - k) (c - k) (l.drop k) (hcut.out.more hsz) (by omega)).mono ?_
      rintro e w1 ⟨p, rfl, hown1, hb1⟩
      obtain ⟨Ap, cp, hp⟩ := hown1.form
      have H10 := Lib.hid (Frm.openB_pos (l.drop k))
      have hle := Frm.openB_le (l.drop k)
      have HST := Lib.hid (Frm.allB_stop (l.drop k) HN.out)
      have HGO := Lib.hid (Frm.allB_go (l.drop k) HN.out)
      rw [HLn.out] at hle
      generalize hq : Frm.openB (l.drop k) = r at *
      obtain ⟨q, m, st⟩ := r
      have HQ := Lib.hid hq; clear hq
      dsimp only at *
      subst hp
      have hbw1 : Below w.heap.size w w1 := hbel.trans (hb1.mono hsz)
      have hsz1 := hb1.size
      have hown0 : OwnB w1 w.heap.size (.slice Ap q.length cp) q := hown1.base_le hsz
      have HP := Lib.hid hown0; clear hown1 hown0
      have HO1 := Lib.hid (ownsRow_below HO.out hb1 (Nat.le_refl _))
      have HB1 := Lib.hid (HB.out.kept (fun v p hv => hv.below hb1 (Nat.le_refl _)))
      by_cases hst : st = 0
      · subst hst
        have hm10 : 10 ≤ m := H10.out rfl
        have hgo := HGO.out rfl
        rw [List.drop_drop] at hgo
        have HG := Lib.hid hgo; clear hgo
        go_wp2_with (at_builtin; refine wpList_app (P := Tryz.prog) rfl (.tmp 27) (.tmp 29) 36 rfl 22 i0 (.slice none 0 0) 1 24 Tryz.underlying36 HI.out HZ0.out HZ1.out HZ2.out rfl (by decide) w.heap.size _ vs.length vs rfl ?c1 (w1.heap.size + 1) _ _ _ [.slice Ap q.length cp] rfl ?c2 ?c3 ?c4 ?c5 ?c6 ?_)
        case c1 => exact World.ownsRow.alloc HO1.out _
        case c2 => exact Cel.new w1 #[.slice Ap q.length cp] _ (by unfold maxLen; omega) rfl
        case c3 => simp [Value.oneCell']
        case c4 => unfold maxLen; omega
        case c5 => omega
        case c6 => first | omega | (simp; omega)
        intro v' w2 hown2 hg2 hat2
        have hne := ownsRow_apart (World.ownsRow.alloc HP.out (Obj.cells #[.slice Ap q.length cp] 22)) (World.ownsRow.alloc HO1.out (Obj.cells #[.slice Ap q.length cp] 22)) (by decide)
        have hp2 : OwnB w2 w.heap.size (.slice Ap q.length cp) q := (HP.out.alloc (Obj.cells #[.slice Ap q.length cp] 22)).kept hg2 hne
        have hbs2 : OwnBs w2 w.heap.size vs ps := HB1.out.kept fun v p' hv => (OwnB.alloc hv (Obj.cells #[.slice Ap q.length cp] 22)).kept hg2 (ownsRow_apart (World.ownsRow.alloc hv (Obj.cells #[.slice Ap q.length cp] 22)) (World.ownsRow.alloc HO1.out (Obj.cells #[.slice Ap q.length cp] 22)) (by decide))
        have hb2 : Below w.heap.size w w2 := Below.grown (hbw1.alloc (by omega) (Obj.cells #[.slice Ap q.length cp] 22)) hg2 (by simp; omega) (fun k' hk' => (HO1.out.lt k' hk').1)
        have HB2 := Lib.hid (hbs2.snoc hp2)
        have HO2 := Lib.hid hown2
        have HBel2 := Lib.hid hb2
        clear hown2 hg2 hat2 hne hp2 hbs2 hb2
        go_wp2
        go_roundw
        case rel =>
          refine ⟨k + m, vs ++ [.slice Ap q.length cp], ps ++ [q], by go_num, by omega, by simp; omega, by rw [List.length_append]; exact HO2.out, HB2.out, HBel2.out, ?_⟩
          rw [HA.out, HG.out]
          simp [Nat.add_assoc]
        case measure => simp [intOf]; omega
      · have hs' : ((st : Int) != 0) = true := by simp; omega
        have hstop := HST.out hst
        go_wp2
        go_ret3
        refine ⟨u5, vs, ?_, HO1.out, ?_, hbw1⟩
        · rw [HA.out, hstop]; rfl
        · rw [HA.out, hstop]; simpa using HB1.out
    · have hk' : l.drop k = [] := List.drop_eq_nil_iff.2 (by rw [HH.out.len]; omega)
      have HK := Lib.hid hk'; clear hk'
      go_wp2
      go_ret3
      refine ⟨u5, vs, ?_, HO.out, ?_, hbel⟩
      · rw [HA.out, HK.out]; rfl
      · rw [HA.out, HK.out]; simpa [show Frm.allB [] = ([], 0, 0) from rfl] using HB.out
end Go.Proofs.YtdjoaboalknlkaaGreatDoor
namespace Go.Proofs.YtdjoaboalknlkaaGreatDoor
open Go.RowKit Go.Maps Go.Sort Go.Shelf

theorem lt_of_notL {a b : List UInt8} (h : ¬ a < b) (h2 : a ≠ b) : b < a := by
  have : b ≤ a := List.not_lt.1 h
  rcases List.le_iff_lt_or_eq.1 this with h3 | h3
  · exact h3
  · exact absurd h3.symm h2
theorem rising_ex : ∀ g : List (List UInt8), ∃ r, Rising r g
  | [] => ⟨[], List.Pairwise.nil, fun x => by simp⟩
  | a :: g => by
    obtain ⟨r, h1, h2⟩ := rising_ex g
    by_cases ha : a ∈ r
    · refine ⟨r, h1, fun x => ?_⟩
      rw [h2 x, List.mem_cons]
      exact ⟨.inr, fun h => h.elim (fun e => by rw [e]; exact (h2 a).1 ha) id⟩
    · refine ⟨r.filter (fun x => decide (x < a)) ++ a :: r.filter (fun x => decide (a < x)), ?_, fun x => ?_⟩
      · refine List.pairwise_append.2 ⟨h1.filter _, List.pairwise_cons.2 ⟨fun y hy => by simpa using (List.mem_filter.1 hy).2, h1.filter _⟩, fun x hx y hy => ?_⟩
        have h3 : x < a := by simpa using (List.mem_filter.1 hx).2
        rcases List.mem_cons.1 hy with rfl | hy
        · exact h3
        · exact List.lt_trans h3 (by simpa using (List.mem_filter.1 hy).2)
      · rw [List.mem_append, List.mem_cons, List.mem_filter, List.mem_filter, List.mem_cons]
        constructor
        · rintro (⟨h, _⟩ | h | ⟨h, _⟩)
          · exact .inr ((h2 x).1 h)
          · exact .inl h
          · exact .inr ((h2 x).1 h)
        · rintro (h | h)
          · exact .inr (.inl h)
          · have hx := (h2 x).2 h
            by_cases hlt : x < a
            · exact .inl ⟨hx, by simpa using hlt⟩
            · exact .inr (.inr ⟨hx, by simpa using lt_of_notL hlt (fun e => ha (e ▸ hx))⟩)
theorem goneR_rise (x : Itk) : Rising (goneR x) x.gone := by
  obtain ⟨r, hr⟩ := rising_ex x.gone
  rw [← goneR_of hr]; exact hr
theorem PtGood.snFit {N : Nat} {x : Itk} (h : PtGood N x) (hN : N ≤ 600) {n : Int} (h0 : 0 ≤ n) (h1 : n ≤ 1048576) : SnFit n x.clk.slack x.clk.idle (encC x.clk) (encH x.had) x.taken x.late (goneR x) := by
  have k1 := h.clk.slack; have k2 := h.clk.idle
  have k3 := h.encC_len; have k4 := h.had_len hN; have k5 := h.ok.taken; have k6 := h.ok.late; have k7 := h.gone
  have k8 := rising_lenO (goneR_rise x)
  exact ⟨h0, by omega, by omega, by omega, by omega, by omega, by omega, by omega, by omega, by omega, by omega, fun e he => h.ok.may e (.inl he), fun e he => h.ok.may e (.inr he), fun g hg h10 => by
    have hn := h.pt.name g (((goneR_rise x).2 g).1 hg)
    unfold nameB at hn
    simp only [Bool.and_eq_true] at hn
    exact (nameC_no (List.all_eq_true.1 hn.2 10 h10)).1 rfl⟩
theorem fresh_byt {B : Nat} {w : World} {v : Value} {l : List UInt8} (h : Lib.FreshBytes B w v l) : ∃ g c, v = .slice (some ⟨g, 0, none⟩) l.length c ∧ Byt w w.heap.size (some ⟨g, 0, none⟩) l.length c l := by
  obtain ⟨g, cap, zs, rfl, _, h2, h3, h4, h5, h6, h7, _⟩ := h
  refine ⟨g, cap, rfl, ⟨rfl, h2, h3, fun h0 => ⟨g, 0, rfl, World.block_lt_of_cell? _ _ (h7 0 (by omega)), fun i hi => ?_⟩⟩⟩
  rw [Nat.zero_add, h7 i (by omega)]
  have h8 : (Lib.bytesOf (zs.take l.length))[i]? = some l[i] := by rw [h6]; exact List.getElem?_eq_getElem hi
  unfold Lib.bytesOf at h8
  rw [List.getElem?_map, List.getElem?_take, if_pos hi] at h8
  have hz : i < zs.length := by omega
  rw [List.getElem?_eq_getElem hz] at h8
  simp only [Option.map_some, Option.some.injEq] at h8
  have h9 := h5 zs[i] (List.getElem_mem hz)
  rw [List.getD_eq_getElem?_getD, List.getElem?_eq_getElem hz, Option.getD_some, ← h8]
  congr 2
  simp; omega
theorem join_flat : ∀ ls : List (List UInt8), Lib.join ls [] = ls.flatten
  | [] => rfl
  | [a] => by simp [Lib.join, List.intercalate]
  | a :: b :: t => by
    have ih := join_flat (b :: t)
    unfold Lib.join List.intercalate at ih ⊢
    rw [show List.intersperse [] (a :: b :: t) = a :: [] :: List.intersperse [] (b :: t) from rfl, List.flatten_cons, List.flatten_cons, ih, List.flatten_cons]
    rfl
theorem lens_flat : ∀ ls : List (List UInt8), Lib.lens ls = ls.flatten.length
  | [] => rfl
  | a :: t => by
    have ih := lens_flat t
    unfold Lib.lens at ih ⊢
    rw [List.map_cons, List.sum_cons, ih, List.flatten_cons, List.length_append]
def JnPost (w : World) (l : List UInt8) (e : Ending) (w' : World) : Prop := ∃ A c, e = .returned (.slice A l.length c) ∧ Byt w' w'.heap.size A l.length c l ∧ (A = none → c = 0) ∧ Below w.heap.size w w'
theorem OwnBs.holds {w : World} {base : Nat} {vs : List Value} {ps : List (List UInt8)} (h : OwnBs w base vs ps) {i : Nat} {v : Value} {p : List UInt8} (h1 : vs[i]? = some v) (h2 : ps[i]? = some p) : Lib.HoldsBytes w v p := by
  have ho := h.2 i v p h1 h2
  obtain ⟨A, c, rfl⟩ := ho.form
  refine ⟨A, c, rfl, fun e => ?_, fun a ha j x hj => ?_⟩
  · subst e
    have hb := ho.byt
    rcases Nat.eq_zero_or_pos p.length with h0 | h0
    · exact List.eq_nil_of_length_eq_zero h0
    · obtain ⟨b, off, e, _⟩ := hb.cell h0; cases e
  · have hjl : j < p.length := (List.getElem?_eq_some_iff.1 hj).1
    obtain ⟨b, off, e, _, hc⟩ := ho.byt.cell (by omega)
    rw [ha] at e; injection e with e; subst e
    have := hc j hjl
    rw [Go.WideShapes.add_plain, this, (List.getElem?_eq_some_iff.1 hj).2]
theorem join_any (w : World) (B base : Nat) (A : Option Addr) (n c : Nat) (vs : List Value) (ps : List (List UInt8)) (hc : Cel w B 1 A n c vs) (ho : OwnBs w base vs ps) (hl : ps.flatten.length ≤ 1000000000) (hn : n ≤ 1000000000) : Calls Tryz.prog 12 #[.slice A n c, .slice none 0 0] w (JnPost w ps.flatten) := by
  have hvn : vs.length = n := by have := hc.len; omega
  have hpn : ps.length = n := by rw [← ho.1]; exact hvn
  match ps, hpn with
  | [], hpn =>
    obtain rfl : n = 0 := by simpa using hpn.symm
    refine (Tryz.bytes_Join_none A c (.slice none 0 0) w).mono ?_
    rintro e w' ⟨rfl, rfl⟩
    exact ⟨_, _, rfl, Byt.nil _ _ _ _ (Nat.zero_le _), (fun e => by cases e), (Below.refl _ _).alloc (Nat.le_refl _) _⟩
  | [p], hpn =>
    obtain rfl : n = 1 := by simpa using hpn.symm
    obtain ⟨b, off, rfl, _, hcc⟩ := hc.cell (by omega)
    obtain ⟨v, hv⟩ : ∃ v, vs[0]? = some v := ⟨vs[0]'(by omega), List.getElem?_eq_getElem _⟩
    obtain ⟨Ap, cp, e, h1, h2⟩ := ho.holds hv (p := p) rfl
    subst e
    have h3 := hcc 0 _ hv
    rw [Nat.add_zero] at h3
    rw [show [p].flatten = p by simp]
    by_cases hp : p = []
    · subst hp
      refine (Tryz.bytes_Join_one_empty b off c Ap cp (.slice none 0 0) w h3).mono ?_
      rintro e w' ⟨rfl, rfl⟩
      exact ⟨none, 0, rfl, Byt.nil _ _ _ _ (Nat.zero_le _), fun _ => rfl, Below.refl _ _⟩
    · cases Ap with
      | none => exact absurd (h1 rfl) hp
      | some a =>
        refine (Tryz.bytes_Join_one b off c a cp p (.slice none 0 0) w h3 (h2 a rfl) (List.length_pos_iff.2 hp) (by simp at hl; omega)).mono ?_
        rintro e w' ⟨v', rfl, hf, hb⟩
        obtain ⟨g, cc, rfl, hby⟩ := fresh_byt hf
        exact ⟨_, _, rfl, hby, (fun e => by cases e), hb⟩
  | p :: q :: t, hpn =>
    obtain ⟨b, off, rfl, _, hcc⟩ := hc.cell (by simp at hpn; omega)
    have hn2 : 2 ≤ n := by simp at hpn; omega
    refine (Tryz.bytes_Join_many b off n c vs (p :: q :: t) (.slice none 0 0) [] w hpn hn2 ⟨ho.1, fun i v hv => by rw [Go.WideShapes.add_plain]; exact hcc i v hv, fun i v l h1 h2 => ho.holds h1 h2⟩ hc.cap ⟨none, 0, rfl, fun _ => rfl, fun a ha => by cases ha⟩ (by omega) (by rw [lens_flat]; simp only [List.length_nil, Nat.zero_mul]; omega)).mono ?_
    rintro e w' ⟨v', rfl, hf, hb⟩
    rw [join_flat] at hf
    obtain ⟨g, cc, rfl, hby⟩ := fresh_byt hf
    exact ⟨_, _, rfl, hby, (fun e => by cases e), hb⟩
/-- frames that are torn, or bad -/
theorem snload_state (w : World) (A : Option Addr) (n c : Nat) (l : List UInt8) (h : Byt w w.heap.size A n c l) (hn : n ≤ 1000000) (er : Int) (hs : ((Frm.allB l).2.2 = 1 ∧ er = 3) ∨ ((Frm.allB l).2.2 = 2 ∧ er = 4)) : Calls Tryz.prog 5 #[.slice A n c] w (fun e w' => e = .returned (.tuple #[.pointer none, .int .i64 0, .int .i64 er]) ∧ Below w.heap.size w w') := by
  have HA := Lib.hid (all_any w A n c l h hn)
  clear h
  go_enter Tryz.func5, Tryz.ntmps5
  go_wp2_with fail
  with_reducible refine HA.out.mono ?_
  rintro r w1 ⟨v, vs, rfl, ho, hob, hb⟩
  obtain ⟨Av, kv, rfl⟩ := ownsRow_form ho
  have HB := Lib.hid hb
  clear ho hob hb HA
  generalize (Frm.allB l).2.2 = st at *
  generalize (Frm.allB l).2.1 = m at *
  rcases hs with ⟨rfl, rfl⟩ | ⟨rfl, rfl⟩
  · go_wp2
    go_ret3
    exact ⟨rfl, HB.out⟩
  · go_wp2
    go_ret3
    exact ⟨rfl, HB.out⟩
/-- what reads as no text -/
theorem snload_form (w : World) (A : Option Addr) (n c : Nat) (l : List UInt8) (h : Byt w w.heap.size A n c l) (hn : n ≤ 1000000) (hs : (Frm.allB l).2.2 = 0) (hfl : (Frm.allB l).1.flatten.length ≤ 1000000) (hno : (snD (Frm.allB l).1.flatten).ok = false) (hmx : MaxAt w) (hee : ErrsAt w) : Calls Tryz.prog 5 #[.slice A n c] w (fun e w' => e = .returned (.tuple #[.pointer none, .int .i64 0, .int .i64 2]) ∧ Below w.heap.size w w') := by
  have HA := Lib.hid (all_any w A n c l h hn)
  have hle := (Frm.allB_le l).2
  have hll := h.len
  have HMX := Lib.hid hmx; have HEE := Lib.hid hee
  clear h hmx hee
  go_enter Tryz.func5, Tryz.ntmps5
  go_wp2_with fail
  with_reducible refine HA.out.mono ?_
  rintro r w1 ⟨v, vs, rfl, ho, hob, hb⟩
  obtain ⟨Av, kv, rfl⟩ := ownsRow_form ho
  have HB := Lib.hid hb
  have hvs := hob.1
  have HJ := Lib.hid (join_any w1 _ _ Av vs.length kv vs _ (Cel.of_own ho) hob (by omega) (by omega))
  rw [hs]
  clear ho hob hb HA hvs
  generalize (Frm.allB l).1.flatten = T at *
  generalize (Frm.allB l).2.1 = m at *
  go_wp2_with fail
  with_reducible refine HJ.out.mono ?_
  rintro r w2 ⟨A2, c2, rfl, hb2, hA2, hbl2⟩
  have HB2 := Lib.hid (HB.out.trans (hbl2.mono HB.out.size))
  have HR := Lib.hid (snread_any w2 A2 T.length c2 T hb2 hA2 (by omega) (HEE.out.up HB2.out) (HMX.out.up HB2.out))
  clear HJ hb2 hA2 hbl2
  go_wp2_with fail
  with_reducible refine HR.out.mono ?_
  rintro r w3 ⟨Ac, nc, kc, Ah, nh, kh, At, nt, kt, Al, nl, kl, Ag, ng, kg, rfl, q1, q2, q3, q4, q5, q6⟩
  have HB3 := Lib.hid (HB2.out.trans (q6.mono HB2.out.size))
  clear HR q1 q2 q3 q4 q5 q6
  rw [hno]
  generalize snD T = D at *
  have HF := Lib.hid (show ∀ o, Below w.heap.size w (w3.alloc o) from fun o => HB3.out.trans ((Below.refl _ _).alloc HB3.out.size o))
  unfold ptsAgg
  go_wp2
  go_ret3
  exact ⟨rfl, HF.out _⟩
theorem of_good {w : World} {N : Nat} {x : Itk} (hx : PtGood N x) (hN : N ≤ 600) {Ac Ah At Al Ag : Option Addr} {nc kc nh kh nt kt nl kl ng kg : Nat} {r : List (List UInt8)} (hr : Rising r x.gone) (h : OfIn w N Ac Ah At Al Ag nc kc nh kh nt kt nl kl ng kg (encC x.clk) (encH x.had) x.taken x.late r) :
    Calls Tryz.prog 13 #[ptsAgg x.clk.slack x.clk.idle (.slice Ac nc kc) (.slice Ah nh kh) (.slice At nt kt) (.slice Al nl kl) (.slice Ag ng kg)] w (AgainPost w N x) := by
  refine (of_any w N Ac Ah At Al Ag nc kc nh kh nt kt nl kl ng kg x.clk.slack x.clk.idle (encC x.clk) (encH x.had) x.taken x.late r h).mono ?_
  rintro e w' ⟨hb, ⟨c, m, bi, F, hp, rfl, hi, hF⟩ | ⟨er, rfl, h1, h2⟩⟩
  · have e1 : c = x.clk := by have := hp.dc; rw [hx.dc] at this; injection this with this; exact this.symm
    have e2 : m = x.had := by obtain ⟨q, hq⟩ := hp.dh; rw [hx.dh hN] at hq; injection hq with hq _; exact hq.symm
    subst e1 e2
    exact ⟨bi, F, rfl, ItkAt.congrG hi hr.2, hb, hF⟩
  · exact absurd (hx.parts hN hr) (h2 _ _)
theorem num_step (a q : Nat) (h : ¬ a ≤ 65536) (h3 : q * 65536 ≤ a - 65536 + 65535) : (q + 1) * 65536 ≤ a + 65535 := by
  generalize hC : 65536 = C at *
  generalize hD : 65535 = D at *
  rw [Nat.add_mul, Nat.one_mul]
  generalize q * C = z at *
  omega
theorem num_last (a q : Nat) (h2 : 0 < a) (h3 : q = 0) : (q + 1) * 65536 ≤ a + 65535 := by
  subst h3
  rw [Nat.zero_add, Nat.one_mul]
  omega
theorem chunksB_num2 (l : List UInt8) : (chunksB l).length * 65536 ≤ l.length + 65535 := by
  have key : ∀ (f : Nat) (l : List UInt8), l.length ≤ f → (chunks f l).length * 65536 ≤ l.length + 65535 := fun f => by
    induction f with
    | zero => intro l _; simp [chunks]
    | succ f ih =>
      intro l hf
      unfold chunks
      split
      · simp
      · rename_i h1
        have h2 := List.length_pos_iff.2 h1
        have h3 := ih (l.drop 65536) (by rw [List.length_drop]; omega)
        rw [List.length_drop] at h3
        rw [List.length_cons]
        by_cases h4 : l.length ≤ 65536
        · have h7 : (l.drop 65536).length = 0 := by rw [List.length_drop]; omega
          have h8 := List.eq_nil_of_length_eq_zero h7
          have h6 : (chunks f (l.drop 65536)).length = 0 := by
            rw [h8]
            cases f with
            | zero => rfl
            | succ f => unfold chunks; rfl
          exact num_last _ _ h2 h6
        · exact num_step _ _ h4 h3
  exact key _ l (Nat.le_refl _)
theorem piecesB_len2 (l : List UInt8) (h : l.length ≤ 900000) : (piecesB l).length ≤ l.length + 150 := by
  unfold piecesB
  rw [catB_len, chunksB_flat]
  have := chunksB_num2 l
  omega
theorem PtGood.had_len2 {N : Nat} {x : Itk} (h : PtGood N x) (hN : N ≤ 100) : (encH x.had).length ≤ 163400 := by
  have h1 := numB_short (n := x.had.length) (by have := h.ok.had; omega)
  have h2 := flat_lenN (M := N) x.had (fun p hp => encS_lenN (h.play.ok.each p hp).1 (h.play.ok.each p hp).2.1 (h.ok.hadrow h.play.ok p hp) (by omega))
  have h3 := h.ok.had
  have h4 : (33 + 16 * N) * x.had.length ≤ (33 + 16 * 100) * 100 := Nat.mul_le_mul (by omega) (by omega)
  unfold encH; rw [List.length_append]; omega
theorem PtGood.text_len {N : Nat} {x : Itk} (h : PtGood N x) (hN : N ≤ 100) {n : Int} (h0 : 0 ≤ n) (h1 : n ≤ 1048576) : (snX n x).length ≤ 530000 := by
  have k1 := h.clk.slack; have k2 := h.clk.idle
  have k3 := h.encC_len; have k4 := h.had_len2 hN; have k5 := h.ok.taken; have k6 := h.ok.late; have k7 := h.gone
  have k8 := rising_lenO (goneR_rise x)
  have e1 := evsT_len x.taken fun e he => h.ok.may e (.inl he)
  have e2 := evsT_len x.late fun e he => h.ok.may e (.inr he)
  have e3 := namesT_len (goneR x) fun p hp => by
    have := h.pt.name p (((goneR_rise x).2 p).1 hp)
    have := (nameB_len this).2; omega
  have f1 := lineB_one wSnap n (by omega) (by omega)
  have f2 := lineB_one wSlack x.clk.slack (by omega) (by omega)
  have f3 := lineB_one wIdle x.clk.idle (by omega) (by omega)
  have f4 := lineB_one wClock (encC x.clk).length (by omega) (by omega)
  have f5 := lineB_one wHad (encH x.had).length (by omega) (by omega)
  have f6 := lineB_one wTaken x.taken.length (by omega) (by omega)
  have f7 := lineB_one wLate x.late.length (by omega) (by omega)
  have f8 := lineB_one wGone (goneR x).length (by omega) (by omega)
  unfold snX snT
  simp only [List.length_append]
  simp only [wSnap, wSlack, wIdle, wClock, wHad, wTaken, wLate, wGone, List.length_cons, List.length_nil] at *
  omega
def LdPost (w : World) (N : Nat) (x : Itk) (off : Int) (e : Ending) (w' : World) : Prop := ∃ bi F, e = .returned (.tuple #[.pointer (some ⟨bi, 0, none⟩), .int .i64 off, .int .i64 0]) ∧ ItkAt w' F bi N x ∧ Below w.heap.size w w' ∧ ∀ b, F b → w.heap.size ≤ b
set_option maxRecDepth 100000 in
set_option maxHeartbeats 4000000 in
/-- a snapshot is loaded -/
theorem snload_good (w : World) (A : Option Addr) (n c : Nat) (x : Itk) (off : Int) (N : Nat) (h : Byt w w.heap.size A n c (piecesB (snX off x))) (hg : PtGood N x) (hN : N ≤ 100) (h0 : 0 ≤ off) (h1 : off ≤ 1048576) (hmx : MaxAt w) (hee : ErrsAt w) (htab : Lib.TabBelow Tryz.prog w.heap.size w "internal/strconv.uint64pow10" .u64 Lib.pow10Tab) : Calls Tryz.prog 5 #[.slice A n c] w (LdPost w N x off) := by
  have htl := hg.text_len hN h0 h1
  have hpl := piecesB_len2 (snX off x) (by omega)
  have hll := h.len
  have HA := Lib.hid (all_any w A n c _ h (by omega))
  have hab := allB_pieces (snX off x)
  have hcl := chunksB_num2 (snX off x)
  have HSD := Lib.hid (show snD (snX off x) = ⟨off, x.clk.slack, x.clk.idle, encC x.clk, encH x.had, x.taken, x.late, goneR x, true⟩ from by
    have h2 := snD_snT (hg.snFit (by omega) h0 h1) []
    rw [List.append_nil] at h2
    exact h2)
  have HG := Lib.hid hg; have HMX := Lib.hid hmx; have HEE := Lib.hid hee; have HT := Lib.hid htab; have HBY := Lib.hid h
  unfold AllPost at HA
  rw [hab] at HA
  clear h hg hmx hee htab hab
  go_enter Tryz.func5, Tryz.ntmps5
  go_wp2_with fail
  with_reducible refine HA.out.mono ?_
  rintro r w1 ⟨v, vs, rfl, ho, hob, hb⟩
  obtain ⟨Av, kv, rfl⟩ := ownsRow_form ho
  have HB := Lib.hid hb
  have hvs := hob.1
  have HJ := Lib.hid (join_any w1 _ _ Av vs.length kv vs _ (Cel.of_own ho) hob (by rw [chunksB_flat]; omega) (by omega))
  rw [chunksB_flat] at HJ
  clear ho hob hb HA hvs hcl
  generalize (piecesB (snX off x)).length = m at *
  go_wp2_with fail
  with_reducible refine HJ.out.mono ?_
  rintro r w2 ⟨A2, c2, rfl, hb2, hA2, hbl2⟩
  have HB2 := Lib.hid (HB.out.trans (hbl2.mono HB.out.size))
  have HR := Lib.hid (snread_any w2 A2 (snX off x).length c2 (snX off x) hb2 hA2 (by omega) (HEE.out.up HB2.out) (HMX.out.up HB2.out))
  unfold RdOut at HR
  rw [HSD.out] at HR
  clear HJ hb2 hA2 hbl2
  go_wp2_with fail
  with_reducible refine HR.out.mono ?_
  rintro r w3 ⟨Ac, nc, kc, Ah, nh, kh, At, nt, kt, Al, nl, kl, Ag, ng, kg, rfl, q1, q2, q3, q4, q5, q6⟩
  have hs3 := q6.size
  have hbA : Below w3.heap.size w3 (w3.alloc (ptsObj x.clk.slack x.clk.idle (.slice Ac nc kc) (.slice Ah nh kh) (.slice At nt kt) (.slice Al nl kl) (.slice Ag ng kg))) := (Below.refl _ _).alloc (Nat.le_refl _) _
  have HB4 := Lib.hid (HB2.out.trans ((q6.trans (hbA.mono hs3)).mono HB2.out.size))
  have HP4 := Lib.hid (show (w3.alloc (ptsObj x.clk.slack x.clk.idle (.slice Ac nc kc) (.slice Ah nh kh) (.slice At nt kt) (.slice Al nl kl) (.slice Ag ng kg))).heap[w3.heap.size]? = some (ptsObj x.clk.slack x.clk.idle (.slice Ac nc kc) (.slice Ah nh kh) (.slice At nt kt) (.slice Al nl kl) (.slice Ag ng kg)) from heap_alloc_new w3 _)
  have l1 := q1.len; have l2 := q2.len; have l3 := Evs.len q3; have l4 := Evs.len q4; have l5 := Strs.len q5
  have hrl := rising_lenO (goneR_rise x)
  have HOF := Lib.hid (of_good HG.out (by omega) (goneR_rise x) (w := w3.alloc (ptsObj x.clk.slack x.clk.idle (.slice Ac nc kc) (.slice Ah nh kh) (.slice At nt kt) (.slice Al nl kl) (.slice Ag ng kg)))
    { clk := (q1.below (hbA.mono hs3)).more (by have := hbA.size; omega)
      had := (q2.below (hbA.mono hs3)).more (by have := hbA.size; omega)
      tk := Cel.more (Cel.below q3 hbA) hbA.size
      le := Cel.more (Cel.below q4 hbA) hbA.size
      gn := Cel.more (Cel.below q5 hbA) hbA.size
      hnc := by have := HG.out.encC_len; omega
      hnh := by have := HG.out.had_len2 hN; omega
      hnt := by have := HG.out.ok.taken; omega
      hnl := by have := HG.out.ok.late; omega
      hng := by have := HG.out.gone; omega
      hN := by omega
      st := fun e he => mayB_smallO (HG.out.ok.may e (.inl he))
      sl := fun e he => mayB_smallO (HG.out.ok.may e (.inr he))
      max := HMX.out.up HB4.out
      errs := HEE.out.up HB4.out
      tab := tab_up HT.out HB4.out
      bd := HG.out.bd (by omega) })
  clear HR q1 q2 q3 q4 q5 q6 l1 l2 l3 l4 l5 hbA hrl
  unfold ptsAgg at HOF ⊢
  go_upto_region 8 with fail
  generalize w3.alloc (ptsObj x.clk.slack x.clk.idle (.slice Ac nc kc) (.slice Ah nh kh) (.slice At nt kt) (.slice Al nl kl) (.slice Ag ng kg)) = w4 at *
  obtain ⟨z0, z1, z2, z3, z4, z5, z6, _⟩ := pts_cells HP4.out
  go_wp2_with fail
  with_reducible refine HOF.out.mono ?_
  rintro r w5 ⟨bi, F, rfl, hi, hb5, hF⟩
  have HB5 := Lib.hid (HB4.out.trans (hb5.mono HB4.out.size))
  have HI := Lib.hid hi
  have HFN := Lib.hid (show ∀ b, F b → w.heap.size ≤ b from fun b hb => by have := hF b hb; have := HB4.out.size; omega)
  have HSV := Lib.hid (snsave_any w5 F bi N x hi HG.out (by omega) off h0 h1 (HMX.out.up HB5.out) (tab_up HT.out HB5.out))
  clear HOF z0 z1 z2 z3 z4 z5 z6 hi hb5 hF
  go_wp2_with fail
  with_reducible refine HSV.out.mono ?_
  rintro r w6 ⟨v6, rfl, ho6, hb6⟩
  obtain ⟨A6, k6, rfl⟩ := ho6.form
  have HB6 := Lib.hid (HB5.out.trans (hb6.mono HB5.out.size))
  have HI6 := Lib.hid (HI.out.up hb6)
  have HEQ := Lib.hid (equal_any w6 _ _ _ _ _ _ _ _ _ _ ho6.byt (HBY.out.below HB6.out))
  have HF := Lib.hid (show LdPost w N x off (.returned (.tuple #[.pointer (some ⟨bi, 0, none⟩), .int .i64 off, .int .i64 0])) w6 from ⟨bi, F, rfl, HI6.out, HB6.out, HFN.out⟩)
  rw [beq_self_eq_true] at HEQ
  clear HSV ho6 hb6
  go_wp2_with fail
  with_reducible refine HEQ.out.mono ?_
  rintro r w7 ⟨rfl, rfl⟩
  clear HEQ
  go_wp2
  go_ret3
  exact HF.out
end Go.Proofs.YtdjoaboalknlkaaGreatDoor
