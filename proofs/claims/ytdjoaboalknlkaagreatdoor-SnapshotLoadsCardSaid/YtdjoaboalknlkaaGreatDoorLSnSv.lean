/-
  Layer 3: what frame.Seal gives.
  Layer 30: Save, of an intake.
-/
import Derived.Test.YtdjoaboalknlkaaGreatDoorLFrmWalk
import Derived.Test.YtdjoaboalknlkaaGreatDoorLClkDec1
import Derived.Test.YtdjoaboalknlkaaGreatDoorLSnW2
import Derived.Test.YtdjoaboalknlkaaGreatDoorLSnPcs
import Derived.Test.YtdjoaboalknlkaaGreatDoorLPtQ
namespace Go.Proofs.YtdjoaboalknlkaaGreatDoor
open Go.RowKit

def SealPost (w : World) (l : List UInt8) (e : Ending) (w' : World) : Prop :=
  ∃ v, e = .returned (.tuple #[v, .int .i64 0]) ∧ OwnB w' w.heap.size v (Frm.sealB l) ∧ Below w.heap.size w w'

set_option maxRecDepth 100000 in
set_option maxHeartbeats 1000000 in
theorem seal_any (w : World) (A : Option Addr) (n c : Nat) (l : List UInt8) (h : Byt w w.heap.size A n c l) (hn : n ≤ 65536) :
    Calls Tryz.prog 18 #[.slice A n c] w (SealPost w l) := by
  have HH := Lib.hid h; clear h
  obtain ⟨i0, hi, hz0, hz1, hz2⟩ := info_parts u8_info
  go_enter Tryz.func18, Tryz.ntmps18
  go_wp2_with (at_make; refine wpList_make_own _ rfl _ _ 22 rfl w.heap.size 5 i0 (.int .u8 0) 1 Tryz.underlying22 hi hz0 hz1 _ _ _ (6 + n + 4) rfl rfl ?c1 ?c2 ?c3 (Nat.le_refl _) ?_)
  case c1 => omega
  case c2 => rw [hz2]; omega
  case c3 => unfold maxLen; omega
  intro w1 hown1 hg1
  have hsz : w.heap.size + 1 ≤ w1.heap.size := (hown1.lt _ rfl).2
  have HO1 := Lib.hid hown1; clear hown1
  have HG1 := Lib.hid hg1; clear hg1
  clear hi hz0 hz1 hz2
  go_wp2_with (at_builtin; refine wpList_app8 rfl (.tmp 26) (.tmp 36) rfl w.heap.size _ [] rfl ?c1 (w1.heap.size + 1) _ _ _ (Frm.be3 n ++ (Frm.be3 n).map (255 - ·)) rfl ?c2 ?c3 ?c4 ?_)
  case c1 => exact OwnB.alloc (l := []) HO1.out _
  case c2 => exact Byt.new w1 _ _ _ (by simp [Frm.be3, Frm.u8_toNat, Frm.sub255]; omega) 6 rfl (by unfold maxLen; omega)
  case c3 => simp
  case c4 => simp; omega
  intro v2 w2 hown2 hg2 _
  have hb1 : Below w.heap.size w w1 := Below.grown (Below.refl _ _) HG1.out (Nat.le_refl _) (by simp)
  have hb2 : Below w.heap.size w w2 := Below.grown (hb1.alloc (by omega) _) hg2 (by simp; omega) (by intro k hk; simp [Value.ownBlock] at hk; omega)
  have HO2 := Lib.hid hown2; clear hown2 hg2
  have hs2 := hb2.size
  go_wp2_with (at_builtin; refine wpList_app8 rfl (.tmp 38) (.tmp 39) rfl w.heap.size _ _ rfl HO2.out w.heap.size _ _ _ l rfl (HH.out.below hb2) ?c3 hs2 ?_)
  case c3 => simp [Frm.be3]; omega
  intro v3 w3 hown3 hg3 _
  have hb3 : Below w.heap.size w w3 := Below.grown hb2 hg3 hs2 HO2.out.lt
  have hs3 := hb3.size
  have hf : Frm.be3 n ++ ((Frm.be3 n).map (255 - ·) ++ l) = Frm.front l := by unfold Frm.front; rw [HH.out.len, List.append_assoc]
  rw [hf] at hown3
  obtain ⟨A3, c3, hv3⟩ := hown3.form
  have hl3 : (Frm.front l).length = n + 6 := by rw [Frm.front_length, HH.out.len]
  rw [hl3] at hv3
  rw [hv3] at hown3 ⊢
  have HO3 := Lib.hid hown3
  clear hown3 hg3 hf hl3 hv3 HO2 hs2
  have hlt := Frm.asum_lt (Frm.front l)
  have hfl := Frm.front_length l
  have hll := HH.out.len
  have HFL := Lib.hid hfl
  have HLL := Lib.hid hll
  clear hfl hll
  go_wp2_with fail
  refine (sum_any w3 _ A3 (n + 6) c3 (Frm.front l) HO3.out.byt (by omega)).mono ?_
  rintro e w' ⟨rfl, rfl⟩
  generalize hs : Frm.asum (Frm.front l) = s at *
  have HS := Lib.hid hs; clear hs
  go_wp2_with (at_builtin; refine wpList_app8 rfl (.tmp 43) (.tmp 55) rfl w.heap.size _ (Frm.front l) rfl ?c1 (w3.heap.size + 1) _ _ _ (Frm.be4 s) rfl ?c2 ?c3 ?c4 ?_)
  case c1 => exact OwnB.alloc HO3.out _
  case c2 => exact Byt.new w3 _ _ _ (by simp [Frm.be4, Frm.u8_toNat]; omega) 4 rfl (by unfold maxLen; omega)
  case c3 => rw [HFL.out, HLL.out]; omega
  case c4 => simp; omega
  intro v4 w4 hown4 hg4 _
  have hb4 : Below w.heap.size w w4 := Below.grown (hb3.alloc hs3 _) hg4 (by simp; omega) HO3.out.lt
  clear hg4
  go_wp2
  go_ret2
  refine ⟨v4, rfl, ?_, hb4⟩
  unfold Frm.sealB
  rw [HS.out]
  exact hown4
end Go.Proofs.YtdjoaboalknlkaaGreatDoor
namespace Go.Proofs.YtdjoaboalknlkaaGreatDoor
open Go.RowKit Go.Maps Go.Sort Go.Shelf

theorem encS_lenN {p : List UInt8 × Rg} {M : Nat} (hn : nameB p.1 = true) (h : RgOk p.2) (hl : p.2.length ≤ M) (hM : M ≤ 90000) : (encS p).length ≤ 33 + 16 * M := by
  have h1 : p.1.length ≤ 24 := by unfold nameB at hn; simp at hn; omega
  have h2 := numB_short (n := p.2.length) (by omega)
  have h3 := encR_len p.2 h.each 1 (by omega)
  unfold encS
  simp only [List.length_cons, List.length_append]
  omega
theorem flat_lenN {M : Nat} : ∀ (l : Had), (∀ p ∈ l, (encS p).length ≤ 33 + 16 * M) → (l.flatMap encS).length ≤ (33 + 16 * M) * l.length
  | [], _ => by simp
  | p :: l, hp => by
    have h1 := flat_lenN l (fun q hq => hp q (by simp [hq]))
    have h2 := hp p (by simp)
    simp only [List.flatMap_cons, List.length_append, List.length_cons, Nat.mul_add, Nat.mul_one]
    omega
theorem PtGood.had_len {N : Nat} {x : Itk} (h : PtGood N x) (hN : N ≤ 600) : (encH x.had).length ≤ 6000000 := by
  have h1 := numB_short (n := x.had.length) (by have := h.ok.had; omega)
  have h2 := flat_lenN (M := N) x.had (fun p hp => encS_lenN (h.play.ok.each p hp).1 (h.play.ok.each p hp).2.1 (h.ok.hadrow h.play.ok p hp) (by omega))
  have h3 := h.ok.had
  have h4 : (33 + 16 * N) * x.had.length ≤ (33 + 16 * 600) * 600 := Nat.mul_le_mul (by omega) (by omega)
  unfold encH; rw [List.length_append]; omega
open Classical in
/-- who is gone, in order -/
noncomputable def goneR (x : Itk) : List (List UInt8) := if h : ∃ r, Rising r x.gone then h.choose else []
theorem goneR_of {x : Itk} {r : List (List UInt8)} (h : Rising r x.gone) : r = goneR x := by
  have he : ∃ r, Rising r x.gone := ⟨r, h⟩
  unfold goneR
  rw [dif_pos he]
  exact rising_unique h he.choose_spec
/-- the text of an intake at an offset -/
noncomputable def snX (n : Int) (x : Itk) : List UInt8 := snT n x.clk.slack x.clk.idle (encC x.clk) (encH x.had) x.taken x.late (goneR x)
def SvPost (w : World) (n : Int) (x : Itk) (e : Ending) (w' : World) : Prop := ∃ v, e = .returned (.tuple #[v, .int .i64 0]) ∧ OwnB w' w.heap.size v (piecesB (snX n x)) ∧ Below w.heap.size w w'
theorem snsave_arg (w : World) (bi : Nat) (n : Int) (hn : n < 0 ∨ 1048576 < n) : Calls Tryz.prog 7 #[.pointer (some ⟨bi, 0, none⟩), .int .i64 n] w (fun e w' => e = .returned (.tuple #[.slice none 0 0, .int .i64 1]) ∧ w = w') := by
  go_enter Tryz.func7, Tryz.ntmps7
  by_cases h0 : n < 0
  · go_wp2
    go_ret2
    exact ⟨rfl, rfl⟩
  · have h1 : 1048576 < n := by omega
    go_wp2
    go_ret2
    exact ⟨rfl, rfl⟩
/-- text that is left, frames that stand -/
structure SvR (w w2 : World) (v : Value) (g n c : Nat) (T : List UInt8) (tv vb : Value) (k : Nat) (W : World) : Prop where
  le : k ≤ n
  tv : ∃ X, tv = .slice X (n - k) (c - k) ∧ (k < n → X = some ⟨g, k, none⟩)
  blk : W.heap[g]? = w2.heap[g]?
  own : ∃ D, OwnB W w.heap.size vb D ∧ piecesB T = D ++ piecesB (T.drop k) ∧ D.length ≤ 11 * k
  ne : vb.ownBlock ≠ some g
  bel : Below w.heap.size w W
  sz : w2.heap.size ≤ W.heap.size
/-- what Save wants of an intake -/
structure SvOk (x : Itk) : Prop where
  clk : ClkOk x.clk
  cl : (encC x.clk).length ≤ 100000
  hl : (encH x.had).length ≤ 6000000
  tk : x.taken.length ≤ 6000
  lt : x.late.length ≤ 6000
  gn : x.gone.length ≤ 6000
  may : ∀ e, e ∈ x.taken ∨ e ∈ x.late → mayB e = true
  name : ∀ g ∈ x.gone, nameB g = true
theorem PtGood.svOk {N : Nat} {x : Itk} (h : PtGood N x) (hN : N ≤ 600) : SvOk x :=
  ⟨h.clk, by have := h.encC_len; omega, h.had_len hN, by have := h.ok.taken; omega, by have := h.ok.late; omega, by have := h.gone; omega, h.ok.may, fun g hg => h.pt.name g hg⟩
set_option maxRecDepth 100000 in
set_option maxHeartbeats 4000000 in
theorem snsave_ok (w : World) (F : Nat → Prop) (bi N : Nat) (x : Itk) (h : ItkAt w F bi N x) (hg : SvOk x) (hN : N ≤ 90000) (n : Int) (h0 : 0 ≤ n) (h1 : n ≤ 1048576) (hmx : MaxAt w) (htab : Lib.TabBelow Tryz.prog w.heap.size w "internal/strconv.uint64pow10" .u64 Lib.pow10Tab) :
    Calls Tryz.prog 7 #[.pointer (some ⟨bi, 0, none⟩), .int .i64 n] w (SvPost w n x) := by
  have HG := Lib.hid hg; have HMX := Lib.hid hmx; have HT := Lib.hid htab
  have HP := Lib.hid (parts_any w F bi N x h (by omega) hmx htab)
  clear h hg hmx htab
  go_enter Tryz.func7, Tryz.ntmps7
  go_wp2_with fail
  with_reducible refine HP.out.mono ?_
  rintro r w1 ⟨vc, vh, vt, vl, vg, rs, rfl, hV, hb1⟩
  obtain ⟨Ac, kc, rfl⟩ := hV.clk.form
  obtain ⟨Ah, kh, rfl⟩ := hV.had.form
  obtain ⟨At, kt, rfl⟩ := ownsRow_form hV.taken
  obtain ⟨Al, kl, rfl⟩ := ownsRow_form hV.late
  obtain ⟨Ag, kg, rfl⟩ := ownsRow_form hV.gone
  obtain rfl := goneR_of hV.rise
  have hgl := rising_lenO hV.rise
  have k1 := HG.out.clk.slack; have k2 := HG.out.clk.idle
  have k3 := HG.out.cl; have k4 := HG.out.hl; have k5 := HG.out.tk; have k6 := HG.out.lt; have k7 := HG.out.gn
  have HW := Lib.hid (snwrite_any w1 Ac Ah At Al Ag _ kc _ kh _ kt _ kl _ kg n x.clk.slack x.clk.idle (encC x.clk) (encH x.had) x.taken x.late (goneR x)
    { clk := hV.clk.byt
      had := hV.had.byt
      tk := Cel.of_own hV.taken
      lt := Cel.of_own hV.late
      gn := Cel.of_own hV.gone
      n0 := by omega
      n1 := by omega
      a0 := by omega
      a1 := by omega
      b0 := by omega
      b1 := by omega
      hc := by omega
      hh := by omega
      ht := by omega
      hl := by omega
      hg := by omega
      tm := fun e he => HG.out.may e (.inl he)
      lm := fun e he => HG.out.may e (.inr he)
      gm := fun p hp => by
        have := HG.out.name p ((hV.rise.2 p).1 hp)
        have := (nameB_len this).2; omega
      max := HMX.out.up hb1
      tab := tab_up HT.out hb1 })
  have HX := Lib.hid (show snT n x.clk.slack x.clk.idle (encC x.clk) (encH x.had) x.taken x.late (goneR x) = snX n x from rfl)
  rw [HX.out] at HW
  have HTL := Lib.hid (show (snX n x).length ≤ 30000000 from by
    unfold snX snT
    have e1 := evsT_len x.taken fun e he => HG.out.may e (.inl he)
    have e2 := evsT_len x.late fun e he => HG.out.may e (.inr he)
    have e3 := namesT_len (goneR x) fun p hp => by
      have := HG.out.name p ((hV.rise.2 p).1 hp)
      have := (nameB_len this).2; omega
    have f1 := lineB_one wSnap n (by omega) (by omega)
    have f2 := lineB_one wSlack x.clk.slack (by omega) (by omega)
    have f3 := lineB_one wIdle x.clk.idle (by omega) (by omega)
    have f4 := lineB_one wClock (encC x.clk).length (by omega) (by omega)
    have f5 := lineB_one wHad (encH x.had).length (by omega) (by omega)
    have f6 := lineB_one wTaken x.taken.length (by omega) (by omega)
    have f7 := lineB_one wLate x.late.length (by omega) (by omega)
    have f8 := lineB_one wGone (goneR x).length (by omega) (by omega)
    simp only [List.length_append]
    simp only [wSnap, wSlack, wIdle, wClock, wHad, wTaken, wLate, wGone, List.length_cons, List.length_nil] at *
    omega)
  have HTP := Lib.hid (show snX n x ≠ [] from by unfold snX snT lineB wSnap; simp)
  have HB1 := Lib.hid hb1
  have hs1 := hb1.size
  clear hV hb1 hgl k1 k2 k3 k4 k5 k6 k7 HX
  go_wp2_with fail
  with_reducible refine HW.out.mono ?_
  rintro r w2 ⟨v2, rfl, ho2, hb2⟩
  obtain ⟨T, hT⟩ : ∃ T, T = snX n x := ⟨_, rfl⟩
  have HXT := Lib.hid (show snX n x = T from hT.symm)
  rw [← hT] at ho2 HTL HTP
  clear hT
  have HO2 := Lib.hid ho2
  have HB2 := Lib.hid (HB1.out.trans (hb2.mono hs1))
  have hs2 := HB2.out.size
  obtain ⟨g, c, rfl⟩ : ∃ g c, v2 = .slice (some ⟨g, 0, none⟩) T.length c := by
    rcases ho2.2 with ⟨e, _⟩ | ⟨g, cap, cur, e, _⟩
    · exact absurd (List.eq_nil_of_length_eq_zero (by
        obtain ⟨A, k, e2⟩ := ho2.form
        rewrite [e] at e2
        exact (congrArg (fun v : Value => match v with | .slice _ m _ => m | _ => 0) e2).symm)) HTP.out
    · exact ⟨g, cap, e⟩
  have HGL := Lib.hid (World.ownsRow.lt ho2 g rfl)
  have HBY := Lib.hid ho2.byt
  have HST := Lib.hid (show SvR w w2 (.slice (some ⟨g, 0, none⟩) T.length c) g T.length c T (.slice (some ⟨g, 0, none⟩) T.length c) (.slice none 0 0) 0 w2 from
    ⟨Nat.zero_le _, ⟨_, rfl, fun _ => rfl⟩, rfl, ⟨[], OwnB.nil _ _, by simp, by simp⟩, by simp [Value.ownBlock], HB2.out, Nat.le_refl _⟩)
  have hcap := ho2.byt.cap; have hmax := ho2.byt.max
  unfold maxLen at hmax
  clear ho2 hb2 HW HP
  go_wp2
  go_loopw [6, 7] (fun tv vb W => ∃ k, SvR w w2 (.slice (some ⟨g, 0, none⟩) T.length c) g T.length c T tv vb k W) (fun tv _ _ => match tv with | .slice _ m _ => m | _ => 0)
  case atStart => exact ⟨0, HST.out⟩
  case round =>
    obtain ⟨k, hR⟩ := hrel
    have HR := Lib.hid hR
    obtain ⟨X, rfl, hX⟩ := hR.tv
    have hkl := hR.le
    clear hR HST
    by_cases hkn : k < T.length
    · obtain rfl := hX hkn
      have t1 : (0 : Int) < ((T.length - k : Nat) : Int) := by omega
      have HBW := Lib.hid (show Byt wr wr.heap.size (some ⟨g, 0, none⟩) T.length c T from (HO2.out.keepB9 fun b hb => by
        injection hb with hb; subst hb; exact HR.out.blk).byt)
      have hm : (T.drop k).length = T.length - k := List.length_drop
      obtain ⟨D, hD1, hD2, hD3⟩ := HR.out.own
      obtain ⟨AD, kD, rfl⟩ := hD1.form
      have HDO := Lib.hid hD1; have HDE := Lib.hid hD2; have HDL := Lib.hid hD3
      have HNE := Lib.hid HR.out.ne
      obtain ⟨m, hmm⟩ : ∃ m, m = T.length - k := ⟨_, rfl⟩
      obtain ⟨z, hzz⟩ : ∃ z, z = c - k := ⟨_, rfl⟩
      obtain ⟨q, hqq⟩ : ∃ q, q = min m 65536 := ⟨_, rfl⟩
      have HQI := Lib.hid (show min (m : Int) 65536 = (q : Int) by omega)
      have HSE := Lib.hid (seal_any wr (some ⟨g, k, none⟩) q z ((T.drop k).take q) (by
        have h9 := HBW.out.cut k q (by omega)
        rw [Nat.zero_add] at h9
        rw [hzz]; exact h9) (by omega))
      have HPS := Lib.hid (show piecesB (T.drop k) = Frm.sealB ((T.drop k).take q) ++ piecesB (T.drop (k + q)) by
        have h9 := piecesB_step (l := T.drop k) (q := q) (by intro e; rw [e] at hm; simp at hm; omega) (by rw [hm, ← hmm]; exact hqq)
        rw [List.drop_drop] at h9; exact h9)
      have HSL := Lib.hid (show (Frm.sealB ((T.drop k).take q)).length = q + 10 by
        rw [Frm.sealB_length, List.length_take, hm]; omega)
      rw [← hmm, ← hzz]
      rw [← hmm] at t1
      have hmz : m ≤ z := by omega
      have hm2 : m ≤ 9223372036854775807 := by omega
      have hq1 : q ≤ m := by omega
      have hq2 : 0 < q := by omega
      have HMM := Lib.hid hmm; have HZZ := Lib.hid hzz
      have htl := HTL.out
      have hsr := HR.out.sz
      have hsw := HR.out.bel.size
      clear hmm hzz hm hqq hD1 hD2 hD3
      go_upto_region 7 with fail
      rw [HQI.out]
      go_wp2_with fail
      with_reducible refine HSE.out.mono ?_
      rintro r w3 ⟨vf, rfl, hof, hb3⟩
      obtain ⟨AF, kF, rfl⟩ := hof.form
      have HBF := Lib.hid hof.byt
      have HD3 := Lib.hid (HDO.out.below hb3 (Nat.le_refl _))
      have HG3 := Lib.hid ((hb3.block g (by have := HGL.out.2; omega)).trans HR.out.blk)
      have HB3 := Lib.hid (HR.out.bel.trans (hb3.mono hsw))
      have hs3 := hb3.size
      have hdl := HDL.out
      clear hof hb3 HSE
      go_wp2_with (at_builtin; refine wpList_app8 rfl (.tmp 34) (.tmp 35) rfl w.heap.size _ D rfl HD3.out w3.heap.size _ _ _ (Frm.sealB ((T.drop k).take q)) rfl HBF.out ?c3 ?c4 ?_)
      case c3 => have := HSL.out; have := HMM.out; omega
      case c4 => omega
      intro v4 w4 ho4 hg4 hv4
      have HNE4 := Lib.hid (show v4.ownBlock ≠ some g from by
        rcases hv4 with e | e
        · rw [e]; exact HNE.out
        · rw [e]; intro h9; injection h9 with h9; have := HGL.out.2; omega)
      have HG4 := Lib.hid ((hg4.block g (by have := HGL.out.2; omega) (fun h9 => HNE.out h9.symm)).trans HG3.out)
      have HB4 := Lib.hid (HB3.out.grown hg4 (by omega) HD3.out.lt)
      have hs4 := HB4.out.size
      have HS4 := Lib.hid (show w2.heap.size ≤ w4.heap.size from by have := hg4.size; omega)
      obtain ⟨A4, k4, rfl⟩ := ho4.formA
      have HR4 := Lib.hid (show ∀ X, (k + q < T.length → X = some ⟨g, k + q, none⟩) → SvR w w2 (.slice (some ⟨g, 0, none⟩) T.length c) g T.length c T (.slice X (m - q) (z - q)) (.slice A4 (D.length + (Frm.sealB ((T.drop k).take q)).length) k4) (k + q) w4 from fun X hX =>
        ⟨by have := HMM.out; omega, ⟨X, by rw [HMM.out, HZZ.out, Nat.sub_sub, Nat.sub_sub], hX⟩, HG4.out, ⟨_, ho4, by rw [HDE.out, HPS.out, List.append_assoc], by rw [List.length_append, HSL.out]; omega⟩, HNE4.out, HB4.out, HS4.out⟩)
      clear ho4 hg4 hv4 HNE4 HG4 HB4 HS4
      by_cases hzq : z = q
      · have HL := Lib.hid (show ∃ k_1, SvR w w2 (.slice (some ⟨g, 0, none⟩) T.length c) g T.length c T (.slice (some ⟨g, k, none⟩) (m - q) 0) (.slice A4 (D.length + (Frm.sealB ((T.drop k).take q)).length) k4) k_1 w4 from ⟨_, by
          have h9 := HR4.out (some ⟨g, k, none⟩) (fun h9 => by have := HMM.out; omega)
          rw [show z - q = 0 by omega] at h9; exact h9⟩)
        go_wp2
        exact ⟨HL.out, by show m - q < m; omega⟩
      · have HL := Lib.hid (show ∃ k_1, SvR w w2 (.slice (some ⟨g, 0, none⟩) T.length c) g T.length c T (.slice (some ⟨g, k + q, none⟩) (m - q) (z - q)) (.slice A4 (D.length + (Frm.sealB ((T.drop k).take q)).length) k4) k_1 w4 from ⟨_, HR4.out (some ⟨g, k + q, none⟩) (fun _ => rfl)⟩)
        go_wp2
        exact ⟨HL.out, by show m - q < m; omega⟩
    · have t1 : T.length - k = 0 := by omega
      obtain ⟨D, hD1, hD2, hD3⟩ := HR.out.own
      obtain ⟨AD, kD, rfl⟩ := hD1.form
      have HF := Lib.hid (show SvPost w n x (.returned (.tuple #[.slice AD D.length kD, .int .i64 0])) wr from ⟨_, rfl, by
        rw [List.drop_of_length_le (by omega), show piecesB [] = [] from rfl, List.append_nil] at hD2
        rw [HXT.out, hD2]; exact hD1, HR.out.bel⟩)
      clear hD1 hD2 hD3
      go_wp2
      go_ret2
      exact HF.out
theorem snsave_any (w : World) (F : Nat → Prop) (bi N : Nat) (x : Itk) (h : ItkAt w F bi N x) (hg : PtGood N x) (hN : N ≤ 600) (n : Int) (h0 : 0 ≤ n) (h1 : n ≤ 1048576) (hmx : MaxAt w) (htab : Lib.TabBelow Tryz.prog w.heap.size w "internal/strconv.uint64pow10" .u64 Lib.pow10Tab) :
    Calls Tryz.prog 7 #[.pointer (some ⟨bi, 0, none⟩), .int .i64 n] w (SvPost w n x) := snsave_ok w F bi N x h (hg.svOk hN) (by omega) n h0 h1 hmx htab
end Go.Proofs.YtdjoaboalknlkaaGreatDoor
