/-
  Layer 6, the document's clock: Hear.
-/
import Derived.Test.YtoljbbmjbgepiaaGreatDoorMRClk3
import Derived.Test.YtoljbbmjbgepiaaGreatDoorMOrdAll
import Derived.Deep.RegionHeld3
import Derived.Deep.DeepCutAuto
namespace Go.Proofs.YtoljbbmjbgepiaaGreatDoor
open Go.RowKit Go.Maps Go.Sort

theorem bl_bb : ∀ a b : List UInt8, Op.bytesLess a b = bytesBefore a b
  | [], [] => rfl
  | [], _ :: _ => rfl
  | _ :: _, [] => rfl
  | x :: a, y :: b => by unfold Op.bytesLess bytesBefore; rw [bl_bb a b]
theorem filter_none {m : Row (Int × Int)} {k : List UInt8} (h : ∀ p ∈ m, p.1 ≠ k) : (m.filter fun p => !(p.1 == k)) = m := by
  rw [List.filter_eq_self]; intro p hp; simp [h p hp]
theorem putB_case (k : List UInt8) (v : Int × Int) : ∀ {m : Row (Int × Int)}, RowUp m → putB k v m = if atS m k then m.set (plcS m k) (k, v) else m.take (plcS m k) ++ (k, v) :: m.drop (plcS m k)
  | [], _ => by simp [putB, insB, atS, plcS]
  | y :: r, h => by
    obtain ⟨h1, h2⟩ := List.pairwise_cons.1 h
    have ih := putB_case k v h2
    have hbl := bl_bb y.1 k
    by_cases hb : bytesBefore y.1 k = true
    · have hne : y.1 ≠ k := fun e => by rw [e, bb_irrefl] at hb; cases hb
      have hnk : bytesBefore k y.1 = false := by
        cases hq : bytesBefore k y.1
        · rfl
        · have := bb_trans hb hq; rw [bb_irrefl] at this; cases this
      have hp : plcS (y :: r) k = plcS r k + 1 := by unfold plcS; rw [List.takeWhile_cons_of_pos (by rw [hbl, hb])]; simp
      have ha : atS (y :: r) k = atS r k := by unfold atS; rw [hp]; simp
      have e : putB k v (y :: r) = y :: putB k v r := by
        unfold putB
        rw [List.filter_cons_of_pos (by simp [hne]), insB, if_neg (by simp [hnk])]
      rw [e, ih, ha, hp]
      split <;> rfl
    · have hb' : bytesBefore y.1 k = false := by simpa using hb
      have hp : plcS (y :: r) k = 0 := by unfold plcS; rw [List.takeWhile_cons_of_neg (by rw [hbl, hb']; simp)]; rfl
      by_cases e : y.1 = k
      · have ha : atS (y :: r) k = true := by unfold atS; rw [hp]; simp [e]
        have hr : ∀ p ∈ r, p.1 ≠ k := fun p hp he => by have := h1 p hp; rw [he, e, bb_irrefl] at this; cases this
        rw [ha, hp, if_pos rfl]
        unfold putB
        rw [List.filter_cons_of_neg (by simp [e]), filter_none hr]
        cases r with
        | nil => rfl
        | cons z t => rw [insB, if_pos (by have := h1 z (by simp); rw [e] at this; exact this)]; rfl
      · have ha : atS (y :: r) k = false := by unfold atS; rw [hp]; simp [e]
        have hky : bytesBefore k y.1 = true := by
          rcases bb_total e with h' | h'
          · exact absurd h' hb
          · exact h'
        have hr : ∀ p ∈ y :: r, p.1 ≠ k := fun p hp he => by
          rcases List.mem_cons.1 hp with rfl | hp
          · exact e he
          · have := bb_trans hky (h1 p hp); rw [he, bb_irrefl] at this; cases this
        rw [ha, hp]
        unfold putB
        rw [filter_none hr, insB, if_pos hky]
        rfl
theorem getB_case {m : Row (Int × Int)} (h : RowUp m) (k : List UInt8) : (atS m k = false → getB m k = none) ∧ (atS m k = true → ∃ hk : plcS m k < m.length, m[plcS m k].1 = k ∧ getB m k = some m[plcS m k].2) := by
  constructor
  · intro ha
    cases hg : getB m k with
    | none => rfl
    | some v =>
      have e := putB_case k v h
      rw [ha] at e
      have hm := getB_mem hg
      have h1 := putB_rising h k v
      rw [e] at h1
      simp only [Bool.false_eq_true, if_false] at h1
      have h3 : (k, v) ∈ m.take (plcS m k) ++ m.drop (plcS m k) := by rw [List.take_append_drop]; exact hm
      obtain ⟨u1, u2, u3⟩ := List.pairwise_append.1 h1
      rcases List.mem_append.1 h3 with h4 | h4
      · have := u3 _ h4 (k, v) (by simp); rw [bb_irrefl] at this; cases this
      · have := (List.pairwise_cons.1 u2).1 _ h4; rw [bb_irrefl] at this; cases this
  · intro ha
    have ha' := ha
    unfold atS at ha
    rcases Nat.lt_or_ge (plcS m k) m.length with hlt | hge
    · rw [List.getElem?_eq_getElem hlt] at ha
      have e : m[plcS m k].1 = k := by simpa using ha
      refine ⟨hlt, e, ?_⟩
      have hmem : (k, m[plcS m k].2) ∈ m := by
        have := List.getElem_mem hlt
        have e2 : m[plcS m k] = (k, m[plcS m k].2) := Prod.ext e rfl
        rw [e2] at this
        exact this
      unfold getB
      cases hf : m.find? (fun p => p.1 == k) with
      | none =>
        have := List.find?_eq_none.1 hf _ hmem
        simp at this
      | some p =>
        have h1 := List.find?_some hf
        have h2 := List.mem_of_find?_eq_some hf
        have := h.key h2 hmem (by simpa using h1)
        rw [this]; rfl
    · rw [List.getElem?_eq_none hge] at ha; cases ha

theorem srcCells_dropN (l : Row (Int × Int)) (m : Nat) : (srcCells l).drop (m * 3) = srcCells (l.drop m) := by
  induction l generalizing m with
  | nil => simp [srcCells]
  | cons e l ih =>
    cases m with
    | zero => simp
    | succ m =>
      have h8 : (srcOne e).length = 3 := rfl
      have e1 : srcCells (e :: l) = srcOne e ++ srcCells l := rfl
      rw [e1, List.drop_succ_cons, ← ih m, show (m + 1) * 3 = (srcOne e).length + m * 3 by omega, List.drop_append, List.drop_of_length_le (by omega), Nat.add_sub_cancel_left]; rfl
theorem srcCells_takeN (l : Row (Int × Int)) (m : Nat) : (srcCells l).take (m * 3) = srcCells (l.take m) := by
  induction l generalizing m with
  | nil => simp [srcCells]
  | cons e l ih =>
    cases m with
    | zero => simp [srcCells]
    | succ m =>
      have h8 : (srcOne e).length = 3 := rfl
      have e1 : srcCells (e :: l) = srcOne e ++ srcCells l := rfl
      have e2 : srcCells ((e :: l).take (m + 1)) = srcOne e ++ srcCells (l.take m) := rfl
      rw [e1, e2, ← ih m, show (m + 1) * 3 = (srcOne e).length + m * 3 by omega, List.take_append, List.take_of_length_le (by omega), Nat.add_sub_cancel_left]
theorem src_info : (Tryz.prog.info? 142).map (fun i => (i.zero, i.size, i.bytes)) = some (some (.agg #[.string ByteArray.empty, .int .i64 0, .int .i64 0]), 3, 32) := by kernel_rfl
theorem srcCells_one (l : Row (Int × Int)) : ∀ u ∈ srcCells l, u.oneCell' = true := fun u hu => by
  unfold srcCells at hu
  obtain ⟨p, _, hp⟩ := List.mem_flatMap.1 hu
  simp only [srcOne, List.mem_cons, List.not_mem_nil, or_false] at hp
  rcases hp with rfl | rfl | rfl <;> rfl
theorem srcCells_set (l : Row (Int × Int)) (i : Nat) (y : List UInt8 × Int × Int) (hi : i < l.length) : srcCells (l.set i y) =
    (((srcCells l).set (i * 3) (.string ⟨y.1.toArray⟩)).set (i * 3 + 1) (.int .i64 y.2.1)).set (i * 3 + 2) (.int .i64 y.2.2) := by
  induction l generalizing i with
  | nil => simp at hi
  | cons e l ih =>
    cases i with
    | zero => simp [srcCells, srcOne]
    | succ i =>
      have ih' := ih i (by simpa using hi)
      have h8 : (srcOne e).length = 3 := rfl
      have key : ∀ (R : List Value) (j : Nat) (u : Value), (srcOne e ++ R).set ((i + 1) * 3 + j) u = srcOne e ++ R.set (i * 3 + j) u := fun R j u => by
        rw [List.set_append_right _ _ (by rw [h8]; omega), h8, show (i + 1) * 3 + j - 3 = i * 3 + j by omega]
      have key0 : ∀ (R : List Value) (u : Value), (srcOne e ++ R).set ((i + 1) * 3) u = srcOne e ++ R.set (i * 3) u := fun R u => key R 0 u
      have e1 : srcCells (e :: l) = srcOne e ++ srcCells l := rfl
      have e2 : srcCells ((e :: l).set (i + 1) y) = srcOne e ++ srcCells (l.set i y) := rfl
      rw [e2, e1, ih', key0, key, key]
/-- a slice of the call's own that holds these sources -/
def OwnS (w : World) (base : Nat) (v : Value) (l : Row (Int × Int)) : Prop := w.ownsRow base 142 3 v l.length (srcCells l)
def setSrc (w : World) (g o : Nat) (y : List UInt8 × Int × Int) : World :=
  ((w.setCell ⟨g, o, none⟩ (.string ⟨y.1.toArray⟩)).setCell ⟨g, o + 1, none⟩ (.int .i64 y.2.1)).setCell ⟨g, o + 2, none⟩ (.int .i64 y.2.2)
theorem OwnS.set {w : World} {base g n cap : Nat} {l : Row (Int × Int)} (h : OwnS w base (.slice (some ⟨g, 0, none⟩) n cap) l) (hn : n = l.length) (i : Nat) (hi : i < l.length) (y : List UInt8 × Int × Int) :
    OwnS (setSrc w g (i * 3) y) base (.slice (some ⟨g, 0, none⟩) n cap) (l.set i y) ∧ w.grownBy (setSrc w g (i * 3) y) (some g) := by
  subst hn
  unfold OwnS at h ⊢
  rw [srcCells_set l i y hi, List.length_set]
  obtain ⟨h0, g0⟩ := World.ownsRow.stored h (i * 3) (.string ⟨y.1.toArray⟩)
  obtain ⟨h1, g1⟩ := World.ownsRow.stored h0 (i * 3 + 1) (.int .i64 y.2.1)
  obtain ⟨h2, g2⟩ := World.ownsRow.stored h1 (i * 3 + 2) (.int .i64 y.2.2)
  exact ⟨h2, (g0.trans g1).trans g2⟩
theorem OwnS.form {w : World} {base : Nat} {v : Value} {l : Row (Int × Int)} (h : OwnS w base v l) : ∃ B c, v = .slice B l.length c := ownsRow_form h
theorem OwnS.drew {w : World} {base : Nat} {v : Value} {l : Row (Int × Int)} (h : OwnS w base v l) : OwnS w.drew base v l := h
/-- the clock's new sources -/
def newS (l : Row (Int × Int)) (name : List UInt8) (at_ now : Int) : Row (Int × Int) := putB name (max ((getB l name).getD (0, 0)).1 at_, now) l
/-- behind the new row: it lies in a block of the call's own, and the clock is as it was -/
def HearMid (w : World) (bc N : Nat) (S : Nat → Prop) (c : Clk) (l : Row (Int × Int)) (v : Value) (wr : World) : Prop := OwnS wr w.heap.size v l ∧ RClk wr bc S N c ∧ Keep (· = bc) w wr
def RHearPost (w : World) (bc N : Nat) (S : Nat → Prop) (b : Bool) (c : Clk) (e : Ending) (w' : World) : Prop :=
  e = .returned (.bool b) ∧ ∃ S', RClk w' bc S' (N + 1) c ∧ Keep (· = bc) w w' ∧ (∀ q, S' q → S q ∨ (w.heap.size ≤ q ∧ q < w'.heap.size)) ∧ ∀ q, S q → S' q

set_option maxRecDepth 100000 in
set_option maxHeartbeats 4000000 in
theorem rhear_any (w : World) (bc : Nat) (S : Nat → Prop) (N : Nat) (c : Clk) (h : RClk w bc S N c) (hN : N ≤ 90000) (name : List UInt8) (hnm : name.length ≤ 1000000000) (at_ now : Int) :
    Calls Tryz.prog 73 #[.pointer (some ⟨bc, 0, none⟩), .string ⟨name.toArray⟩, .int .i64 at_, .int .i64 now] w (RHearPost w bc N S ((c.tick now).hears name at_) (c.hear name at_ now)) := by
  have HC := Lib.hid h; clear h
  have hbcw := HC.out.lt
  have hnsb := HC.out.ns
  have HLOW := Lib.hid HC.out.low
  have HHR := Lib.hid (show c.hear name at_ now = if (c.tick now).hears name at_ then (c.tick now).heard name at_ else c.tick now from rfl)
  go_enter Tryz.func73, Tryz.ntmps73
  go_wp2_with fail
  refine (rtick_any w bc S N c HC.out (by omega) now).mono ?_
  rintro r w1 ⟨rfl, hc1, hk1⟩
  have HC1 := Lib.hid hc1; have HK1 := Lib.hid hk1
  clear hc1 hk1 HC
  generalize c.tick now = d at *
  have HHE := Lib.hid (show d.hears name at_ = (nameB name && decide (0 ≤ at_) && decide (at_ ≤ 1099511627776) && decide (d.mark < at_)) from rfl)
  have HNO := Lib.hid (show d.hears name at_ = false → RHearPost w bc N S (d.hears name at_) (c.hear name at_ now) (.returned (.bool false)) w1 from fun hf => by
    rw [HHR.out, hf]
    exact ⟨rfl, S, HC1.out.wide (fun _ h => h) hnsb HC1.out.low (by omega), HK1.out, fun q hq => .inl hq, fun q hq => hq⟩)
  obtain ⟨A, n, cp, hblk, hsrc, hvw⟩ := HC1.out.view
  obtain ⟨c0, c1, c2, c3, c4⟩ := RCells.of hblk
  have HSRC := Lib.hid hsrc
  clear hblk hsrc hvw
  go_wp2_with fail
  refine (rn06 w1 name hnm).mono ?_
  rintro r w2 ⟨rfl, rfl⟩
  generalize nameB name = nb at *
  cases nb
  · have HR := Lib.hid (HNO.out (by rw [HHE.out]; rfl))
    go_wp2
    go_ret
    exact HR.out
  by_cases ha0 : at_ < 0
  · have HR := Lib.hid (HNO.out (by rw [HHE.out]; simp; omega))
    go_wp2
    go_ret
    exact HR.out
  by_cases ha1 : 1099511627776 < at_
  · have HR := Lib.hid (HNO.out (by rw [HHE.out]; simp; omega))
    go_wp2
    go_ret
    exact HR.out
  by_cases ha2 : at_ ≤ d.mark
  · have HR := Lib.hid (HNO.out (by rw [HHE.out]; simp; omega))
    go_wp2
    go_ret
    exact HR.out
  have HYES := Lib.hid (show d.hears name at_ = true by rw [HHE.out]; simp; omega)
  have HCH := Lib.hid (show c.hear name at_ now = ({ d with src := newS d.src name at_ d.now } : Clk).rise by rw [HHR.out, HYES.out]; rfl)
  clear HNO HHE HHR
  go_wp2_with fail
  refine (rplc_any w1 bc S N d HC1.out (by omega) name).mono ?_
  rintro r w2 ⟨rfl, q2, rfl⟩
  have HC2 := Lib.hid (show RClk (w1.drewN q2) bc S N d from HC1.out.stay ((Keep.refl (fun _ => False) w1).drewN q2) (fun _ h => h.elim))
  have HK2 := Lib.hid (show Keep (· = bc) w (w1.drewN q2) from HK1.out.drewN q2)
  have HS2 := Lib.hid (show Srcs (w1.drewN q2) w1.heap.size A n cp d.src from Cel.drewN HSRC.out q2)
  have d2 : (w1.drewN q2).cell? ⟨bc, 2, none⟩ = some (.int .i64 d.now) := c2
  have d4 : (w1.drewN q2).cell? ⟨bc, 4, none⟩ = some (.slice A n cp) := c4
  have hs2 : (w1.drewN q2).heap.size = w1.heap.size := rfl
  rw [← hs2] at HS2
  clear c0 c1 c2 c3 c4 HC1 HK1 HSRC hs2
  generalize w1.drewN q2 = w2 at *
  obtain ⟨i0, hi, hz0, hz1, hz2⟩ := info_parts src_info
  have HI := Lib.hid hi; have HZ0 := Lib.hid hz0; have HZ1 := Lib.hid hz1; have HZ2 := Lib.hid hz2
  have HNL := Lib.hid HS2.out.len
  have hn9 : n ≤ 90000 := by have := HC2.out.len; have := HNL.out; omega
  have hsw := HK2.out.size
  clear hi hz0 hz1 hz2
  have hbA : Below w2.heap.size w2 (w2.alloc (.cells #[] 142)) := (Below.refl _ _).alloc (Nat.le_refl _) _
  have hbc2 := HC2.out.lt
  have a4 : (w2.alloc (.cells #[] 142)).cell? ⟨bc, 4, none⟩ = some (.slice A n cp) := (hbA.cell (p := ⟨bc, 4, none⟩) hbc2).trans d4
  have HOA := Lib.hid (show (w2.alloc (.cells #[] 142)).ownsRow w.heap.size 142 3 (.slice (some ⟨w2.heap.size, 0, none⟩) 0 0) 0 [] from World.ownsRow_lit w2 #[] 0 hsw (by simp [maxLen]) rfl)
  have HSA := Lib.hid (show Cel (w2.alloc (.cells #[] 142)) w2.heap.size 3 A n cp (srcCells d.src) from Cel.below HS2.out hbA)
  have HBA := Lib.hid hbA
  clear hbA
  go_upto_if 46 with (at_builtin; refine wpList_app (P := Tryz.prog) rfl (.tmp 40) (.tmp 44) 102 rfl 142 i0 _ 3 32 Tryz.underlying102 HI.out HZ0.out HZ1.out HZ2.out rfl (by decide) w.heap.size (.slice (some ⟨w2.heap.size, 0, none⟩) 0 0) 0 [] rfl HOA.out w2.heap.size _ _ _ (srcCells d.src) rfl HSA.out (srcCells_one _) (by unfold maxLen; omega) (by omega) (by simp; omega) ?_; intro v5 w5 ho5 hg5 hv5)
  have HG5 := Lib.hid (show w2.grownBy w5 none from (World.grownBy_alloc w2 _ none).andThen hg5 (fun j hj => by simp [Value.ownBlock] at hj; left; omega))
  have HC5 := Lib.hid (show RClk w5 bc S N d from HC2.out.stay (Keep.of_grown (F := fun _ => False) HG5.out (fun k hk => by cases hk)) (fun _ h => h.elim))
  have HK5 := Lib.hid (show Keep (· = bc) w w5 from HK2.out.trans (G := fun _ => False) (Keep.of_grown HG5.out (fun k hk => by cases hk)) (fun _ _ h => h.elim))
  have HS5 := Lib.hid (show Srcs w5 w2.heap.size A n cp d.src from (Cel.keep HS2.out fun p hp => World.cell?_of_block (w := w2) (HG5.out.block p.block hp (by simp))))
  have HO5 := Lib.hid (show OwnS w5 w.heap.size v5 d.src by
    unfold OwnS; rw [HNL.out]; have := ho5; rw [Nat.zero_add] at this; exact this)
  have e2 : w5.cell? ⟨bc, 2, none⟩ = some (.int .i64 d.now) := (World.cell?_of_block (w := w2) (HG5.out.block bc hbc2 (by simp))).trans d2
  have e4 : w5.cell? ⟨bc, 4, none⟩ = some (.slice A n cp) := (World.cell?_of_block (w := w2) (HG5.out.block bc hbc2 (by simp))).trans d4
  have hs5 := HG5.out.size
  have hbc5 : bc < w5.heap.size := by omega
  clear ho5 hg5 hv5 a4 d2 d4 HOA HSA HBA
  obtain ⟨HGN, HGY⟩ := getB_case HC2.out.ok.rising name
  have HPC := Lib.hid (fun v => putB_case name v HC2.out.ok.rising)
  have HGN := Lib.hid HGN; have HGY := Lib.hid HGY
  have hpl : plcS d.src name ≤ n := by rw [← HNL.out]; exact (List.takeWhile_prefix _).length_le
  go_cut [11] (fun v wr => HearMid w bc N S d (newS d.src name at_ d.now) v wr)
  case first =>
    generalize hat : atS d.src name = ab at *
    cases ab
    · have HNE := Lib.hid (show newS d.src name at_ d.now = d.src.take (plcS d.src name) ++ (name, (at_, d.now)) :: d.src.drop (plcS d.src name) by
        unfold newS
        rw [HGN.out rfl, HPC.out, if_neg (by simp)]
        rw [show max (none.getD ((0 : Int), (0 : Int))).1 at_ = at_ by simp; omega])
      clear HGN HGY HPC hat
      generalize plcS d.src name = kk at *
      have hkc : kk ≤ cp := by have := Cel.cap HS5.out; omega
      have hki : (kk : Int) ≤ n := by omega
      go_wp2
      obtain ⟨O1, hO1⟩ : ∃ O1 : Obj, O1 = .cells #[.string ⟨name.toArray⟩, .int .i64 at_, .int .i64 d.now] 142 := ⟨_, rfl⟩
      have HWA := Lib.hid (show Below w5.heap.size w5 ((w5.alloc (.cells #[] 142)).drew) from below_drew ((Below.refl _ _).alloc (Nat.le_refl _) _))
      have HWB := Lib.hid (show Below w5.heap.size w5 (((w5.alloc (.cells #[] 142)).alloc (.cells #[.string ⟨name.toArray⟩, .int .i64 at_, .int .i64 d.now] 142)).drew) from below_drew (((Below.refl _ _).alloc (Nat.le_refl _) _).alloc (by simp) _))
      have HWC := Lib.hid (show Below w5.heap.size w5 (((w5.alloc (.cells #[.string ⟨name.toArray⟩, .int .i64 at_, .int .i64 d.now] 142)).alloc (.cells #[] 142)).drew) from below_drew (((Below.refl _ _).alloc (Nat.le_refl _) _).alloc (by simp) _))
      have HSK := Lib.hid (show ∀ W, Below w5.heap.size w5 W → Cel W w2.heap.size 3 A kk cp (srcCells (d.src.take kk)) from fun W hW => by
        rw [← srcCells_takeN]; exact Cel.upto (Cel.keep HS5.out fun p hp => hW.cell (by omega)) kk hpl)
      have HSD := Lib.hid (show ∀ W, Below w5.heap.size w5 W → Cel W w2.heap.size 3 (if cp = kk then A else A.map (·.add (kk * 3))) (n - kk) (cp - kk) (srcCells (d.src.drop kk)) from fun W hW => by
        rw [← srcCells_dropN]; exact Cel.from_ (Cel.keep HS5.out fun p hp => hW.cell (by omega)) kk hpl)
      have HSS := Lib.hid (show ∀ W, Below w5.heap.size w5 W → (W.cell? ⟨bc, 2, none⟩ = some (.int .i64 d.now) ∧ W.cell? ⟨bc, 4, none⟩ = some (.slice A n cp)) from fun W hW => ⟨(hW.cell (p := ⟨bc, 2, none⟩) hbc5).trans e2, (hW.cell (p := ⟨bc, 4, none⟩) hbc5).trans e4⟩)
      have HOA := Lib.hid (show ((w5.alloc (.cells #[] 142)).drew).ownsRow w.heap.size 142 3 (.slice (some ⟨w5.heap.size, 0, none⟩) 0 0) 0 [] from World.ownsRow_lit w5 #[] 0 (by omega) (by simp [maxLen]) rfl)
      have HOB := Lib.hid (show (((w5.alloc (.cells #[] 142)).alloc (.cells #[.string ⟨name.toArray⟩, .int .i64 at_, .int .i64 d.now] 142)).drew).ownsRow w.heap.size 142 3 (.slice (some ⟨w5.heap.size, 0, none⟩) 0 0) 0 [] from World.ownsRow.alloc HOA.out _)
      have HOC := Lib.hid (show (((w5.alloc (.cells #[.string ⟨name.toArray⟩, .int .i64 at_, .int .i64 d.now] 142)).alloc (.cells #[] 142)).drew).ownsRow w.heap.size 142 3 (.slice (some ⟨w5.heap.size + 1, 0, none⟩) 0 0) 0 [] from by
        have := World.ownsRow_lit (w5.alloc (.cells #[.string ⟨name.toArray⟩, .int .i64 at_, .int .i64 d.now] 142)) (base := w.heap.size) (e := 142) (size := 3) #[] 0 (by simp; omega) (by simp [maxLen]) rfl
        rw [show (w5.alloc (.cells #[.string ⟨name.toArray⟩, .int .i64 at_, .int .i64 d.now] 142)).heap.size = w5.heap.size + 1 by simp] at this
        exact this)
      have HNB := Lib.hid (show Cel (((w5.alloc (.cells #[] 142)).alloc (.cells #[.string ⟨name.toArray⟩, .int .i64 at_, .int .i64 d.now] 142)).drew) (w5.heap.size + 2) 3 (some ⟨w5.heap.size + 1, 0, none⟩) 1 1 (srcOne (name, (at_, d.now))) from by
        have := Cel.new (size := 3) (n := 1) (w5.alloc (.cells #[] 142)) #[.string ⟨name.toArray⟩, .int .i64 at_, .int .i64 d.now] 142 (by unfold maxLen; omega) rfl
        rw [show (w5.alloc (.cells #[] 142)).heap.size = w5.heap.size + 1 by simp] at this
        exact Cel.drewN this 1)
      have HNC := Lib.hid (show Cel (((w5.alloc (.cells #[.string ⟨name.toArray⟩, .int .i64 at_, .int .i64 d.now] 142)).alloc (.cells #[] 142)).drew) (w5.heap.size + 1) 3 (some ⟨w5.heap.size, 0, none⟩) 1 1 (srcOne (name, (at_, d.now))) from by
        have := Cel.new (size := 3) (n := 1) w5 #[.string ⟨name.toArray⟩, .int .i64 at_, .int .i64 d.now] 142 (by unfold maxLen; omega) rfl
        exact Cel.drewN (Cel.alloc this (by simp) _) 1)
      clear hO1
      go_region_held3 (fun wx => wx.cell? ⟨bc, 2, none⟩ = some (.int .i64 d.now) ∧ wx.cell? ⟨bc, 4, none⟩ = some (.slice A n cp)) (first | assumption | go_keep) (first
        | (refine step_app rfl (.tmp 63) (.tmp 69) 102 rfl 142 i0 _ 3 32 Tryz.underlying102 HI.out HZ0.out HZ1.out HZ2.out rfl (by decide) w.heap.size (.slice (some ⟨w5.heap.size, 0, none⟩) 0 0) 0 [] rfl HOA.out w2.heap.size _ _ _ (srcCells (d.src.take kk)) rfl (HSK.out _ HWA.out) (srcCells_one _) (by unfold maxLen; omega) (by omega) (by simp; omega) ?_; intro v6 w6 ho6 hg6 hv6; have HO6 := Lib.hid ho6; have HB6 := Lib.hid (show Below w5.heap.size w5 w6 from Below.grown HWA.out hg6 HWA.out.size (fun k hk => by simp [Value.ownBlock] at hk; omega)); have hS6 := HSS.out w6 HB6.out; have HP6 := Lib.hid (show ∀ k, v6.ownBlock = some k → w5.heap.size ≤ k ∨ w5.heap.size ≤ k from fun k hk => by rcases hv6 with h | h <;> (rw [h] at hk; simp [Value.ownBlock] at hk; omega)); clear ho6 hg6 hv6)
        | (refine step_app rfl (.tmp 63) (.tmp 69) 102 rfl 142 i0 _ 3 32 Tryz.underlying102 HI.out HZ0.out HZ1.out HZ2.out rfl (by decide) w.heap.size (.slice (some ⟨w5.heap.size, 0, none⟩) 0 0) 0 [] rfl HOB.out w2.heap.size _ _ _ (srcCells (d.src.take kk)) rfl (HSK.out _ HWB.out) (srcCells_one _) (by unfold maxLen; omega) (by omega) (by simp; omega) ?_; intro v6 w6 ho6 hg6 hv6; have HO6 := Lib.hid ho6; have HB6 := Lib.hid (show Below w5.heap.size w5 w6 from Below.grown HWB.out hg6 HWB.out.size (fun k hk => by simp [Value.ownBlock] at hk; omega)); have hS6 := HSS.out w6 HB6.out; have HN6 := Lib.hid (show Cel w6 (w5.heap.size + 2) 3 (some ⟨w5.heap.size + 1, 0, none⟩) 1 1 (srcOne (name, (at_, d.now))) from Cel.stay (S := fun q => q = w5.heap.size + 1) HNB.out (fun a ha _ => by injection ha with ha; rw [← ha]) (Nat.le_refl _) (fun b off hb _ => hg6.cell_far ⟨b, off, none⟩ (by simp; omega) (by simp [Value.ownBlock]; omega))); have HP6 := Lib.hid (show ∀ k, v6.ownBlock = some k → w5.heap.size ≤ k ∨ w5.heap.size ≤ k from fun k hk => by rcases hv6 with h | h <;> (rw [h] at hk; simp [Value.ownBlock] at hk; omega)); clear ho6 hg6 hv6)
        | (refine step_app rfl (.tmp 63) (.tmp 69) 102 rfl 142 i0 _ 3 32 Tryz.underlying102 HI.out HZ0.out HZ1.out HZ2.out rfl (by decide) w.heap.size (.slice (some ⟨w5.heap.size + 1, 0, none⟩) 0 0) 0 [] rfl HOC.out w2.heap.size _ _ _ (srcCells (d.src.take kk)) rfl (HSK.out _ HWC.out) (srcCells_one _) (by unfold maxLen; omega) (by omega) (by simp; omega) ?_; intro v6 w6 ho6 hg6 hv6; have HO6 := Lib.hid ho6; have HB6 := Lib.hid (show Below w5.heap.size w5 w6 from Below.grown HWC.out hg6 HWC.out.size (fun k hk => by simp [Value.ownBlock] at hk; omega)); have hS6 := HSS.out w6 HB6.out; have HN6 := Lib.hid (show Cel w6 (w5.heap.size + 1) 3 (some ⟨w5.heap.size, 0, none⟩) 1 1 (srcOne (name, (at_, d.now))) from Cel.stay (S := fun q => q = w5.heap.size) HNC.out (fun a ha _ => by injection ha with ha; rw [← ha]) (Nat.le_refl _) (fun b off hb _ => hg6.cell_far ⟨b, off, none⟩ (by simp; omega) (by simp [Value.ownBlock]; omega))); have HP6 := Lib.hid (show ∀ k, v6.ownBlock = some k → w5.heap.size ≤ k ∨ w5.heap.size ≤ k from fun k hk => by rcases hv6 with h | h <;> (rw [h] at hk; simp [Value.ownBlock] at hk; omega)); clear ho6 hg6 hv6)
        | (refine step_app rfl (.tmp 70) (.tmp 78) 102 rfl 142 i0 _ 3 32 Tryz.underlying102 HI.out HZ0.out HZ1.out HZ2.out rfl (by decide) w.heap.size v6 (0 + kk) ([] ++ srcCells (d.src.take kk)) rfl HO6.out _ _ _ _ (srcOne (name, (at_, d.now))) rfl HN6.out (by simp [srcOne, Value.oneCell']) (by unfold maxLen; omega) (by omega) (by have := HB6.out.size; omega) ?_; intro v7 w7 ho7 hg7 hv7; have HO7 := Lib.hid ho7; have HB7 := Lib.hid (show Below w5.heap.size w5 w7 from Below.grown HB6.out hg7 (by have := HB6.out.size; first | omega | (simp; omega)) (fun k hk => by rcases HP6.out k hk with h | h <;> omega)); have hS7 := HSS.out w7 HB7.out; have HP7 := Lib.hid (show ∀ k, v7.ownBlock = some k → w5.heap.size ≤ k ∨ w5.heap.size ≤ k from fun k hk => by rcases hv7 with h | h; exact HP6.out k (by rw [← h]; exact hk); (rw [h] at hk; have := HB6.out.size; simp at hk; omega)); clear ho7 hg7 hv7)
        | (refine step_app rfl (.tmp 70) (.tmp 78) 102 rfl 142 i0 _ 3 32 Tryz.underlying102 HI.out HZ0.out HZ1.out HZ2.out rfl (by decide) w.heap.size v6 (0 + kk) ([] ++ srcCells (d.src.take kk)) rfl (World.ownsRow.alloc HO6.out _) (w6.heap.size + 1) _ _ _ (srcOne (name, (at_, d.now))) rfl (Cel.new (size := 3) (n := 1) w6 #[.string ⟨name.toArray⟩, .int .i64 at_, .int .i64 d.now] _ (by unfold maxLen; omega) rfl) (by simp [srcOne, Value.oneCell']) (by unfold maxLen; omega) (by omega) (by have := HB6.out.size; simp; omega) ?_; intro v7 w7 ho7 hg7 hv7; have HO7 := Lib.hid ho7; have HB7 := Lib.hid (show Below w5.heap.size w5 w7 from Below.grown (HB6.out.alloc HB6.out.size _) hg7 (by have := HB6.out.size; first | omega | (simp; omega)) (fun k hk => by rcases HP6.out k hk with h | h <;> omega)); have hS7 := HSS.out w7 HB7.out; have HP7 := Lib.hid (show ∀ k, v7.ownBlock = some k → w5.heap.size ≤ k ∨ w5.heap.size ≤ k from fun k hk => by rcases hv7 with h | h; exact HP6.out k (by rw [← h]; exact hk); (rw [h] at hk; have := HB6.out.size; simp at hk; omega)); clear ho7 hg7 hv7)
        | (refine step_app rfl (.tmp 79) (.tmp 85) 102 rfl 142 i0 _ 3 32 Tryz.underlying102 HI.out HZ0.out HZ1.out HZ2.out rfl (by decide) w.heap.size v7 (0 + kk + 1) ([] ++ srcCells (d.src.take kk) ++ srcOne (name, (at_, d.now))) rfl HO7.out w2.heap.size _ _ _ (srcCells (d.src.drop kk)) rfl (HSD.out _ HB7.out) (srcCells_one _) (by unfold maxLen; omega) (by omega) (by have := HB7.out.size; omega) ?_; intro v8 w8 ho8 hg8 hv8; have HO8 := Lib.hid ho8; have HB8 := Lib.hid (show Below w5.heap.size w5 w8 from Below.grown HB7.out hg8 (by have := HB7.out.size; omega) (fun k hk => by rcases HP7.out k hk with h | h <;> omega)); have hS8 := HSS.out w8 HB8.out; clear ho8 hg8 hv8))
      all_goals
        have HMID := Lib.hid (show HearMid w bc N S d (newS d.src name at_ d.now) v8 w8 from ⟨by
            unfold OwnS
            rw [HNE.out, srcCells_append, List.length_append, List.length_cons, List.length_take, List.length_drop, HNL.out]
            have := HO8.out
            rw [show min kk n + (n - kk + 1) = 0 + kk + 1 + (n - kk) by omega]
            have e : srcCells (d.src.take kk) ++ srcCells ((name, (at_, d.now)) :: d.src.drop kk) = [] ++ srcCells (d.src.take kk) ++ srcOne (name, (at_, d.now)) ++ srcCells (d.src.drop kk) := by
              rw [show srcCells ((name, (at_, d.now)) :: d.src.drop kk) = srcOne (name, (at_, d.now)) ++ srcCells (d.src.drop kk) from rfl]; simp
            rw [e]; exact this, HC5.out.stay (Keep.of_below (F := fun _ => False) HB8.out) (fun _ h => h.elim), HK5.out.trans (G := fun _ => False) (Keep.of_below HB8.out) (fun _ _ h => h.elim)⟩)
        generalize (if cp = kk then A else Option.map (fun x => x.add (kk * 3)) A) = A1 at *
        go_wp2_with fail
        go_meet
        exact HMID.out
    · obtain ⟨hlt, hkey, hget⟩ := HGY.out rfl
      have HNE := Lib.hid (show newS d.src name at_ d.now = d.src.set (plcS d.src name) (name, (max d.src[plcS d.src name].2.1 at_, d.now)) by
        unfold newS
        rw [hget, HPC.out, if_pos rfl]
        rfl)
      clear hget hkey HGN HGY HPC hat
      obtain ⟨g, cap, hv⟩ : ∃ g cap, v5 = .slice (some ⟨g, 0, none⟩) d.src.length cap := by
        rcases HO5.out.2 with ⟨_, h'⟩ | ⟨g, cap, cur, e, _⟩
        · omega
        · exact ⟨g, cap, e⟩
      rw [HNL.out] at hv
      subst hv
      have ho5 := HO5.out
      unfold OwnS at ho5
      rw [HNL.out] at ho5
      have hEv : Srcs w5 w5.heap.size (some ⟨g, 0, none⟩) n cap d.src := Cel.of_own ho5
      obtain ⟨b1, o1, q1, _, e5, e6, e7⟩ := hEv.at_ _ hlt
      injection q1 with q1; injection q1 with q11 q12; subst q11 q12
      rw [Nat.zero_add] at e5 e6 e7
      have hgw : w.heap.size ≤ g := (World.ownsRow.lt ho5 g rfl).1
      have hgb : g ≠ bc := by omega
      have hfr : ∀ o, w5.frozen? ⟨g, o, none⟩ = false := fun o => World.ownsRow.frozenAt ho5 o
      have HSX := Lib.hid (HO5.out.set HNL.out.symm (plcS d.src name) hlt (name, (max d.src[plcS d.src name].2.1 at_, d.now)))
      have hnsg : Hid (∀ x, S x → x ≠ g) := fun x hx e => by
        have := HLOW.out x hx; omega
      have HMID := Lib.hid (show HearMid w bc N S d (newS d.src name at_ d.now) (.slice (some ⟨g, 0, none⟩) n cap) (setSrc w5 g (plcS d.src name * 3) (name, (max d.src[plcS d.src name].2.1 at_, d.now))).drew from by
        refine ⟨?_, ?_, ?_⟩
        · rw [HNE.out]; exact HSX.out.1.drew
        · exact HC5.out.stay ((Keep.of_grown (F := fun x => x = g) HSX.out.2 (fun k hk => by injection hk with hk; exact hk.symm)).drewN 1) (fun x hx => ⟨fun hs => hnsg.out x hs hx, by omega⟩)
        · exact (HK5.out.trans (G := fun x => x = g) (Keep.of_grown HSX.out.2 (fun k hk => by injection hk with hk; exact hk.symm)) (fun x hx e => by omega)).drewN 1)
      have hkn : plcS d.src name < n := by rw [← HNL.out]; exact hlt
      clear HNE hEv ho5 HSX hnsg
      generalize d.src[plcS d.src name] = p at *
      generalize plcS d.src name = kk at *
      have hki : (kk : Int) < n := by omega
      go_wp2
      go_region_law (fail)
      all_goals
        clear e5 e6 e7 e2 e4 hfr
        change Exit.then _ _ _ _ (setSrc w5 g (kk * 3) (name, (max p.2.1 at_, d.now))).drew
        generalize (setSrc w5 g (kk * 3) (name, (max p.2.1 at_, d.now))).drew = w6 at *
        go_wp2_with fail
        go_meet
        exact HMID.out
  case rest =>
    obtain ⟨ho6, hc6, hk6⟩ := hcut
    obtain ⟨B6, cp6, rfl⟩ := ho6.form
    have HC6 := Lib.hid hc6; have HK6 := Lib.hid hk6; have HO6 := Lib.hid ho6
    have HOK7 := Lib.hid (show ClkOk ({ d with src := newS d.src name at_ d.now } : Clk) from HC2.out.ok.said HYES.out)
    have HL7 := Lib.hid (show (newS d.src name at_ d.now).length ≤ N + 1 from Nat.le_trans (putB_length_le _ _ _) (by have := HC2.out.len; omega))
    obtain ⟨A6, n6, cq6, hblk6, _, _⟩ := hc6.view
    have hbc6 := hc6.lt
    have f4 : wc.frozen? ⟨bc, 4, none⟩ = false := frozen_of_row wc bc 4 _ _ hblk6
    obtain ⟨g0, g1, g2, g3, g4⟩ := RCells.of hblk6
    generalize newS d.src name at_ d.now = l6 at *
    have HC7 := Lib.hid (show RClk (wc.setCell ⟨bc, 4, none⟩ (.slice B6 l6.length cp6)) bc (fun q => S q ∨ (w.heap.size ≤ q ∧ q < wc.heap.size)) (N + 1) ({ d with src := l6 } : Clk) from by
      refine ⟨⟨B6, l6.length, cp6, ?_, ?_, ?_⟩, ?_, ?_, HOK7.out, HL7.out⟩
      · exact heap_setCell_same wc bc 4 _ _ _ hblk6
      · exact Cel.stay (S := fun q => w.heap.size ≤ q) (B := wc.heap.size) (Cel.of_own HO6.out) (fun a ha hn => by
          subst ha
          rcases HO6.out.2 with ⟨_, h'⟩ | ⟨g, cap, cur, e, hb, _⟩
          · omega
          · injection e with e1; injection e1 with e1; subst e1; exact hb) (by simp [World.setCell]) (fun b off hb _ => World.cell?_setCell_other wc _ _ _ (fun e => by injection e with e1; omega))
      · intro a ha hn
        subst ha
        right
        rcases HO6.out.2 with ⟨_, h'⟩ | ⟨g, cap, cur, e, hb, hg, _⟩
        · omega
        · injection e with e1; injection e1 with e1; subst e1; exact ⟨hb, (Array.getElem?_eq_some_iff.1 hg).1⟩
      · rintro (hq | hq)
        · exact hnsb hq
        · omega
      · rintro b (hq | hq)
        · have := HLOW.out b hq; have := HK6.out.size; simp [World.setCell]; omega
        · simp [World.setCell]; omega)
    have HK7 := Lib.hid (HK6.out.setCell (p := ⟨bc, 4, none⟩) (fun _ => rfl) (.slice B6 l6.length cp6))
    have HS7 := Lib.hid (show (wc.setCell ⟨bc, 4, none⟩ (.slice B6 l6.length cp6)).heap.size = wc.heap.size by simp [World.setCell])
    clear ho6 hc6 hk6 g0 g1 g2 g3 hblk6 HO6 HC6 HK6 HOK7 HL7 HO5 HC5 HK5 HS5 e2 e4
    go_upto_region 10 with fail
    generalize wc.setCell ⟨bc, 4, none⟩ (.slice B6 l6.length cp6) = w7 at *
    clear f4 g4
    generalize ({ d with src := l6 } : Clk) = c7 at *
    obtain ⟨T, hTe⟩ : ∃ T : Nat → Prop, T = fun q => S q ∨ (w.heap.size ≤ q ∧ q < wc.heap.size) := ⟨_, rfl⟩
    rw [← hTe] at HC7
    have HS7' := Lib.hid (show ∀ q, T q → S q ∨ (w.heap.size ≤ q ∧ q < w7.heap.size) from fun q hq => by rw [HS7.out]; rw [hTe] at hq; exact hq)
    have HSS := Lib.hid (show ∀ q, S q → T q from fun q hq => by rw [hTe]; exact .inl hq)
    clear hTe
    obtain ⟨A7, n7, cq7, hblk7, _, _⟩ := HC7.out.view
    obtain ⟨e0, e1, e2, e3, e4⟩ := RCells.of hblk7
    have g3 : w7.frozen? ⟨bc, 3, none⟩ = false := frozen_of_row w7 bc 3 _ _ hblk7
    have hlt7 := HC7.out.lt
    have HRI := Lib.hid (rise_tell HC7.out.ok)
    have HOK8 := Lib.hid HC7.out.ok.rise
    have HTL := Lib.hid (show Calls Tryz.prog 69 #[.pointer (some ⟨bc, 0, none⟩)] w7.drew (IntPost w7.drew (tellI c7)) from
      rtell_any w7.drew bc T (N + 1) c7 (HC7.out.stay ((Keep.refl (fun _ => False) w7).drewN 1) (fun _ h => h.elim)) (by omega))
    clear hblk7 e0 e1 e2 e4
    go_wp2
    go_region_law ((go_simp; go_at_call 69; refine HTL.out.mono ?_; rintro r w8 ⟨rfl, hb8⟩; have HB8 := Lib.hid hb8; have d3 : w8.cell? ⟨bc, 3, none⟩ = some (.int .i64 c7.mark) := (hb8.cell (p := ⟨bc, 3, none⟩) hlt7).trans e3; have k3 : w8.frozen? ⟨bc, 3, none⟩ = false := (hb8.frozen (p := ⟨bc, 3, none⟩) hlt7).trans g3; clear hb8))
    all_goals
      have HC8 := Lib.hid (show RClk w8 bc T (N + 1) c7 from HC7.out.stay (F := fun _ => False) (((Keep.refl (fun _ => False) w7).drewN 1).trans (G := fun _ => False) (Keep.of_below (w := w7.drew) HB8.out) (fun _ _ h => h)) (fun _ h => h.elim))
      have HC9 := Lib.hid (show RClk (w8.setCell ⟨bc, 3, none⟩ (.int .i64 (max c7.mark (tellI c7)))) bc T (N + 1) (c.hear name at_ now) from by
        rw [HCH.out, HRI.out]
        refine HC8.out.put 3 _ ?_ rfl (fun _ => rfl)
        rw [← HRI.out]; exact HOK8.out)
      have HK9 := Lib.hid (show Keep (· = bc) w (w8.setCell ⟨bc, 3, none⟩ (.int .i64 (max c7.mark (tellI c7)))) from
        ((HK7.out.drewN 1).trans (G := fun _ => False) (Keep.of_below (w := w7.drew) HB8.out) (fun _ _ h => h.elim)).setCell (fun _ => rfl) _)
      have HFIN := Lib.hid (show RHearPost w bc N S (d.hears name at_) (c.hear name at_ now) (.returned (.bool true)) (w8.setCell ⟨bc, 3, none⟩ (.int .i64 (max c7.mark (tellI c7)))) from
        ⟨by rw [HYES.out], T, HC9.out, HK9.out, fun q hq => (HS7'.out q hq).imp id (fun h => ⟨h.1, by
          have h1 := HB8.out.size
          have h2 : w7.drew.heap.size = w7.heap.size := rfl
          have h3 : (w8.setCell ⟨bc, 3, none⟩ (.int .i64 (max c7.mark (tellI c7)))).heap.size = w8.heap.size := by simp [World.setCell]
          omega⟩), HSS.out⟩)
      clear HC8 HC9 HK9 HRI HTL HOK8 HB8
      generalize max c7.mark (tellI c7) = mm at *
      clear d3 k3 e3 g3
      generalize w8.setCell ⟨bc, 3, none⟩ (.int .i64 mm) = w9 at *
      go_wp2
      go_ret
      exact HFIN.out
end Go.Proofs.YtoljbbmjbgepiaaGreatDoor
