/-
  Layer 6: name.
  Layer 6: Hear, New.
  A map from identities to bools, used as a set.
  Layer 8: the intake in memory.
-/
import Derived.Test.YtoljbbmjbgepiaaGreatDoorMClkTick
import Derived.Laws.RangeAny
import Derived.Shelf.GgClosure.StringsIndexFuncTop
import Derived.Test.YtoljbbmjbgepiaaGreatDoorMRowK
import Derived.DeepKeys4
import Derived.Test.YtoljbbmjbgepiaaGreatDoorMItkPlain
import Derived.Test.YtoljbbmjbgepiaaGreatDoorMHad
namespace Go.Proofs.YtoljbbmjbgepiaaGreatDoor
open Go.RowKit Go.Maps Go.Sort

/-- a rune that no name has -/
def oddR (r : Nat) : Bool := !((decide (97 ≤ r) && decide (r ≤ 122)) || (decide (48 ≤ r) && decide (r ≤ 57)) || decide (r = 45))

theorem name1_any (w : World) (r : Nat) : Calls Tryz.prog 125 #[.int .i32 r] w fun e w' => e = .returned (.bool (oddR r)) ∧ ∃ q, w' = w.drewN q := by
  have key : ∀ a b : Bool, oddR r = a → Calls Tryz.prog 125 #[.int .i32 r] w (fun e w' => e = .returned (.bool a) ∧ w = w') → Calls Tryz.prog 125 #[.int .i32 r] w fun e w' => e = .returned (.bool (oddR r)) ∧ ∃ q, w' = w.drewN q := fun a _ h hc => by
    rw [h]; exact hc.mono fun _ _ h => ⟨h.1, 0, h.2.symm⟩
  by_cases h1 : 97 ≤ r
  · have d1 : decide (97 ≤ (r : Int)) = true := decide_eq_true (by omega)
    by_cases h2 : r ≤ 122
    · have d2 : decide ((r : Int) ≤ 122) = true := decide_eq_true (by omega)
      refine key false false (by unfold oddR; simp [h1, h2]) ?_
      go_enter Tryz.func125, Tryz.ntmps125
      go_wp2
      go_ret
      exact ⟨rfl, rfl⟩
    · have d2 : decide ((r : Int) ≤ 122) = false := decide_eq_false (by omega)
      have d3 : decide (48 ≤ (r : Int)) = true := decide_eq_true (by omega)
      have d4 : decide ((r : Int) ≤ 57) = false := decide_eq_false (by omega)
      have d5 : ((r : Int) == 45) = false := by simp; omega
      refine key true false (by unfold oddR; simp; omega) ?_
      go_enter Tryz.func125, Tryz.ntmps125
      go_wp2
      go_ret
      exact ⟨rfl, rfl⟩
  · have d1 : decide (97 ≤ (r : Int)) = false := decide_eq_false (by omega)
    by_cases h3 : 48 ≤ r
    · have d3 : decide (48 ≤ (r : Int)) = true := decide_eq_true (by omega)
      by_cases h4 : r ≤ 57
      · have d4 : decide ((r : Int) ≤ 57) = true := decide_eq_true (by omega)
        refine key false false (by unfold oddR; simp; omega) ?_
        go_enter Tryz.func125, Tryz.ntmps125
        go_wp2
        go_ret
        exact ⟨rfl, rfl⟩
      · have d4 : decide ((r : Int) ≤ 57) = false := decide_eq_false (by omega)
        have d5 : ((r : Int) == 45) = false := by simp; omega
        refine key true false (by unfold oddR; simp; omega) ?_
        go_enter Tryz.func125, Tryz.ntmps125
        go_wp2
        go_ret
        exact ⟨rfl, rfl⟩
    · have d3 : decide (48 ≤ (r : Int)) = false := decide_eq_false (by omega)
      by_cases h5 : r = 45
      · have d5 : ((r : Int) == 45) = true := by simp; omega
        refine key false false (by unfold oddR; simp; omega) ?_
        clear h5
        go_enter Tryz.func125, Tryz.ntmps125
        go_wp2
        go_ret
        exact ⟨rfl, rfl⟩
      · have d5 : ((r : Int) == 45) = false := by simp; omega
        refine key true false (by unfold oddR; simp; omega) ?_
        go_enter Tryz.func125, Tryz.ntmps125
        go_wp2
        go_ret
        exact ⟨rfl, rfl⟩

theorem idx_name (s : ByteArray) : ∀ (f pos : Nat), s.size ≤ pos + f → (Lib.idxFuncFrom oddR true s f pos = -1 ↔ ∀ j (h : j < s.size), pos ≤ j → nameC s[j] = true)
  | 0, pos, h => by
    simp only [Lib.idxFuncFrom, true_iff]
    intro j hj hp; omega
  | f + 1, pos, h => by
    unfold Lib.idxFuncFrom
    by_cases hlt : pos < s.size
    · rw [if_pos hlt]
      by_cases ha : s[pos].toNat < 128
      · have hd := decode_ascii s pos hlt ha
        rw [hd]
        simp only
        have hodd : oddR s[pos].toNat = !nameC s[pos] := by unfold oddR nameC; rfl
        rw [hodd]
        cases hc : nameC s[pos]
        · simp only [Bool.not_false, if_true]
          constructor
          · intro h'; omega
          · intro h'; have := h' pos hlt (Nat.le_refl _); rw [hc] at this; cases this
        · simp only [Bool.not_true, Bool.false_eq_true, if_false]
          rw [idx_name s f (pos + 1) (by omega)]
          constructor
          · intro h' j hj hp
            by_cases e : j = pos
            · subst e; exact hc
            · exact h' j hj (by omega)
          · intro h' j hj hp; exact h' j hj (by omega)
      · have hd := (decode_high s pos hlt (by omega)).1
        have hodd : oddR (Utf8.decode s pos).1 = true := by unfold oddR; simp; omega
        rw [if_pos hodd]
        constructor
        · intro h'; omega
        · intro h'
          have := h' pos hlt (Nat.le_refl _)
          unfold nameC at this
          simp at this
          omega
    · rw [if_neg hlt]
      simp only [true_iff]
      intro j hj hp; omega
theorem idx_nameB (l : List UInt8) (h1 : 1 ≤ l.length) (h2 : l.length ≤ 24) : decide (Lib.idxFunc oddR true ⟨l.toArray⟩ < 0) = nameB l := by
  have key := idx_name ⟨l.toArray⟩ (ByteArray.size ⟨l.toArray⟩) 0 (by omega)
  have hr := Lib.idxFunc_range oddR true ⟨l.toArray⟩
  have hs : (⟨l.toArray⟩ : ByteArray).size = l.length := by simp [ByteArray.size]
  by_cases hn : nameB l = true
  · rw [hn]
    refine decide_eq_true ?_
    have : Lib.idxFunc oddR true ⟨l.toArray⟩ = -1 := key.2 fun j hj _ => by
      unfold nameB at hn
      simp only [Bool.and_eq_true, List.all_eq_true] at hn
      exact hn.2 l[j] (List.getElem_mem (by omega))
    omega
  · rw [Bool.not_eq_true] at hn
    rw [hn]
    refine decide_eq_false fun hlt => ?_
    have h' : Lib.idxFunc oddR true ⟨l.toArray⟩ = -1 := by omega
    have := key.1 h'
    rw [nameB_good h1 h2 (fun j hj => this j (by omega) (Nat.zero_le _))] at hn
    cases hn

theorem cname_any (w : World) (l : List UInt8) : Calls Tryz.prog 89 #[.string ⟨l.toArray⟩] w (Says (nameB l) w) := by
  by_cases h0 : l.length < 1
  · have HN := Lib.hid (nameB_short (.inl h0))
    go_enter Tryz.func89, Tryz.ntmps89
    go_wp2
    go_ret
    exact ⟨ret_bool HN.out.symm, Below.refl _ _⟩
  by_cases h24 : 24 < l.length
  · have HN := Lib.hid (nameB_short (.inr h24))
    go_enter Tryz.func89, Tryz.ntmps89
    go_wp2
    go_ret
    exact ⟨ret_bool HN.out.symm, Below.refl _ _⟩
  have d0 : decide ((l.length : Int) < 1) = false := decide_eq_false (by omega)
  have d1 : decide (24 < (l.length : Int)) = false := decide_eq_false (by omega)
  have HN := Lib.hid (idx_nameB l (by omega) (by omega))
  have hr := Lib.idxFunc_range oddR true ⟨l.toArray⟩
  go_enter Tryz.func89, Tryz.ntmps89
  go_wp2_with fail
  refine (Tryz.strings_IndexFunc 125 #[] (fun _ _ => by kernel_rfl) oddR ⟨l.toArray⟩ w (fun W x _ => name1_any W x)).mono ?_
  rintro e w1 ⟨rfl, hb⟩
  generalize Lib.idxFunc oddR true ⟨l.toArray⟩ = i at *
  clear hr
  go_wp2
  go_ret
  exact ⟨ret_bool HN.out, hb⟩
end Go.Proofs.YtoljbbmjbgepiaaGreatDoor
namespace Go.Proofs.YtoljbbmjbgepiaaGreatDoor
open Go.RowKit Go.Maps Go.Sort

def HearPost (w : World) (bc bm : Nat) (c : Clk) (ok : Bool) (e : Ending) (w' : World) : Prop := e = .returned (.bool ok) ∧ ClockAt w' bc bm c ∧ Keep (fun b => b = bc ∨ b = bm) w w'
theorem zeroSrc (w : World) : (zeroValue 130).run Tryz.prog w = .ok (.agg #[.int .i64 0, .int .i64 0]) w := by kernel_rfl

theorem look_src {w : World} {bc bm : Nat} {c : Clk} (h : ClockAt w bc bm c) (l : List UInt8) (hl : l.length ≤ 24) :
    (Instr.lookup 125 (.map (some bm)) (.string ⟨l.toArray⟩) false).run Tryz.prog w = .ok (.agg #[.int .i64 ((getB c.src l).getD (0, 0)).1, .int .i64 ((getB c.src l).getD (0, 0)).2]) w := by
  rw [h.map.look l (by unfold maxLen; omega) _ _ Tryz.underlying125 _ (zeroSrc w)]
  unfold srcRow
  rw [getB_map]
  cases getB c.src l <;> rfl

set_option maxRecDepth 100000 in
set_option maxHeartbeats 2000000 in
theorem hear_any (w : World) (bc bm : Nat) (c : Clk) (hc : ClockAt w bc bm c) (l : List UInt8) (at_ now : Int) (hsz : c.src.length < 1000000) :
    Calls Tryz.prog 54 #[.pointer (some ⟨bc, 0, none⟩), .string ⟨l.toArray⟩, .int .i64 at_, .int .i64 now] w (HearPost w bc bm (c.hear l at_ now) ((c.tick now).hears l at_)) := by
  have HC := Lib.hid hc; clear hc
  go_enter Tryz.func54, Tryz.ntmps54
  go_wp2_with fail
  refine (tick_any w bc bm c HC.out now).mono ?_
  rintro e w1 ⟨rfl, hc1, hk1⟩
  have HE := Lib.hid (show c.hear l at_ now = if (c.tick now).hears l at_ then (c.tick now).heard l at_ else c.tick now from rfl)
  have hsz1 : (c.tick now).src.length < 1000000 := by unfold Clk.tick; rw [rise_src]; exact hsz
  generalize c.hear l at_ now = R at *
  generalize c.tick now = d at *
  have HC1 := Lib.hid hc1
  have HK1 := Lib.hid hk1
  clear hc1 hk1
  go_wp2_with fail
  refine (cname_any w1 l).mono ?_
  rintro e w2 ⟨rfl, hb2⟩
  have HC2 := Lib.hid (HC1.out.up hb2)
  have HK2 := Lib.hid (show Keep (fun b => b = bc ∨ b = bm) w w2 from (HK1.out.mono (F := fun b => b = bc ∨ b = bm) (fun _ _ h => .inl h)).trans (Keep.of_below (F := fun _ => False) hb2) (fun _ _ h => h.elim))
  obtain ⟨c0, c1, c2, c3, c4, f2, f3⟩ := HC2.out.cells
  have HS := Lib.hid (show d.hears l at_ = (nameB l && decide (0 ≤ at_) && decide (at_ ≤ 1099511627776) && decide (d.mark < at_)) from rfl)
  clear hb2
  cases hnm : nameB l
  · have HF := Lib.hid (show d.hears l at_ = false by rw [HS.out, hnm]; rfl)
    have HR := Lib.hid (show R = d by rw [HE.out, HF.out]; rfl)
    clear hnm
    go_wp2
    go_ret
    exact ⟨ret_bool HF.out.symm, by rw [HR.out]; exact HC2.out, HK2.out⟩
  by_cases h1 : at_ < 0
  · have HF := Lib.hid (show d.hears l at_ = false by rw [HS.out, decide_eq_false (show ¬ 0 ≤ at_ by omega)]; simp)
    have HR := Lib.hid (show R = d by rw [HE.out, HF.out]; rfl)
    clear hnm
    go_wp2
    go_ret
    exact ⟨ret_bool HF.out.symm, by rw [HR.out]; exact HC2.out, HK2.out⟩
  by_cases h2 : 1099511627776 < at_
  · have HF := Lib.hid (show d.hears l at_ = false by rw [HS.out, decide_eq_false (show ¬ at_ ≤ 1099511627776 by omega)]; simp)
    have HR := Lib.hid (show R = d by rw [HE.out, HF.out]; rfl)
    clear hnm
    go_wp2
    go_ret
    exact ⟨ret_bool HF.out.symm, by rw [HR.out]; exact HC2.out, HK2.out⟩
  by_cases h3 : at_ ≤ d.mark
  · have HF := Lib.hid (show d.hears l at_ = false by rw [HS.out, decide_eq_false (show ¬ d.mark < at_ by omega)]; simp)
    have HR := Lib.hid (show R = d by rw [HE.out, HF.out]; rfl)
    clear hnm
    go_wp2
    go_ret
    exact ⟨ret_bool HF.out.symm, by rw [HR.out]; exact HC2.out, HK2.out⟩
  have HT := Lib.hid (show d.hears l at_ = true by rw [HS.out, hnm, decide_eq_true (show 0 ≤ at_ by omega), decide_eq_true (show at_ ≤ 1099511627776 by omega), decide_eq_true (show d.mark < at_ by omega)]; rfl)
  have HR := Lib.hid (show R = d.heard l at_ by rw [HE.out, HT.out]; rfl)
  have hl24 : l.length ≤ 24 := by unfold nameB at hnm; simp at hnm; omega
  have hlk := look_src HC2.out l hl24
  have hblt := HC2.out.lt
  have hdn := HC2.out.ok.now
  have hga : 0 ≤ ((getB d.src l).getD (0, 0)).1 ∧ ((getB d.src l).getD (0, 0)).1 ≤ 1099511627776 := by
    cases hg : getB d.src l with
    | none => simp
    | some q => have := HC2.out.ok.src _ (getB_mem hg); simp only at this; simp only [Option.getD_some]; omega
  have HH := Lib.hid (show d.heard l at_ = ({ d with src := putB l (max ((getB d.src l).getD (0, 0)).1 at_, d.now) d.src } : Clk).rise from rfl)
  have HOK := Lib.hid (HC2.out.ok.said HT.out)
  generalize (getB d.src l).getD (0, 0) = q at *
  obtain ⟨qa, qh⟩ := q
  simp only at hlk hga HH HOK
  clear hnm HE HS
  go_wp2
  go_region
  go_wp2
  have hbA : Below w2.heap.size w2 (w2.alloc (Obj.cells #[Value.int IntKind.i64 (max qa at_), Value.int IntKind.i64 d.now] 130)).drew := ((Below.refl _ _).alloc (Nat.le_refl _) _).drew
  have hA0 : (w2.alloc (Obj.cells #[Value.int IntKind.i64 (max qa at_), Value.int IntKind.i64 d.now] 130)).drew.cell? ⟨w2.heap.size, 0, none⟩ = some (.int .i64 (max qa at_)) := (cell_of_row _ w2.heap.size 0 _ _ (0, 0) (heap_alloc_new w2 _))
  have hA1 : (w2.alloc (Obj.cells #[Value.int IntKind.i64 (max qa at_), Value.int IntKind.i64 d.now] 130)).drew.cell? ⟨w2.heap.size, 1, none⟩ = some (.int .i64 d.now) := (cell_of_row _ w2.heap.size 1 _ _ (0, 0) (heap_alloc_new w2 _))
  have HC3 := Lib.hid (HC2.out.up hbA)
  have HK3 := Lib.hid (HK2.out.trans (Keep.of_below (F := fun _ => False) hbA) (fun _ _ h => h.elim))
  generalize (w2.alloc (Obj.cells #[Value.int IntKind.i64 (max qa at_), Value.int IntKind.i64 d.now] 130)).drew = w3 at *
  clear c0 c1 c2 c3 c4 f2 f3 hlk hbA
  obtain ⟨c0, c1, c2, c3, c4, f2, f3⟩ := HC3.out.cells
  generalize hqx : max qa at_ = qx at *
  have HQX := Lib.hid hqx
  clear hqx
  go_still_tail 6, (by kernel_rfl)
  change wpList _ _ _ _ _ (w3.drewN 1)
  have hM := HC3.out.map
  have HM := Lib.hid (show MapS (w3.drewN 1) bm (srcRow d.src) from hM)
  clear hM
  refine wpList_mapS_put rfl (.tmp 51) (.tmp 52) (.tmp 53) 125 130 rfl Tryz.underlying125 bm (srcRow d.src) rfl HM.out (by unfold maxLen srcRow; simp; omega) l rfl (by unfold maxLen; omega) _ rfl ?_
  intro w4 hm4 hg4
  have HC4 := Lib.hid (show ClockAt w4 bc bm { d with src := putB l (qx, d.now) d.src } from by
    have hrow : putB l (Value.agg #[Value.int IntKind.i64 qx, Value.int IntKind.i64 d.now]) (srcRow d.src) = srcRow (putB l (qx, d.now) d.src) := (putB_map encSrc l (qx, d.now) d.src).symm
    refine ⟨(hg4.block bc HC3.out.lt (fun h => HC3.out.ne (by injection h))).trans HC3.out.blk, ?_, HOK.out⟩
    rw [← hrow]; exact hm4)
  have HK4 := Lib.hid ((HK3.out.drewN 1).trans (Keep.of_grown (F := fun b => b = bc ∨ b = bm) hg4 (fun k hk => by injection hk with hk; exact .inr hk.symm)) (fun _ _ h => h))
  clear hm4 hg4 c0 c1 c2 c3 c4 f2 f3 hA0 hA1 hblt
  go_wp2_with fail
  refine (rise_any w4 bc bm _ HC4.out).mono ?_
  rintro e w5 ⟨rfl, hc5, hk5⟩
  have HC5 := Lib.hid (show ClockAt w5 bc bm R from by rw [HR.out, HH.out]; exact hc5)
  have HK5 := Lib.hid (HK4.out.trans hk5 (fun _ _ h => .inl h))
  clear hc5 hk5
  go_wp2
  go_ret
  exact ⟨ret_bool HT.out.symm, HC5.out, HK5.out⟩

/-- a new clock: its block and its map are new -/
def ClkNewPost (w : World) (c : Clk) (e : Ending) (w' : World) : Prop := ∃ bc bm, e = .returned (.pointer (some ⟨bc, 0, none⟩)) ∧ ClockAt w' bc bm c ∧ w.heap.size ≤ bc ∧ w.heap.size ≤ bm ∧ Below w.heap.size w w'
theorem clknew_any (w : World) (slack idle : Int) : Calls Tryz.prog 51 #[.int .i64 slack, .int .i64 idle] w (ClkNewPost w (Clk.new slack idle)) := by
  have HN := Lib.hid (show Clk.new slack idle = ⟨boundI slack, boundI idle, 0, -1, []⟩ from rfl)
  have hmm := @run_makeMap Tryz.prog
  go_enter Tryz.func51, Tryz.ntmps51
  go_wp2_with fail
  refine (bound_any w slack).mono ?_
  rintro e w1 ⟨rfl, rfl⟩
  go_wp2_with fail
  refine (bound_any w idle).mono ?_
  rintro e w1 ⟨rfl, rfl⟩
  go_wp2
  go_ret
  refine ⟨w.heap.size + 1, w.heap.size, rfl, ⟨?_, ?_, ClkOk.new slack idle⟩, by omega, Nat.le_refl _, ((Below.refl _ _).alloc (Nat.le_refl _) _).alloc (by simp) _⟩
  · rw [HN.out]
    have := heap_alloc_new (w.alloc (.map #[] 0)) (clkObj ⟨boundI slack, boundI idle, 0, -1, []⟩ w.heap.size)
    simpa using this
  · rw [HN.out]
    exact (MapS.made w).block (Below.heap_alloc _ _ _ (by simp))
end Go.Proofs.YtoljbbmjbgepiaaGreatDoor
namespace Go.Proofs.YtoljbbmjbgepiaaGreatDoor
open Go.RowKit Go.Maps Go.Sort

def idV (s : List UInt8) (n : Int) : Value := .agg #[.string ⟨s.toArray⟩, .int .i64 n]
def idLit (s : List UInt8) (n : Int) : Lit := .string (keyBytes [.string s, .int .i64 n])
def idOk (s : List UInt8) (n : Int) : Prop := s.length ≤ 1000000000 ∧ -9223372036854775808 ≤ n ∧ n ≤ 9223372036854775807

theorem id_laid : laidOutB Tryz.prog = true := by kernel_rfl
theorem id_row : (100 : TypeId) < Tryz.prog.types.size := of_decide_eq_true (by kernel_rfl)
theorem id_wide : (match Tryz.prog.underlying 100 with | some (.array _ _) | some (.struct _) => true | _ => false) = true := by rw [Tryz.underlying100]
theorem id_kt : Tryz.prog.keyTypeAt 2 100 = true := by kernel_rfl
set_option maxRecDepth 100000 in
theorem keyId : Keyed Tryz.prog 100 := Keyed.of_law (deep_law_laid id_laid (m := 2) (by omega) id_row id_kt id_wide)
theorem id_type : Tryz.prog.keyType 100 = true := by kernel_rfl
theorem id_cells : Tryz.prog.cellsOf 100 = 2 := by kernel_rfl
theorem id_cells_s : Tryz.prog.cellsOf 9 = 1 := by kernel_rfl
theorem id_cells_i : Tryz.prog.cellsOf 3 = 1 := by kernel_rfl
theorem id_size : ∃ k, Tryz.prog.types.size = k + 1 := ⟨Tryz.prog.types.size - 1, by kernel_rfl⟩

theorem id_key (s : List UInt8) (n : Int) (h : idOk s n) : keyOf Tryz.prog 100 (idV s n) = some (idLit s n) := by
  obtain ⟨h1, h2, h3⟩ := h
  obtain ⟨k, hk⟩ := id_size
  have hs : (⟨s.toArray⟩ : ByteArray).size ≤ maxLen := by simp [ByteArray.size]; unfold maxLen; omega
  have hw : (Lit.int .i64 n).wf = true := by simp [Lit.wf, IntKind.min, IntKind.max, IntKind.bits, IntKind.signed]; omega
  have hlits : ∀ d, Tryz.prog.keyLits (d + 2) 100 [.string ⟨s.toArray⟩, .int .i64 n] = some [.string s, .int .i64 n] := fun d => by
    simp [Program.keyLits, Tryz.underlying100, Tryz.underlying9, Tryz.underlying3, id_cells, id_cells_s, id_cells_i, hs, hw]
  unfold keyOf idV idLit
  rw [Tryz.underlying100, hk]
  simp only [id_type, Value.formed, Tryz.underlying100, id_cells]
  simp [Value.cells, hlits]

theorem idLit_inj {s s' : List UInt8} {n n' : Int} (h : idOk s n) (h' : idOk s' n') (e : idLit s n = idLit s' n') : s = s' ∧ n = n' := by
  have := keyId.inj (id_key s n h) (by rw [e]; exact id_key s' n' h')
  unfold idV at this
  simpa using this

/-- block b is a map that holds true just at these identities -/
def SetI (w : World) (b n : Nat) (ks : List (List UInt8 × Int)) : Prop :=
  ∃ D : DataW Unit, w.ownsMap Tryz.prog 100 (plainElem Tryz.prog 4) b n D ∧ Tidy D ∧ ∀ s k, idOk s k → D.atKey (idLit s k) (.lit (.bool false)) = .lit (.bool (decide ((s, k) ∈ ks)))
theorem SetI.made (w : World) : SetI (w.alloc (.map #[] 0)) w.heap.size 0 [] := ⟨.map [], World.ownsMap_made _ _ _ _, tidy_empty, fun s k _ => by simp [DataW.atKey]⟩
theorem SetI.lt {w : World} {b n : Nat} {ks : List (List UInt8 × Int)} (h : SetI w b n ks) : b < w.heap.size := by obtain ⟨D, h1, _⟩ := h; exact h1.lt
theorem SetI.block {w w' : World} {b n : Nat} {ks : List (List UInt8 × Int)} (h : SetI w b n ks) (hb : w'.heap[b]? = w.heap[b]?) : SetI w' b n ks := by
  obtain ⟨D, ⟨es, clock, h1, h2⟩, h3⟩ := h
  exact ⟨D, ⟨es, clock, hb.trans h1, h2⟩, h3⟩
theorem SetI.isMap {w : World} {b n : Nat} {ks : List (List UInt8 × Int)} (h : SetI w b n ks) : ∃ es clock, w.heap[b]? = some (.map es clock) := by
  obtain ⟨D, ⟨es, clock, h1, h2⟩, h3⟩ := h
  exact ⟨es, clock, h1⟩
theorem SetB.isMap {w : World} {b n : Nat} {ks : List (List UInt8)} (h : SetB w b n ks) : ∃ es clock, w.heap[b]? = some (.map es clock) := by
  obtain ⟨D, ⟨es, clock, h1, h2⟩, h3⟩ := h
  exact ⟨es, clock, h1⟩
theorem SetI.look {w : World} {b n : Nat} {ks : List (List UInt8 × Int)} (h : SetI w b n ks) (s : List UInt8) (k : Int) (hk : idOk s k) :
    (Instr.lookup 75 (.map (some b)) (.agg #[.string ⟨s.toArray⟩, .int .i64 k]) false).run Tryz.prog w = .ok (.bool (decide ((s, k) ∈ ks))) w := by
  obtain ⟨D, h1, _, h3⟩ := h
  obtain ⟨v, ps, hr, hv⟩ := h1.lookup keyId Tryz.underlying75 (zeroB w) (plainElem_bool (P := Tryz.prog) Tryz.underlying4 false) (id_key s k hk)
  unfold idV at hr
  rw [hr]
  rw [h3 s k hk] at hv
  rw [plainElem_bool_inv Tryz.underlying4 hv]
theorem SetI.put {w : World} {b n : Nat} {ks : List (List UInt8 × Int)} (h : SetI w b n ks) (hn : n < maxLen) (s : List UInt8) (k : Int) (hk : idOk s k) :
    ∃ w', (Instr.mapUpdate 75 (.map (some b)) (.agg #[.string ⟨s.toArray⟩, .int .i64 k]) (.bool true)).run Tryz.prog w = .ok () w' ∧ SetI w' b (n + 1) ((s, k) :: ks) ∧ w.grownBy w' (some b) := by
  obtain ⟨D, h1, h2, h3⟩ := h
  obtain ⟨w', hr, r1, r2⟩ := h1.update keyId Tryz.underlying75 hn (id_key s k hk) (plainElem_bool (P := Tryz.prog) Tryz.underlying4 true)
  have hkl : WideAt.IsKeyLit (idLit s k) := keyId.key (id_key s k hk)
  refine ⟨w', hr, ⟨D.put (idLit s k) (.lit (.bool true)), r1, h2.put hkl _, fun s' k' hk' => ?_⟩, r2⟩
  by_cases e : (s', k') = (s, k)
  · cases e
    rw [atKey_put_same h2.isMap hkl]; simp
  · have hne : idLit s' k' ≠ idLit s k := fun h => e (by obtain ⟨rfl, rfl⟩ := idLit_inj hk' hk h; rfl)
    rw [atKey_put_other hne, h3 s' k' hk']
    have : decide ((s', k') ∈ (s, k) :: ks) = decide ((s', k') ∈ ks) := by simp [e]
    rw [this]
theorem wpList_idput {ops : Array Oper} {rest : List Oper} {o : Oper} {a : Act} {Q : Exit → Act → World → Prop} {w : World} (hg : o.guard = none) (m x v : Operand) (hop : o.op = Op.mapUpdate 75 m x v)
    (b n : Nat) (ks : List (List UInt8 × Int)) (hm : a.eval m = .map (some b)) (hown : SetI w b n ks) (hn : n < maxLen) (s : List UInt8) (k : Int) (hx : a.eval x = .agg #[.string ⟨s.toArray⟩, .int .i64 k]) (hk : idOk s k) (hv : a.eval v = .bool true)
    (h : ∀ w', SetI w' b (n + 1) ((s, k) :: ks) → w.grownBy w' (some b) → wpList Tryz.prog ops Q rest (a.put o.dst undef) w') : wpList Tryz.prog ops Q (o :: rest) a w := by
  refine wpList_plain hg fun K hK => ?_
  obtain ⟨w', hr, h1, h2⟩ := hown.put hn s k hk
  unfold Oper.wp
  simp [execOp, hop, hm, hx, hv, hr, Result.andThen]
  exact hK _ _ (h w' h1 h2)
end Go.Proofs.YtoljbbmjbgepiaaGreatDoor
namespace Go.Proofs.YtoljbbmjbgepiaaGreatDoor
open Go.RowKit Go.Maps Go.Sort

/-- where the parts of an intake lie -/
structure ItkA where
  bc : Nat
  bm : Nat
  bs : Nat
  bh : Nat
  G : Nat → Prop
  V : List UInt8 → Value
  vt : Value
  vl : Value
  bl : Nat
  nl : Nat
  bg : Nat
  ng : Nat
abbrev itkObj (A : ItkA) : Obj := .cells #[.pointer (some ⟨A.bc, 0, none⟩), .pointer (some ⟨A.bs, 0, none⟩), A.vt, A.vl, .map (some A.bl), .map (some A.bg)] 78

theorem OwnE.typ {w : World} {base : Nat} {v : Value} {l : List Ev} (h : OwnE w base v l) {b : Nat} (hb : v.ownBlock = some b) : ∃ cs, w.heap[b]? = some (.cells cs 28 (0, 0)) := by
  rcases h.2 with ⟨rfl, _⟩ | ⟨g, cap, cur, rfl, _, hg, _⟩
  · cases hb
  · injection hb with hb; subst hb; exact ⟨cur, hg⟩
theorem OwnE.keep {w w' : World} {base : Nat} {v : Value} {l : List Ev} (h : OwnE w base v l) (hb : ∀ b, v.ownBlock = some b → w'.heap[b]? = w.heap[b]?) : OwnE w' base v l := by
  refine ⟨h.1, ?_⟩
  rcases h.2 with h' | ⟨g, cap, cur, rfl, hb', hg, hr⟩
  · exact .inl h'
  · exact .inr ⟨g, cap, cur, rfl, hb', (hb g rfl).trans hg, hr⟩
theorem OwnE.lt {w : World} {base : Nat} {v : Value} {l : List Ev} (h : OwnE w base v l) {b : Nat} (hb : v.ownBlock = some b) : b < w.heap.size := (World.ownsRow.lt h b hb).2
theorem OwnE.low {w : World} {base : Nat} {v : Value} {l : List Ev} (h : OwnE w base v l) : OwnE w 0 v l := by
  refine ⟨h.1, ?_⟩
  rcases h.2 with h' | ⟨g, cap, cur, e, _, r⟩
  · exact .inl h'
  · exact .inr ⟨g, cap, cur, e, Nat.zero_le _, r⟩
theorem ne_types {w : World} {a b : Nat} {c1 c2 : Array Value} {t1 t2 : TypeId} {f1 f2 : Nat × Nat} (h1 : w.heap[a]? = some (.cells c1 t1 f1)) (h2 : w.heap[b]? = some (.cells c2 t2 f2)) (h : t1 ≠ t2) : a ≠ b := by
  rintro rfl; rw [h1] at h2; injection h2 with h2; injection h2 with _ h2; exact h h2
theorem ne_map {w : World} {a b : Nat} {c1 : Array Value} {t1 : TypeId} {f1 : Nat × Nat} {es : Array MapEntry} {cl : Nat} (h1 : w.heap[a]? = some (.cells c1 t1 f1)) (h2 : w.heap[b]? = some (.map es cl)) : a ≠ b := by
  rintro rfl; rw [h1] at h2; cases h2
theorem HadAt.not_cells {w : World} {G : Nat → Prop} {bs bm : Nat} {m : Had} {V : List UInt8 → Value} (h : HadAt w G bs bm m V) {b : Nat} {cs : Array Value} {t : TypeId} {f : Nat × Nat} (hb : w.heap[b]? = some (.cells cs t f)) (h1 : t ≠ 111) (h2 : t ≠ 114) : ¬ G b := by
  intro hg
  obtain ⟨es, cl, hm⟩ := h.map.isMap
  rcases h.typ b hg with e | e | ⟨c, hc⟩
  · exact ne_types hb h.blk h1 e
  · exact ne_map hb hm e
  · exact ne_types hb hc h2 rfl

structure ItkMem (w : World) (bi : Nat) (A : ItkA) (x : Itk) : Prop where
  blk : w.heap[bi]? = some (itkObj A)
  clk : ClockAt w A.bc A.bm x.clk
  had : HadAt w A.G A.bs A.bh x.had A.V
  taken : OwnE w 0 A.vt x.taken
  late : OwnE w 0 A.vl x.late
  lates : SetI w A.bl A.nl (x.late.map idOf)
  gone : SetB w A.bg A.ng x.gone
  ml : A.bm ≠ A.bl
  mg : A.bm ≠ A.bg
  lg : A.bl ≠ A.bg
  gm : ¬ A.G A.bm
  gl : ¬ A.G A.bl
  gg : ¬ A.G A.bg
  tl : ∀ b, A.vt.ownBlock = some b → A.vl.ownBlock ≠ some b

/-- all its blocks -/
def ItkA.foot (A : ItkA) (bi b : Nat) : Prop := b = bi ∨ b = A.bc ∨ b = A.bm ∨ A.G b ∨ A.vt.ownBlock = some b ∨ A.vl.ownBlock = some b ∨ b = A.bl ∨ b = A.bg

section
variable {w w' : World} {bi : Nat} {A : ItkA} {x : Itk}
theorem ItkMem.lt (h : ItkMem w bi A x) {b : Nat} (hb : A.foot bi b) : b < w.heap.size := by
  rcases hb with rfl | rfl | rfl | hb | hb | hb | rfl | rfl
  · exact heap_lt h.blk
  · exact h.clk.lt
  · exact h.clk.map.lt
  · exact h.had.lt b hb
  · exact h.taken.lt hb
  · exact h.late.lt hb
  · exact h.lates.lt
  · exact h.gone.lt
theorem ItkMem.keep (h : ItkMem w bi A x) (hsz : w.heap.size ≤ w'.heap.size) (hk : ∀ b, A.foot bi b → w'.heap[b]? = w.heap[b]?) : ItkMem w' bi A x :=
  { h with
    blk := (hk _ (.inl rfl)).trans h.blk
    clk := h.clk.keep (hk _ (.inr (.inl rfl))) (hk _ (.inr (.inr (.inl rfl))))
    had := h.had.keep hsz fun b hb => hk b (.inr (.inr (.inr (.inl hb))))
    taken := h.taken.keep fun b hb => hk b (.inr (.inr (.inr (.inr (.inl hb)))))
    late := h.late.keep fun b hb => hk b (.inr (.inr (.inr (.inr (.inr (.inl hb))))))
    lates := h.lates.block (hk _ (.inr (.inr (.inr (.inr (.inr (.inr (.inl rfl))))))))
    gone := h.gone.block (hk _ (.inr (.inr (.inr (.inr (.inr (.inr (.inr rfl)))))))) }
theorem ItkMem.up (h : ItkMem w bi A x) (hb : Below w.heap.size w w') : ItkMem w' bi A x := h.keep hb.size fun b hf => hb.block b (h.lt hf)

/-- who is unlike whom -/
theorem ItkMem.ic (h : ItkMem w bi A x) : bi ≠ A.bc := ne_types h.blk h.clk.blk (by decide)
theorem ItkMem.im (h : ItkMem w bi A x) : bi ≠ A.bm := by obtain ⟨es, cl, hm⟩ := h.clk.map.isMap; exact ne_map h.blk hm
theorem ItkMem.il (h : ItkMem w bi A x) : bi ≠ A.bl := by obtain ⟨es, cl, hm⟩ := h.lates.isMap; exact ne_map h.blk hm
theorem ItkMem.ig (h : ItkMem w bi A x) : bi ≠ A.bg := by obtain ⟨es, cl, hm⟩ := h.gone.isMap; exact ne_map h.blk hm
theorem ItkMem.iG (h : ItkMem w bi A x) : ¬ A.G bi := h.had.not_cells h.blk (by decide) (by decide)
theorem ItkMem.cG (h : ItkMem w bi A x) : ¬ A.G A.bc := h.had.not_cells h.clk.blk (by decide) (by decide)
theorem ItkMem.cl (h : ItkMem w bi A x) : A.bc ≠ A.bl := by obtain ⟨es, cl, hm⟩ := h.lates.isMap; exact ne_map h.clk.blk hm
theorem ItkMem.cg (h : ItkMem w bi A x) : A.bc ≠ A.bg := by obtain ⟨es, cl, hm⟩ := h.gone.isMap; exact ne_map h.clk.blk hm
/-- a row of events is none of the others -/
theorem ItkMem.ev (h : ItkMem w bi A x) {b : Nat} (hb : ∃ cs, w.heap[b]? = some (.cells cs 28 (0, 0))) : b ≠ bi ∧ b ≠ A.bc ∧ b ≠ A.bm ∧ ¬ A.G b ∧ b ≠ A.bl ∧ b ≠ A.bg := by
  obtain ⟨cs, hc⟩ := hb
  obtain ⟨e1, c1, m1⟩ := h.clk.map.isMap
  obtain ⟨e2, c2, m2⟩ := h.lates.isMap
  obtain ⟨e3, c3, m3⟩ := h.gone.isMap
  exact ⟨ne_types hc h.blk (by decide), ne_types hc h.clk.blk (by decide), ne_map hc m1, h.had.not_cells hc (by decide) (by decide), ne_map hc m2, ne_map hc m3⟩

theorem ItkMem.setClk (h : ItkMem w bi A x) {c : Clk} (hc : ClockAt w' A.bc A.bm c) (hk : Keep (fun b => b = A.bc ∨ b = A.bm) w w') : ItkMem w' bi A { x with clk := c } := by
  have keep : ∀ b, A.foot bi b → b ≠ A.bc → b ≠ A.bm → w'.heap[b]? = w.heap[b]? := fun b hb h1 h2 => hk.block b (h.lt hb) (fun e => e.elim h1 h2)
  exact { h with
    blk := (keep _ (.inl rfl) h.ic h.im).trans h.blk
    clk := hc
    had := h.had.keep hk.size fun b hb => keep b (.inr (.inr (.inr (.inl hb)))) (fun e => h.cG (e ▸ hb)) (fun e => h.gm (e ▸ hb))
    taken := h.taken.keep fun b hb => keep b (.inr (.inr (.inr (.inr (.inl hb))))) (h.ev (h.taken.typ hb)).2.1 (h.ev (h.taken.typ hb)).2.2.1
    late := h.late.keep fun b hb => keep b (.inr (.inr (.inr (.inr (.inr (.inl hb)))))) (h.ev (h.late.typ hb)).2.1 (h.ev (h.late.typ hb)).2.2.1
    lates := h.lates.block (keep _ (.inr (.inr (.inr (.inr (.inr (.inr (.inl rfl))))))) (Ne.symm h.cl) (Ne.symm h.ml))
    gone := h.gone.block (keep _ (.inr (.inr (.inr (.inr (.inr (.inr (.inr rfl))))))) (Ne.symm h.cg) (Ne.symm h.mg)) }

theorem ItkMem.setHad (h : ItkMem w bi A x) {G' : Nat → Prop} {V' : List UInt8 → Value} {m : Had} (hh : HadAt w' G' A.bs A.bh m V') (hk : Keep A.G w w') (hG : ∀ b, G' b → A.G b ∨ w.heap.size ≤ b) :
    ItkMem w' bi { A with G := G', V := V' } { x with had := m } := by
  have keep : ∀ b, A.foot bi b → ¬ A.G b → w'.heap[b]? = w.heap[b]? := fun b hb h1 => hk.block b (h.lt hb) h1
  have no : ∀ b, A.foot bi b → ¬ A.G b → ¬ G' b := fun b hb h1 hg => by
    rcases hG b hg with h' | h'
    · exact h1 h'
    · have := h.lt hb; omega
  exact { h with
    blk := (keep _ (.inl rfl) h.iG).trans h.blk
    clk := h.clk.keep (keep _ (.inr (.inl rfl)) h.cG) (keep _ (.inr (.inr (.inl rfl))) h.gm)
    had := hh
    taken := h.taken.keep fun b hb => keep b (.inr (.inr (.inr (.inr (.inl hb))))) (h.ev (h.taken.typ hb)).2.2.2.1
    late := h.late.keep fun b hb => keep b (.inr (.inr (.inr (.inr (.inr (.inl hb)))))) (h.ev (h.late.typ hb)).2.2.2.1
    lates := h.lates.block (keep _ (.inr (.inr (.inr (.inr (.inr (.inr (.inl rfl))))))) h.gl)
    gone := h.gone.block (keep _ (.inr (.inr (.inr (.inr (.inr (.inr (.inr rfl))))))) h.gg)
    gm := no _ (.inr (.inr (.inl rfl))) h.gm
    gl := no _ (.inr (.inr (.inr (.inr (.inr (.inr (.inl rfl))))))) h.gl
    gg := no _ (.inr (.inr (.inr (.inr (.inr (.inr (.inr rfl))))))) h.gg }

theorem ItkMem.setTaken (h : ItkMem w bi A x) {w1 : World} {v : Value} {l : List Ev} (hg : w.grownBy w1 A.vt.ownBlock) (ho : OwnE w1 0 v l) (hv : v.ownBlock = A.vt.ownBlock ∨ ∃ k, v.ownBlock = some k ∧ w.heap.size ≤ k) :
    ItkMem (w1.setCell ⟨bi, 2, none⟩ v) bi { A with vt := v } { x with taken := l } := by
  have hbi : bi < w.heap.size := h.lt (.inl rfl)
  have keep1 : ∀ b, A.foot bi b → A.vt.ownBlock ≠ some b → w1.heap[b]? = w.heap[b]? := fun b hb h1 => hg.block b (h.lt hb) (Ne.symm h1)
  have keep : ∀ b, A.foot bi b → b ≠ bi → A.vt.ownBlock ≠ some b → (w1.setCell ⟨bi, 2, none⟩ v).heap[b]? = w.heap[b]? := fun b hb h0 h1 => (Below.heap_setCell w1 ⟨bi, 2, none⟩ v b h0).trans (keep1 b hb h1)
  have nt : ∀ b, (∀ b', (∃ cs, w.heap[b']? = some (.cells cs 28 (0, 0))) → b' ≠ b) → A.vt.ownBlock ≠ some b := fun b hb e => hb b (h.taken.typ e) rfl
  have hb1 : w1.heap[bi]? = some (itkObj A) := (keep1 bi (.inl rfl) (nt _ fun b' hb' => (h.ev hb').1)).trans h.blk
  exact { h with
    blk := heap_set_row hb1
    clk := h.clk.keep (keep _ (.inr (.inl rfl)) (Ne.symm h.ic) (nt _ fun b' hb' => (h.ev hb').2.1)) (keep _ (.inr (.inr (.inl rfl))) (Ne.symm h.im) (nt _ fun b' hb' => (h.ev hb').2.2.1))
    had := h.had.keep (by simpa [World.setCell] using hg.size) fun b hb => keep b (.inr (.inr (.inr (.inl hb)))) (fun e => h.iG (e ▸ hb)) (fun e => (h.ev (h.taken.typ e)).2.2.2.1 hb)
    taken := ho.keep fun b hb => by
      refine Below.heap_setCell w1 ⟨bi, 2, none⟩ v b ?_
      obtain ⟨cs, hc⟩ := ho.typ hb
      exact ne_types hc hb1 (by decide)
    late := h.late.keep fun b hb => keep b (.inr (.inr (.inr (.inr (.inr (.inl hb)))))) (h.ev (h.late.typ hb)).1 (fun e => h.tl b e hb)
    lates := h.lates.block (keep _ (.inr (.inr (.inr (.inr (.inr (.inr (.inl rfl))))))) (Ne.symm h.il) (nt _ fun b' hb' => (h.ev hb').2.2.2.2.1))
    gone := h.gone.block (keep _ (.inr (.inr (.inr (.inr (.inr (.inr (.inr rfl))))))) (Ne.symm h.ig) (nt _ fun b' hb' => (h.ev hb').2.2.2.2.2))
    tl := fun b hb => by
      rcases hv with e | ⟨k, hk, hkl⟩
      · exact h.tl b (e ▸ hb)
      · intro hl
        have := h.late.lt hl
        have : v.ownBlock = some b := hb
        rw [hk] at this; injection this with this; omega }

theorem SetI.congr {w : World} {b n : Nat} {ks ks' : List (List UInt8 × Int)} (h : SetI w b n ks) (he : ∀ k, k ∈ ks ↔ k ∈ ks') : SetI w b n ks' := by
  obtain ⟨D, h1, h2, h3⟩ := h
  exact ⟨D, h1, h2, fun s k hk => by rw [h3 s k hk, decide_eq_decide.2 (he (s, k))]⟩

theorem ItkMem.setLate (h : ItkMem w bi A x) {w1 w2 : World} {v : Value} {e : Ev} (hs : SetI w1 A.bl (A.nl + 1) (idOf e :: x.late.map idOf)) (hg1 : w.grownBy w1 (some A.bl)) (hg : w1.grownBy w2 A.vl.ownBlock) (ho : OwnE w2 0 v (x.late ++ [e]))
    (hv : v.ownBlock = A.vl.ownBlock ∨ ∃ k, v.ownBlock = some k ∧ w1.heap.size ≤ k) :
    ItkMem (w2.setCell ⟨bi, 3, none⟩ v) bi { A with vl := v, nl := A.nl + 1 } { x with late := x.late ++ [e] } := by
  have hbi : bi < w.heap.size := h.lt (.inl rfl)
  have keep2 : ∀ b, A.foot bi b → b ≠ A.bl → A.vl.ownBlock ≠ some b → w2.heap[b]? = w.heap[b]? := fun b hb h1 h2 =>
    (hg.block b (Nat.lt_of_lt_of_le (h.lt hb) hg1.size) (Ne.symm h2)).trans (hg1.block b (h.lt hb) (fun e => h1 (by injection e)))
  have keep : ∀ b, A.foot bi b → b ≠ bi → b ≠ A.bl → A.vl.ownBlock ≠ some b → (w2.setCell ⟨bi, 3, none⟩ v).heap[b]? = w.heap[b]? := fun b hb h0 h1 h2 => (Below.heap_setCell w2 ⟨bi, 3, none⟩ v b h0).trans (keep2 b hb h1 h2)
  have nt : ∀ b, (∀ b', (∃ cs, w.heap[b']? = some (.cells cs 28 (0, 0))) → b' ≠ b) → A.vl.ownBlock ≠ some b := fun b hb e => hb b (h.late.typ e) rfl
  have hb1 : w2.heap[bi]? = some (itkObj A) := (keep2 bi (.inl rfl) h.il (nt _ fun b' hb' => (h.ev hb').1)).trans h.blk
  exact { h with
    blk := heap_set_row hb1
    clk := h.clk.keep (keep _ (.inr (.inl rfl)) (Ne.symm h.ic) h.cl (nt _ fun b' hb' => (h.ev hb').2.1)) (keep _ (.inr (.inr (.inl rfl))) (Ne.symm h.im) h.ml (nt _ fun b' hb' => (h.ev hb').2.2.1))
    had := h.had.keep (by have := hg1.size; have := hg.size; simp [World.setCell]; omega) fun b hb => keep b (.inr (.inr (.inr (.inl hb)))) (fun e => h.iG (e ▸ hb)) (fun e => h.gl (e ▸ hb)) (fun e => (h.ev (h.late.typ e)).2.2.2.1 hb)
    taken := h.taken.keep fun b hb => keep b (.inr (.inr (.inr (.inr (.inl hb))))) (h.ev (h.taken.typ hb)).1 (h.ev (h.taken.typ hb)).2.2.2.2.1 (h.tl b hb)
    late := ho.keep fun b hb => by
      refine Below.heap_setCell w2 ⟨bi, 3, none⟩ v b ?_
      obtain ⟨cs, hc⟩ := ho.typ hb
      exact ne_types hc hb1 (by decide)
    lates := by
      refine SetI.congr (ks := idOf e :: x.late.map idOf) (hs.block ?_) (fun k => by simp; exact Or.comm)
      rw [Below.heap_setCell w2 ⟨bi, 3, none⟩ v A.bl (Ne.symm h.il)]
      exact hg.block A.bl (Nat.lt_of_lt_of_le h.lates.lt hg1.size) (fun e => (h.ev (h.late.typ e.symm)).2.2.2.2.1 rfl)
    gone := h.gone.block (keep _ (.inr (.inr (.inr (.inr (.inr (.inr (.inr rfl))))))) (Ne.symm h.ig) (Ne.symm h.lg) (nt _ fun b' hb' => (h.ev hb').2.2.2.2.2))
    tl := fun b hb hl => by
      rcases hv with e | ⟨k, hk, hkl⟩
      · exact h.tl b hb (e ▸ hl)
      · have h1 := h.taken.lt hb
        have h2 : v.ownBlock = some b := hl
        have := hg1.size
        rw [hk] at h2; injection h2 with h2; omega }

theorem ItkMem.setGone (h : ItkMem w bi A x) {p : List UInt8} {n : Nat} (hs : SetB w' A.bg n (p :: x.gone)) (hg : w.grownBy w' (some A.bg)) : ItkMem w' bi { A with ng := n } { x with gone := p :: x.gone } := by
  have keep : ∀ b, A.foot bi b → b ≠ A.bg → w'.heap[b]? = w.heap[b]? := fun b hb h1 => hg.block b (h.lt hb) (fun e => h1 (by injection e))
  exact { h with
    blk := (keep _ (.inl rfl) h.ig).trans h.blk
    clk := h.clk.keep (keep _ (.inr (.inl rfl)) h.cg) (keep _ (.inr (.inr (.inl rfl))) h.mg)
    had := h.had.keep hg.size fun b hb => keep b (.inr (.inr (.inr (.inl hb)))) (fun e => h.gg (e ▸ hb))
    taken := h.taken.keep fun b hb => keep b (.inr (.inr (.inr (.inr (.inl hb))))) (h.ev (h.taken.typ hb)).2.2.2.2.2
    late := h.late.keep fun b hb => keep b (.inr (.inr (.inr (.inr (.inr (.inl hb)))))) (h.ev (h.late.typ hb)).2.2.2.2.2
    lates := h.lates.block (keep _ (.inr (.inr (.inr (.inr (.inr (.inr (.inl rfl))))))) h.lg)
    gone := hs }

/-- new rows, a new map of the late ones -/
theorem ItkMem.setDrop (h : ItkMem w bi A x) {vt vl : Value} {bl nl : Nat} {t l : List Ev} (hk : Keep (fun b => b = bi) w w') (hb : w'.heap[bi]? = some (itkObj { A with vt := vt, vl := vl, bl := bl, nl := nl }))
    (ht : OwnE w' 0 vt t) (hl : OwnE w' 0 vl l) (hs : SetI w' bl nl (l.map idOf)) (_ht1 : ∀ b, vt.ownBlock = some b → w.heap.size ≤ b) (_hl1 : ∀ b, vl.ownBlock = some b → w.heap.size ≤ b) (hbl : w.heap.size ≤ bl) (htl : ∀ b, vt.ownBlock = some b → vl.ownBlock ≠ some b) :
    ItkMem w' bi { A with vt := vt, vl := vl, bl := bl, nl := nl } { x with taken := t, late := l } := by
  have keep : ∀ b, A.foot bi b → b ≠ bi → w'.heap[b]? = w.heap[b]? := fun b hb h1 => hk.block b (h.lt hb) h1
  exact {
    blk := hb
    clk := h.clk.keep (keep _ (.inr (.inl rfl)) (Ne.symm h.ic)) (keep _ (.inr (.inr (.inl rfl))) (Ne.symm h.im))
    had := h.had.keep hk.size fun b hb => keep b (.inr (.inr (.inr (.inl hb)))) (fun e => h.iG (e ▸ hb))
    taken := ht
    late := hl
    lates := hs
    gone := h.gone.block (keep _ (.inr (.inr (.inr (.inr (.inr (.inr (.inr rfl))))))) (Ne.symm h.ig))
    ml := fun e => by have := h.clk.map.lt; have e' : A.bm = bl := e; omega
    mg := h.mg
    lg := fun e => by have := h.gone.lt; have e' : bl = A.bg := e; omega
    gm := h.gm
    gl := fun e => by have := h.had.lt _ e; have e' : bl < w.heap.size := this; omega
    gg := h.gg
    tl := htl }
end

/-- block bi is an intake; all its blocks are in F; N bounds how much it has -/
def ItkAt (w : World) (F : Nat → Prop) (bi N : Nat) (x : Itk) : Prop := ∃ A, ItkMem w bi A x ∧ ItkOk N x ∧ A.nl ≤ N ∧ A.ng ≤ N ∧ (∀ b, A.foot bi b → F b) ∧ ∀ b, F b → b < w.heap.size
theorem ItkAt.keep {w w' : World} {F : Nat → Prop} {bi N : Nat} {x : Itk} (h : ItkAt w F bi N x) (hsz : w.heap.size ≤ w'.heap.size) (hk : ∀ b, F b → w'.heap[b]? = w.heap[b]?) : ItkAt w' F bi N x := by
  obtain ⟨A, h1, h2, h3, h4, h5, h6⟩ := h
  exact ⟨A, h1.keep hsz (fun b hb => hk b (h5 b hb)), h2, h3, h4, h5, fun b hb => Nat.lt_of_lt_of_le (h6 b hb) hsz⟩
theorem ItkAt.up {w w' : World} {F : Nat → Prop} {bi N : Nat} {x : Itk} (h : ItkAt w F bi N x) (hb : Below w.heap.size w w') : ItkAt w' F bi N x := by
  obtain ⟨A, h1, h2, h3, h4, h5, h6⟩ := h
  exact ItkAt.keep ⟨A, h1, h2, h3, h4, h5, h6⟩ hb.size fun b hf => hb.block b (h6 b hf)
theorem ItkAt.more {w : World} {F : Nat → Prop} {bi N M : Nat} {x : Itk} (h : ItkAt w F bi N x) (hN : N ≤ M) : ItkAt w F bi M x := by
  obtain ⟨A, h1, h2, h3, h4, h5⟩ := h
  exact ⟨A, h1, h2.more hN, Nat.le_trans h3 hN, Nat.le_trans h4 hN, h5⟩
/-- what every deed leaves: the intake, with blocks of its own and new ones; all else as it was -/
def Deeds (w : World) (F : Nat → Prop) (bi N : Nat) (x : Itk) (w' : World) : Prop := ∃ F', ItkAt w' F' bi N x ∧ Keep F w w' ∧ ∀ b, F' b → F b ∨ w.heap.size ≤ b
end Go.Proofs.YtoljbbmjbgepiaaGreatDoor
