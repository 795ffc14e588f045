/-
  A sieve's round.
  Layer 6: rise, Tick.
  Layer 6: name.
  Layer 6: Hear, New.
  A map from identities to bools, used as a set.
  Layer 8: the intake in memory.
  Layer 8: identity, refused.
  Layer 8: Drop's sieve.
  Layer 8: Drop.
-/
import Derived.Test.YtdjoaboalknlkaaGreatDoorLGnB
import Derived.Test.YtdjoaboalknlkaaGreatDoorLClkTold
import Derived.RegionTactic
import Derived.Laws.RangeAny
import Derived.Shelf.GgClosure.StringsIndexFuncTop
import Derived.Test.YtdjoaboalknlkaaGreatDoorLMapS
import Derived.DeepKeys4
import Derived.Test.YtdjoaboalknlkaaGreatDoorLItkPlain
import Derived.Test.YtdjoaboalknlkaaGreatDoorLHad
import Derived.StillTailTactics
import Derived.Deep.RegionLaw
import Derived.IntWalk
namespace Go.Proofs.YtdjoaboalknlkaaGreatDoor
open Go.RowKit

end Go.Proofs.YtdjoaboalknlkaaGreatDoor
namespace Go.Proofs.YtdjoaboalknlkaaGreatDoor
open Go.RowKit Go.Maps Go.Sort

end Go.Proofs.YtdjoaboalknlkaaGreatDoor
namespace Go.Proofs.YtdjoaboalknlkaaGreatDoor
open Go.RowKit Go.Maps Go.Sort

/-- a rune that no name has -/
def oddR (r : Nat) : Bool := !((decide (97 ≤ r) && decide (r ≤ 122)) || (decide (48 ≤ r) && decide (r ≤ 57)) || decide (r = 45))

theorem name1_any (w : World) (r : Nat) : Calls Tryz.prog 96 #[.int .i32 r] w fun e w' => e = .returned (.bool (oddR r)) ∧ ∃ q, w' = w.drewN q := by
  have key : ∀ a b : Bool, oddR r = a → Calls Tryz.prog 96 #[.int .i32 r] w (fun e w' => e = .returned (.bool a) ∧ w = w') → Calls Tryz.prog 96 #[.int .i32 r] w fun e w' => e = .returned (.bool (oddR r)) ∧ ∃ q, w' = w.drewN q := fun a _ h hc => by
    rw [h]; exact hc.mono fun _ _ h => ⟨h.1, 0, h.2.symm⟩
  by_cases h1 : 97 ≤ r
  · have d1 : decide (97 ≤ (r : Int)) = true := decide_eq_true (by omega)
    by_cases h2 : r ≤ 122
    · have d2 : decide ((r : Int) ≤ 122) = true := decide_eq_true (by omega)
      refine key false false (by unfold oddR; simp [h1, h2]) ?_
      go_enter Tryz.func96, Tryz.ntmps96
      go_wp2
      go_ret
      exact ⟨rfl, rfl⟩
    · have d2 : decide ((r : Int) ≤ 122) = false := decide_eq_false (by omega)
      have d3 : decide (48 ≤ (r : Int)) = true := decide_eq_true (by omega)
      have d4 : decide ((r : Int) ≤ 57) = false := decide_eq_false (by omega)
      have d5 : ((r : Int) == 45) = false := by simp; omega
      refine key true false (by unfold oddR; simp; omega) ?_
      go_enter Tryz.func96, Tryz.ntmps96
      go_wp2
      go_ret
      exact ⟨rfl, rfl⟩
  · have d1 : decide (97 ≤ (r : Int)) = false := decide_eq_false (by omega)
    by_cases h3 : 48 ≤ r
    · have d3 : decide (48 ≤ (r : Int)) = true := decide_eq_true (by omega)
      by_cases h4 : r ≤ 57
      · have d4 : decide ((r : Int) ≤ 57) = true := decide_eq_true (by omega)
        refine key false false (by unfold oddR; simp; omega) ?_
        go_enter Tryz.func96, Tryz.ntmps96
        go_wp2
        go_ret
        exact ⟨rfl, rfl⟩
      · have d4 : decide ((r : Int) ≤ 57) = false := decide_eq_false (by omega)
        have d5 : ((r : Int) == 45) = false := by simp; omega
        refine key true false (by unfold oddR; simp; omega) ?_
        go_enter Tryz.func96, Tryz.ntmps96
        go_wp2
        go_ret
        exact ⟨rfl, rfl⟩
    · have d3 : decide (48 ≤ (r : Int)) = false := decide_eq_false (by omega)
      by_cases h5 : r = 45
      · have d5 : ((r : Int) == 45) = true := by simp; omega
        refine key false false (by unfold oddR; simp; omega) ?_
        clear h5
        go_enter Tryz.func96, Tryz.ntmps96
        go_wp2
        go_ret
        exact ⟨rfl, rfl⟩
      · have d5 : ((r : Int) == 45) = false := by simp; omega
        refine key true false (by unfold oddR; simp; omega) ?_
        go_enter Tryz.func96, Tryz.ntmps96
        go_wp2
        go_ret
        exact ⟨rfl, rfl⟩

theorem idx_name (s : ByteArray) : ∀ (f pos : Nat), s.size ≤ pos + f → (Lib.idxFuncFrom oddR true s f pos = -1 ↔ ∀ j (h : j < s.size), pos ≤ j → nameC s[j] = true)
  | 0, pos, h => by
    simp only [Lib.idxFuncFrom, true_iff]
    intro j hj hp; omega
  | f + 1, pos, h => by
    unfold Lib.idxFuncFrom
    by_cases hlt : pos < s.size
    · rw [if_pos hlt]
      by_cases ha : s[pos].toNat < 128
      · have hd := decode_ascii s pos hlt ha
        rw [hd]
        simp only
        have hodd : oddR s[pos].toNat = !nameC s[pos] := by unfold oddR nameC; rfl
        rw [hodd]
        cases hc : nameC s[pos]
        · simp only [Bool.not_false, if_true]
          constructor
          · intro h'; omega
          · intro h'; have := h' pos hlt (Nat.le_refl _); rw [hc] at this; cases this
        · simp only [Bool.not_true, Bool.false_eq_true, if_false]
          rw [idx_name s f (pos + 1) (by omega)]
          constructor
          · intro h' j hj hp
            by_cases e : j = pos
            · subst e; exact hc
            · exact h' j hj (by omega)
          · intro h' j hj hp; exact h' j hj (by omega)
      · have hd := (decode_high s pos hlt (by omega)).1
        have hodd : oddR (Utf8.decode s pos).1 = true := by unfold oddR; simp; omega
        rw [if_pos hodd]
        constructor
        · intro h'; omega
        · intro h'
          have := h' pos hlt (Nat.le_refl _)
          unfold nameC at this
          simp at this
          omega
    · rw [if_neg hlt]
      simp only [true_iff]
      intro j hj hp; omega
theorem idx_nameB (l : List UInt8) (h1 : 1 ≤ l.length) (h2 : l.length ≤ 24) : decide (Lib.idxFunc oddR true ⟨l.toArray⟩ < 0) = nameB l := by
  have key := idx_name ⟨l.toArray⟩ (ByteArray.size ⟨l.toArray⟩) 0 (by omega)
  have hr := Lib.idxFunc_range oddR true ⟨l.toArray⟩
  have hs : (⟨l.toArray⟩ : ByteArray).size = l.length := by simp [ByteArray.size]
  by_cases hn : nameB l = true
  · rw [hn]
    refine decide_eq_true ?_
    have : Lib.idxFunc oddR true ⟨l.toArray⟩ = -1 := key.2 fun j hj _ => by
      unfold nameB at hn
      simp only [Bool.and_eq_true, List.all_eq_true] at hn
      exact hn.2 l[j] (List.getElem_mem (by omega))
    omega
  · rw [Bool.not_eq_true] at hn
    rw [hn]
    refine decide_eq_false fun hlt => ?_
    have h' : Lib.idxFunc oddR true ⟨l.toArray⟩ = -1 := by omega
    have := key.1 h'
    rw [nameB_good h1 h2 (fun j hj => this j (by omega) (Nat.zero_le _))] at hn
    cases hn

theorem cname_any (w : World) (l : List UInt8) : Calls Tryz.prog 69 #[.string ⟨l.toArray⟩] w (Says (nameB l) w) := by
  by_cases h0 : l.length < 1
  · have HN := Lib.hid (nameB_short (.inl h0))
    go_enter Tryz.func69, Tryz.ntmps69
    go_wp2
    go_ret
    exact ⟨ret_bool HN.out.symm, Below.refl _ _⟩
  by_cases h24 : 24 < l.length
  · have HN := Lib.hid (nameB_short (.inr h24))
    go_enter Tryz.func69, Tryz.ntmps69
    go_wp2
    go_ret
    exact ⟨ret_bool HN.out.symm, Below.refl _ _⟩
  have d0 : decide ((l.length : Int) < 1) = false := decide_eq_false (by omega)
  have d1 : decide (24 < (l.length : Int)) = false := decide_eq_false (by omega)
  have HN := Lib.hid (idx_nameB l (by omega) (by omega))
  have hr := Lib.idxFunc_range oddR true ⟨l.toArray⟩
  go_enter Tryz.func69, Tryz.ntmps69
  go_wp2_with fail
  refine (Tryz.strings_IndexFunc 96 #[] (fun _ _ => by kernel_rfl) oddR ⟨l.toArray⟩ w (fun W x _ => name1_any W x)).mono ?_
  rintro e w1 ⟨rfl, hb⟩
  generalize Lib.idxFunc oddR true ⟨l.toArray⟩ = i at *
  clear hr
  go_wp2
  go_ret
  exact ⟨ret_bool HN.out, hb⟩
end Go.Proofs.YtdjoaboalknlkaaGreatDoor
namespace Go.Proofs.YtdjoaboalknlkaaGreatDoor
open Go.RowKit Go.Maps Go.Sort

theorem zeroSrc (w : World) : (zeroValue 127).run Tryz.prog w = .ok (.agg #[.int .i64 0, .int .i64 0]) w := by kernel_rfl

theorem look_src {w : World} {bc bm : Nat} {c : Clk} (h : ClockAt w bc bm c) (l : List UInt8) (hl : l.length ≤ 24) :
    (Instr.lookup 104 (.map (some bm)) (.string ⟨l.toArray⟩) false).run Tryz.prog w = .ok (.agg #[.int .i64 ((getB c.src l).getD (0, 0)).1, .int .i64 ((getB c.src l).getD (0, 0)).2]) w := by
  rw [h.map.look l (by unfold maxLen; omega) _ _ Tryz.underlying104 _ (zeroSrc w)]
  unfold srcRow
  rw [getB_map]
  cases getB c.src l <;> rfl

/-- a new clock: its block and its map are new -/
def ClkNewPost (w : World) (c : Clk) (e : Ending) (w' : World) : Prop := ∃ bc bm, e = .returned (.pointer (some ⟨bc, 0, none⟩)) ∧ ClockAt w' bc bm c ∧ w.heap.size ≤ bc ∧ w.heap.size ≤ bm ∧ Below w.heap.size w w'
theorem clknew_any (w : World) (slack idle : Int) : Calls Tryz.prog 19 #[.int .i64 slack, .int .i64 idle] w (ClkNewPost w (Clk.new slack idle)) := by
  have HN := Lib.hid (show Clk.new slack idle = ⟨boundI slack, boundI idle, 0, -1, []⟩ from rfl)
  have hmm := @run_makeMap Tryz.prog
  go_enter Tryz.func19, Tryz.ntmps19
  go_wp2_with fail
  refine (bound_any w slack).mono ?_
  rintro e w1 ⟨rfl, rfl⟩
  go_wp2_with fail
  refine (bound_any w idle).mono ?_
  rintro e w1 ⟨rfl, rfl⟩
  go_wp2
  go_ret
  refine ⟨w.heap.size + 1, w.heap.size, rfl, ⟨?_, ?_, ClkOk.new slack idle⟩, by omega, Nat.le_refl _, ((Below.refl _ _).alloc (Nat.le_refl _) _).alloc (by simp) _⟩
  · rw [HN.out]
    have := heap_alloc_new (w.alloc (.map #[] 0)) (clkObj ⟨boundI slack, boundI idle, 0, -1, []⟩ w.heap.size)
    simpa using this
  · rw [HN.out]
    exact (MapS.made w).block (Below.heap_alloc _ _ _ (by simp))
end Go.Proofs.YtdjoaboalknlkaaGreatDoor
namespace Go.Proofs.YtdjoaboalknlkaaGreatDoor
open Go.RowKit Go.Maps Go.Sort

def idV (s : List UInt8) (n : Int) : Value := .agg #[.string ⟨s.toArray⟩, .int .i64 n]
def idLit (s : List UInt8) (n : Int) : Lit := .string (keyBytes [.string s, .int .i64 n])
def idOk (s : List UInt8) (n : Int) : Prop := s.length ≤ 1000000000 ∧ -9223372036854775808 ≤ n ∧ n ≤ 9223372036854775807

theorem id_laid : laidOutB Tryz.prog = true := by kernel_rfl
theorem id_row : (138 : TypeId) < Tryz.prog.types.size := of_decide_eq_true (by kernel_rfl)
theorem id_wide : (match Tryz.prog.underlying 138 with | some (.array _ _) | some (.struct _) => true | _ => false) = true := by rw [Tryz.underlying138]
theorem id_kt : Tryz.prog.keyTypeAt 2 138 = true := by kernel_rfl
set_option maxRecDepth 100000 in
theorem keyId : Keyed Tryz.prog 138 := Keyed.of_law (deep_law_laid id_laid (m := 2) (by omega) id_row id_kt id_wide)
theorem id_type : Tryz.prog.keyType 138 = true := by kernel_rfl
theorem id_cells : Tryz.prog.cellsOf 138 = 2 := by kernel_rfl
theorem id_cells_s : Tryz.prog.cellsOf 9 = 1 := by kernel_rfl
theorem id_cells_i : Tryz.prog.cellsOf 3 = 1 := by kernel_rfl
theorem id_size : ∃ k, Tryz.prog.types.size = k + 1 := ⟨Tryz.prog.types.size - 1, by kernel_rfl⟩

theorem id_key (s : List UInt8) (n : Int) (h : idOk s n) : keyOf Tryz.prog 138 (idV s n) = some (idLit s n) := by
  obtain ⟨h1, h2, h3⟩ := h
  obtain ⟨k, hk⟩ := id_size
  have hs : (⟨s.toArray⟩ : ByteArray).size ≤ maxLen := by simp [ByteArray.size]; unfold maxLen; omega
  have hw : (Lit.int .i64 n).wf = true := by simp [Lit.wf, IntKind.min, IntKind.max, IntKind.bits, IntKind.signed]; omega
  have hlits : ∀ d, Tryz.prog.keyLits (d + 2) 138 [.string ⟨s.toArray⟩, .int .i64 n] = some [.string s, .int .i64 n] := fun d => by
    simp [Program.keyLits, Tryz.underlying138, Tryz.underlying9, Tryz.underlying3, id_cells, id_cells_s, id_cells_i, hs, hw]
  unfold keyOf idV idLit
  rw [Tryz.underlying138, hk]
  simp only [id_type, Value.formed, Tryz.underlying138, id_cells]
  simp [Value.cells, hlits]

theorem idLit_inj {s s' : List UInt8} {n n' : Int} (h : idOk s n) (h' : idOk s' n') (e : idLit s n = idLit s' n') : s = s' ∧ n = n' := by
  have := keyId.inj (id_key s n h) (by rw [e]; exact id_key s' n' h')
  unfold idV at this
  simpa using this

/-- block b is a map that holds true just at these identities -/
def SetI (w : World) (b n : Nat) (ks : List (List UInt8 × Int)) : Prop :=
  ∃ D : DataW Unit, w.ownsMap Tryz.prog 138 (plainElem Tryz.prog 4) b n D ∧ Tidy D ∧ ∀ s k, idOk s k → D.atKey (idLit s k) (.lit (.bool false)) = .lit (.bool (decide ((s, k) ∈ ks)))
theorem SetI.made (w : World) : SetI (w.alloc (.map #[] 0)) w.heap.size 0 [] := ⟨.map [], World.ownsMap_made _ _ _ _, tidy_empty, fun s k _ => by simp [DataW.atKey]⟩
theorem SetI.lt {w : World} {b n : Nat} {ks : List (List UInt8 × Int)} (h : SetI w b n ks) : b < w.heap.size := by obtain ⟨D, h1, _⟩ := h; exact h1.lt
theorem SetI.block {w w' : World} {b n : Nat} {ks : List (List UInt8 × Int)} (h : SetI w b n ks) (hb : w'.heap[b]? = w.heap[b]?) : SetI w' b n ks := by
  obtain ⟨D, ⟨es, clock, h1, h2⟩, h3⟩ := h
  exact ⟨D, ⟨es, clock, hb.trans h1, h2⟩, h3⟩
theorem SetI.isMap {w : World} {b n : Nat} {ks : List (List UInt8 × Int)} (h : SetI w b n ks) : ∃ es clock, w.heap[b]? = some (.map es clock) := by
  obtain ⟨D, ⟨es, clock, h1, h2⟩, h3⟩ := h
  exact ⟨es, clock, h1⟩
theorem SetB.isMap {w : World} {b n : Nat} {ks : List (List UInt8)} (h : SetB w b n ks) : ∃ es clock, w.heap[b]? = some (.map es clock) := by
  obtain ⟨D, ⟨es, clock, h1, h2⟩, h3⟩ := h
  exact ⟨es, clock, h1⟩
theorem SetI.look {w : World} {b n : Nat} {ks : List (List UInt8 × Int)} (h : SetI w b n ks) (s : List UInt8) (k : Int) (hk : idOk s k) :
    (Instr.lookup 58 (.map (some b)) (.agg #[.string ⟨s.toArray⟩, .int .i64 k]) false).run Tryz.prog w = .ok (.bool (decide ((s, k) ∈ ks))) w := by
  obtain ⟨D, h1, _, h3⟩ := h
  obtain ⟨v, ps, hr, hv⟩ := h1.lookup keyId Tryz.underlying58 (zeroB w) (plainElem_bool (P := Tryz.prog) Tryz.underlying4 false) (id_key s k hk)
  unfold idV at hr
  rw [hr]
  rw [h3 s k hk] at hv
  rw [plainElem_bool_inv Tryz.underlying4 hv]
theorem SetI.put {w : World} {b n : Nat} {ks : List (List UInt8 × Int)} (h : SetI w b n ks) (hn : n < maxLen) (s : List UInt8) (k : Int) (hk : idOk s k) :
    ∃ w', (Instr.mapUpdate 58 (.map (some b)) (.agg #[.string ⟨s.toArray⟩, .int .i64 k]) (.bool true)).run Tryz.prog w = .ok () w' ∧ SetI w' b (n + 1) ((s, k) :: ks) ∧ w.grownBy w' (some b) := by
  obtain ⟨D, h1, h2, h3⟩ := h
  obtain ⟨w', hr, r1, r2⟩ := h1.update keyId Tryz.underlying58 hn (id_key s k hk) (plainElem_bool (P := Tryz.prog) Tryz.underlying4 true)
  have hkl : WideAt.IsKeyLit (idLit s k) := keyId.key (id_key s k hk)
  refine ⟨w', hr, ⟨D.put (idLit s k) (.lit (.bool true)), r1, h2.put hkl _, fun s' k' hk' => ?_⟩, r2⟩
  by_cases e : (s', k') = (s, k)
  · cases e
    rw [atKey_put_same h2.isMap hkl]; simp
  · have hne : idLit s' k' ≠ idLit s k := fun h => e (by obtain ⟨rfl, rfl⟩ := idLit_inj hk' hk h; rfl)
    rw [atKey_put_other hne, h3 s' k' hk']
    have : decide ((s', k') ∈ (s, k) :: ks) = decide ((s', k') ∈ ks) := by simp [e]
    rw [this]
theorem wpList_idput {ops : Array Oper} {rest : List Oper} {o : Oper} {a : Act} {Q : Exit → Act → World → Prop} {w : World} (hg : o.guard = none) (m x v : Operand) (hop : o.op = Op.mapUpdate 58 m x v)
    (b n : Nat) (ks : List (List UInt8 × Int)) (hm : a.eval m = .map (some b)) (hown : SetI w b n ks) (hn : n < maxLen) (s : List UInt8) (k : Int) (hx : a.eval x = .agg #[.string ⟨s.toArray⟩, .int .i64 k]) (hk : idOk s k) (hv : a.eval v = .bool true)
    (h : ∀ w', SetI w' b (n + 1) ((s, k) :: ks) → w.grownBy w' (some b) → wpList Tryz.prog ops Q rest (a.put o.dst undef) w') : wpList Tryz.prog ops Q (o :: rest) a w := by
  refine wpList_plain hg fun K hK => ?_
  obtain ⟨w', hr, h1, h2⟩ := hown.put hn s k hk
  unfold Oper.wp
  simp [execOp, hop, hm, hx, hv, hr, Result.andThen]
  exact hK _ _ (h w' h1 h2)
end Go.Proofs.YtdjoaboalknlkaaGreatDoor
namespace Go.Proofs.YtdjoaboalknlkaaGreatDoor
open Go.RowKit Go.Maps Go.Sort

/-- where the parts of an intake lie -/
structure ItkA where
  bc : Nat
  bm : Nat
  bs : Nat
  bh : Nat
  G : Nat → Prop
  V : List UInt8 → Value
  vt : Value
  vl : Value
  bl : Nat
  nl : Nat
  bg : Nat
  ng : Nat
abbrev itkObj (A : ItkA) : Obj := .cells #[.pointer (some ⟨A.bc, 0, none⟩), .pointer (some ⟨A.bs, 0, none⟩), A.vt, A.vl, .map (some A.bl), .map (some A.bg)] 61

theorem OwnE.keep {w w' : World} {base : Nat} {v : Value} {l : List Ev} (h : OwnE w base v l) (hb : ∀ b, v.ownBlock = some b → w'.heap[b]? = w.heap[b]?) : OwnE w' base v l := by
  refine ⟨h.1, ?_⟩
  rcases h.2 with h' | ⟨g, cap, cur, rfl, hb', hg, hr⟩
  · exact .inl h'
  · exact .inr ⟨g, cap, cur, rfl, hb', (hb g rfl).trans hg, hr⟩
theorem OwnE.lt {w : World} {base : Nat} {v : Value} {l : List Ev} (h : OwnE w base v l) {b : Nat} (hb : v.ownBlock = some b) : b < w.heap.size := (World.ownsRow.lt h b hb).2
theorem OwnE.low {w : World} {base : Nat} {v : Value} {l : List Ev} (h : OwnE w base v l) : OwnE w 0 v l := by
  refine ⟨h.1, ?_⟩
  rcases h.2 with h' | ⟨g, cap, cur, e, _, r⟩
  · exact .inl h'
  · exact .inr ⟨g, cap, cur, e, Nat.zero_le _, r⟩
theorem ne_map {w : World} {a b : Nat} {c1 : Array Value} {t1 : TypeId} {f1 : Nat × Nat} {es : Array MapEntry} {cl : Nat} (h1 : w.heap[a]? = some (.cells c1 t1 f1)) (h2 : w.heap[b]? = some (.map es cl)) : a ≠ b := by
  rintro rfl; rw [h1] at h2; cases h2
structure ItkMem (w : World) (bi : Nat) (A : ItkA) (x : Itk) : Prop where
  blk : w.heap[bi]? = some (itkObj A)
  clk : ClockAt w A.bc A.bm x.clk
  had : HadAt w A.G A.bs A.bh x.had A.V
  taken : OwnE w 0 A.vt x.taken
  late : OwnE w 0 A.vl x.late
  lates : SetI w A.bl A.nl (x.late.map idOf)
  gone : SetB w A.bg A.ng x.gone
  ml : A.bm ≠ A.bl
  mg : A.bm ≠ A.bg
  lg : A.bl ≠ A.bg
  gm : ¬ A.G A.bm
  gl : ¬ A.G A.bl
  gg : ¬ A.G A.bg
  tl : ∀ b, A.vt.ownBlock = some b → A.vl.ownBlock ≠ some b

/-- all its blocks -/
def ItkA.foot (A : ItkA) (bi b : Nat) : Prop := b = bi ∨ b = A.bc ∨ b = A.bm ∨ A.G b ∨ A.vt.ownBlock = some b ∨ A.vl.ownBlock = some b ∨ b = A.bl ∨ b = A.bg

section
variable {w w' : World} {bi : Nat} {A : ItkA} {x : Itk}
theorem ItkMem.lt (h : ItkMem w bi A x) {b : Nat} (hb : A.foot bi b) : b < w.heap.size := by
  rcases hb with rfl | rfl | rfl | hb | hb | hb | rfl | rfl
  · exact heap_lt h.blk
  · exact h.clk.lt
  · exact h.clk.map.lt
  · exact h.had.lt b hb
  · exact h.taken.lt hb
  · exact h.late.lt hb
  · exact h.lates.lt
  · exact h.gone.lt
theorem ItkMem.keep (h : ItkMem w bi A x) (hsz : w.heap.size ≤ w'.heap.size) (hk : ∀ b, A.foot bi b → w'.heap[b]? = w.heap[b]?) : ItkMem w' bi A x :=
  { h with
    blk := (hk _ (.inl rfl)).trans h.blk
    clk := h.clk.keep (hk _ (.inr (.inl rfl))) (hk _ (.inr (.inr (.inl rfl))))
    had := h.had.keep hsz fun b hb => hk b (.inr (.inr (.inr (.inl hb))))
    taken := h.taken.keep fun b hb => hk b (.inr (.inr (.inr (.inr (.inl hb)))))
    late := h.late.keep fun b hb => hk b (.inr (.inr (.inr (.inr (.inr (.inl hb))))))
    lates := h.lates.block (hk _ (.inr (.inr (.inr (.inr (.inr (.inr (.inl rfl))))))))
    gone := h.gone.block (hk _ (.inr (.inr (.inr (.inr (.inr (.inr (.inr rfl)))))))) }
theorem ItkMem.up (h : ItkMem w bi A x) (hb : Below w.heap.size w w') : ItkMem w' bi A x := h.keep hb.size fun b hf => hb.block b (h.lt hf)

theorem ItkMem.il (h : ItkMem w bi A x) : bi ≠ A.bl := by obtain ⟨es, cl, hm⟩ := h.lates.isMap; exact ne_map h.blk hm
theorem ItkMem.ig (h : ItkMem w bi A x) : bi ≠ A.bg := by obtain ⟨es, cl, hm⟩ := h.gone.isMap; exact ne_map h.blk hm
theorem SetI.congr {w : World} {b n : Nat} {ks ks' : List (List UInt8 × Int)} (h : SetI w b n ks) (he : ∀ k, k ∈ ks ↔ k ∈ ks') : SetI w b n ks' := by
  obtain ⟨D, h1, h2, h3⟩ := h
  exact ⟨D, h1, h2, fun s k hk => by rw [h3 s k hk, decide_eq_decide.2 (he (s, k))]⟩

end

/-- block bi is an intake; all its blocks are in F; N bounds how much it has -/
def ItkAt (w : World) (F : Nat → Prop) (bi N : Nat) (x : Itk) : Prop := ∃ A, ItkMem w bi A x ∧ ItkOk N x ∧ A.nl ≤ N ∧ A.ng ≤ N ∧ (∀ b, A.foot bi b → F b) ∧ ∀ b, F b → b < w.heap.size
theorem ItkAt.keep {w w' : World} {F : Nat → Prop} {bi N : Nat} {x : Itk} (h : ItkAt w F bi N x) (hsz : w.heap.size ≤ w'.heap.size) (hk : ∀ b, F b → w'.heap[b]? = w.heap[b]?) : ItkAt w' F bi N x := by
  obtain ⟨A, h1, h2, h3, h4, h5, h6⟩ := h
  exact ⟨A, h1.keep hsz (fun b hb => hk b (h5 b hb)), h2, h3, h4, h5, fun b hb => Nat.lt_of_lt_of_le (h6 b hb) hsz⟩
theorem ItkAt.up {w w' : World} {F : Nat → Prop} {bi N : Nat} {x : Itk} (h : ItkAt w F bi N x) (hb : Below w.heap.size w w') : ItkAt w' F bi N x := by
  obtain ⟨A, h1, h2, h3, h4, h5, h6⟩ := h
  exact ItkAt.keep ⟨A, h1, h2, h3, h4, h5, h6⟩ hb.size fun b hf => hb.block b (h6 b hf)
end Go.Proofs.YtdjoaboalknlkaaGreatDoor
namespace Go.Proofs.YtdjoaboalknlkaaGreatDoor
open Go.RowKit Go.Maps Go.Sort

structure ItkCells (w : World) (bi : Nat) (A : ItkA) : Prop where
  c0 : w.cell? ⟨bi, 0, none⟩ = some (.pointer (some ⟨A.bc, 0, none⟩))
  c1 : w.cell? ⟨bi, 1, none⟩ = some (.pointer (some ⟨A.bs, 0, none⟩))
  c2 : w.cell? ⟨bi, 2, none⟩ = some A.vt
  c3 : w.cell? ⟨bi, 3, none⟩ = some A.vl
  c4 : w.cell? ⟨bi, 4, none⟩ = some (.map (some A.bl))
  c5 : w.cell? ⟨bi, 5, none⟩ = some (.map (some A.bg))
  f2 : w.frozen? ⟨bi, 2, none⟩ = false
  f3 : w.frozen? ⟨bi, 3, none⟩ = false
  f4 : w.frozen? ⟨bi, 4, none⟩ = false
theorem ItkMem.cells {w : World} {bi : Nat} {A : ItkA} {x : Itk} (h : ItkMem w bi A x) : ItkCells w bi A := by
  have key : ∀ o, w.cell? ⟨bi, o, none⟩ = _ := fun o => cell_of_row w bi o _ _ (0, 0) h.blk
  exact ⟨(key 0).trans rfl, (key 1).trans rfl, (key 2).trans rfl, (key 3).trans rfl, (key 4).trans rfl, (key 5).trans rfl, frozen_of_row w bi 2 _ _ h.blk, frozen_of_row w bi 3 _ _ h.blk, frozen_of_row w bi 4 _ _ h.blk⟩
theorem OwnE.form {w : World} {base : Nat} {v : Value} {l : List Ev} (h : OwnE w base v l) : ∃ B c, v = .slice B l.length c ∧ c ≤ maxLen := by
  rcases h.2 with ⟨e, h0⟩ | ⟨g, c, cur, e, _, _, _, hm, _⟩
  · exact ⟨none, 0, by rw [e, h0], by unfold maxLen; omega⟩
  · exact ⟨_, _, e, hm⟩

theorem ident_any (w : World) (e : Ev) : Calls Tryz.prog 75 #[e.agg] w fun r w' => r = .returned (.agg #[.string ⟨e.src.toArray⟩, .int .i64 e.num]) ∧ Below w.heap.size w w' := by
  unfold Ev.agg
  go_enter Tryz.func75, Tryz.ntmps75
  go_wp2
  exact bodyPost_ret (v := .agg #[.string ⟨e.src.toArray⟩, .int .i64 e.num]) (by simp [results, Tryz.results75, go_sem]) rfl ⟨rfl, ((Below.refl _ _).alloc (Nat.le_refl _) _).alloc (by simp) _⟩

end Go.Proofs.YtdjoaboalknlkaaGreatDoor
namespace Go.Proofs.YtdjoaboalknlkaaGreatDoor
open Go.RowKit

end Go.Proofs.YtdjoaboalknlkaaGreatDoor
namespace Go.Proofs.YtdjoaboalknlkaaGreatDoor
open Go.RowKit Go.Maps Go.Sort

theorem may_id {e : Ev} (h : mayB e = true) : idOk e.src e.num := by
  unfold mayB headB nameB at h
  simp only [Bool.and_eq_true, decide_eq_true_eq] at h
  exact ⟨by omega, by omega, by omega⟩
end Go.Proofs.YtdjoaboalknlkaaGreatDoor
