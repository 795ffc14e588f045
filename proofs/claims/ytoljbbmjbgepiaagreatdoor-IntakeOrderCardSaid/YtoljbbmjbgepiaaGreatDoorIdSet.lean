/-
  A map from identities to bools, used as a set.
-/
import Derived.Test.YtoljbbmjbgepiaaGreatDoorMapS
import Derived.DeepKeys4
namespace Go.Proofs.YtoljbbmjbgepiaaGreatDoor
open Go.RowKit Go.Maps Go.Sort

def idV (s : List UInt8) (n : Int) : Value := .agg #[.string ⟨s.toArray⟩, .int .i64 n]
def idLit (s : List UInt8) (n : Int) : Lit := .string (keyBytes [.string s, .int .i64 n])
def idOk (s : List UInt8) (n : Int) : Prop := s.length ≤ 1000000000 ∧ -9223372036854775808 ≤ n ∧ n ≤ 9223372036854775807

theorem id_laid : laidOutB Tryz.prog = true := by kernel_rfl
theorem id_row : (100 : TypeId) < Tryz.prog.types.size := of_decide_eq_true (by kernel_rfl)
theorem id_wide : (match Tryz.prog.underlying 100 with | some (.array _ _) | some (.struct _) => true | _ => false) = true := by rw [Tryz.underlying100]
theorem id_kt : Tryz.prog.keyTypeAt 2 100 = true := by kernel_rfl
set_option maxRecDepth 100000 in
theorem keyId : Keyed Tryz.prog 100 := Keyed.of_law (deep_law_laid id_laid (m := 2) (by omega) id_row id_kt id_wide)
theorem id_type : Tryz.prog.keyType 100 = true := by kernel_rfl
theorem id_cells : Tryz.prog.cellsOf 100 = 2 := by kernel_rfl
theorem id_cells_s : Tryz.prog.cellsOf 9 = 1 := by kernel_rfl
theorem id_cells_i : Tryz.prog.cellsOf 3 = 1 := by kernel_rfl
theorem id_size : ∃ k, Tryz.prog.types.size = k + 1 := ⟨Tryz.prog.types.size - 1, by kernel_rfl⟩

theorem id_key (s : List UInt8) (n : Int) (h : idOk s n) : keyOf Tryz.prog 100 (idV s n) = some (idLit s n) := by
  obtain ⟨h1, h2, h3⟩ := h
  obtain ⟨k, hk⟩ := id_size
  have hs : (⟨s.toArray⟩ : ByteArray).size ≤ maxLen := by simp [ByteArray.size]; unfold maxLen; omega
  have hw : (Lit.int .i64 n).wf = true := by simp [Lit.wf, IntKind.min, IntKind.max, IntKind.bits, IntKind.signed]; omega
  have hlits : ∀ d, Tryz.prog.keyLits (d + 2) 100 [.string ⟨s.toArray⟩, .int .i64 n] = some [.string s, .int .i64 n] := fun d => by
    simp [Program.keyLits, Tryz.underlying100, Tryz.underlying9, Tryz.underlying3, id_cells, id_cells_s, id_cells_i, hs, hw]
  unfold keyOf idV idLit
  rw [Tryz.underlying100, hk]
  simp only [id_type, Value.formed, Tryz.underlying100, id_cells]
  simp [Value.cells, hlits]

theorem idLit_inj {s s' : List UInt8} {n n' : Int} (h : idOk s n) (h' : idOk s' n') (e : idLit s n = idLit s' n') : s = s' ∧ n = n' := by
  have := keyId.inj (id_key s n h) (by rw [e]; exact id_key s' n' h')
  unfold idV at this
  simpa using this

/-- block b is a map that holds true just at these identities -/
def SetI (w : World) (b n : Nat) (ks : List (List UInt8 × Int)) : Prop :=
  ∃ D : DataW Unit, w.ownsMap Tryz.prog 100 (plainElem Tryz.prog 4) b n D ∧ Tidy D ∧ ∀ s k, idOk s k → D.atKey (idLit s k) (.lit (.bool false)) = .lit (.bool (decide ((s, k) ∈ ks)))
theorem SetI.made (w : World) : SetI (w.alloc (.map #[] 0)) w.heap.size 0 [] := ⟨.map [], World.ownsMap_made _ _ _ _, tidy_empty, fun s k _ => by simp [DataW.atKey]⟩
theorem SetI.lt {w : World} {b n : Nat} {ks : List (List UInt8 × Int)} (h : SetI w b n ks) : b < w.heap.size := by obtain ⟨D, h1, _⟩ := h; exact h1.lt
theorem SetI.block {w w' : World} {b n : Nat} {ks : List (List UInt8 × Int)} (h : SetI w b n ks) (hb : w'.heap[b]? = w.heap[b]?) : SetI w' b n ks := by
  obtain ⟨D, ⟨es, clock, h1, h2⟩, h3⟩ := h
  exact ⟨D, ⟨es, clock, hb.trans h1, h2⟩, h3⟩
theorem SetI.isMap {w : World} {b n : Nat} {ks : List (List UInt8 × Int)} (h : SetI w b n ks) : ∃ es clock, w.heap[b]? = some (.map es clock) := by
  obtain ⟨D, ⟨es, clock, h1, h2⟩, h3⟩ := h
  exact ⟨es, clock, h1⟩
theorem SetB.isMap {w : World} {b n : Nat} {ks : List (List UInt8)} (h : SetB w b n ks) : ∃ es clock, w.heap[b]? = some (.map es clock) := by
  obtain ⟨D, ⟨es, clock, h1, h2⟩, h3⟩ := h
  exact ⟨es, clock, h1⟩
theorem SetI.look {w : World} {b n : Nat} {ks : List (List UInt8 × Int)} (h : SetI w b n ks) (s : List UInt8) (k : Int) (hk : idOk s k) :
    (Instr.lookup 75 (.map (some b)) (.agg #[.string ⟨s.toArray⟩, .int .i64 k]) false).run Tryz.prog w = .ok (.bool (decide ((s, k) ∈ ks))) w := by
  obtain ⟨D, h1, _, h3⟩ := h
  obtain ⟨v, ps, hr, hv⟩ := h1.lookup keyId Tryz.underlying75 (zeroB w) (plainElem_bool (P := Tryz.prog) Tryz.underlying4 false) (id_key s k hk)
  unfold idV at hr
  rw [hr]
  rw [h3 s k hk] at hv
  rw [plainElem_bool_inv Tryz.underlying4 hv]
theorem SetI.put {w : World} {b n : Nat} {ks : List (List UInt8 × Int)} (h : SetI w b n ks) (hn : n < maxLen) (s : List UInt8) (k : Int) (hk : idOk s k) :
    ∃ w', (Instr.mapUpdate 75 (.map (some b)) (.agg #[.string ⟨s.toArray⟩, .int .i64 k]) (.bool true)).run Tryz.prog w = .ok () w' ∧ SetI w' b (n + 1) ((s, k) :: ks) ∧ w.grownBy w' (some b) := by
  obtain ⟨D, h1, h2, h3⟩ := h
  obtain ⟨w', hr, r1, r2⟩ := h1.update keyId Tryz.underlying75 hn (id_key s k hk) (plainElem_bool (P := Tryz.prog) Tryz.underlying4 true)
  have hkl : WideAt.IsKeyLit (idLit s k) := keyId.key (id_key s k hk)
  refine ⟨w', hr, ⟨D.put (idLit s k) (.lit (.bool true)), r1, h2.put hkl _, fun s' k' hk' => ?_⟩, r2⟩
  by_cases e : (s', k') = (s, k)
  · cases e
    rw [atKey_put_same h2.isMap hkl]; simp
  · have hne : idLit s' k' ≠ idLit s k := fun h => e (by obtain ⟨rfl, rfl⟩ := idLit_inj hk' hk h; rfl)
    rw [atKey_put_other hne, h3 s' k' hk']
    have : decide ((s', k') ∈ (s, k) :: ks) = decide ((s', k') ∈ ks) := by simp [e]
    rw [this]
theorem wpList_idput {ops : Array Oper} {rest : List Oper} {o : Oper} {a : Act} {Q : Exit → Act → World → Prop} {w : World} (hg : o.guard = none) (m x v : Operand) (hop : o.op = Op.mapUpdate 75 m x v)
    (b n : Nat) (ks : List (List UInt8 × Int)) (hm : a.eval m = .map (some b)) (hown : SetI w b n ks) (hn : n < maxLen) (s : List UInt8) (k : Int) (hx : a.eval x = .agg #[.string ⟨s.toArray⟩, .int .i64 k]) (hk : idOk s k) (hv : a.eval v = .bool true)
    (h : ∀ w', SetI w' b (n + 1) ((s, k) :: ks) → w.grownBy w' (some b) → wpList Tryz.prog ops Q rest (a.put o.dst undef) w') : wpList Tryz.prog ops Q (o :: rest) a w := by
  refine wpList_plain hg fun K hK => ?_
  obtain ⟨w', hr, h1, h2⟩ := hown.put hn s k hk
  unfold Oper.wp
  simp [execOp, hop, hm, hx, hv, hr, Result.andThen]
  exact hK _ _ (h w' h1 h2)
end Go.Proofs.YtoljbbmjbgepiaaGreatDoor
