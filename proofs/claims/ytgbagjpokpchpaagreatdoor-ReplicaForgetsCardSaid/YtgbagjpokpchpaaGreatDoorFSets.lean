/-
  A map from texts to bools that is used as a set: made, stored into, asked, told rising.
-/
import Derived.Test.YtgbagjpokpchpaaGreatDoorFEv
import Derived.StringKeys
import Derived.Maps.OwnSet
import Derived.Maps.OwnOps
import Derived.Sort.KeysCollected
namespace Go.Proofs.YtgbagjpokpchpaaGreatDoor
open Go.RowKit Go.Maps Go.Sort

theorem keyS : Keyed Tryz.prog 9 := string_keyed Tryz.underlying9
theorem zeroB (w : World) : (zeroValue 4).run Tryz.prog w = .ok (.bool false) w := by kernel_rfl

theorem plainElem_bool_inv {P : Program} {e : TypeId} (he : P.underlying e = some .bool) {v : Value} {x : Bool} {ps : List MemPlace} (h : plainElem (H := Unit) P e v = some (.lit (.bool x), ps)) : v = .bool x := by
  cases v <;> simp [plainElem, he] at h
  rw [h.1]

/-- block b is a map that holds true just at these texts, and nothing else -/
def SetB (w : World) (b n : Nat) (ks : List (List UInt8)) : Prop :=
  ∃ D : DataW Unit, w.ownsMap Tryz.prog 9 (plainElem Tryz.prog 4) b n D ∧ Tidy D ∧ ∀ k : List UInt8, D.atKey (.string k) (.lit (.bool false)) = .lit (.bool (decide (k ∈ ks))) ∧ has D (.string k) = decide (k ∈ ks)

theorem SetB.made (w : World) : SetB (w.alloc (.map #[] 0)) w.heap.size 0 [] :=
  ⟨.map [], World.ownsMap_made _ _ _ _, tidy_empty, fun k => ⟨by simp [DataW.atKey], by simp [has]⟩⟩
theorem SetB.lt {w : World} {b n : Nat} {ks : List (List UInt8)} (h : SetB w b n ks) : b < w.heap.size := by obtain ⟨D, h1, _⟩ := h; exact h1.lt
theorem SetB.block {w w' : World} {b n : Nat} {ks : List (List UInt8)} (h : SetB w b n ks) (hb : w'.heap[b]? = w.heap[b]?) : SetB w' b n ks := by
  obtain ⟨D, ⟨es, clock, h1, h2⟩, h3⟩ := h
  exact ⟨D, ⟨es, clock, hb.trans h1, h2⟩, h3⟩
theorem SetB.below {w w' : World} {b n B : Nat} {ks : List (List UInt8)} (h : SetB w b n ks) (hb : Below B w w') (hB : b < B) : SetB w' b n ks := h.block (hb.block b hB)
theorem SetB.alloc {w : World} {b n : Nat} {ks : List (List UInt8)} (h : SetB w b n ks) (o : Obj) : SetB (w.alloc o) b n ks := h.block (Below.heap_alloc w o b h.lt)
theorem SetB.drewN {w : World} {b n : Nat} {ks : List (List UInt8)} (h : SetB w b n ks) (k : Nat) : SetB (w.drewN k) b n ks := h.block rfl

theorem key_str (k : List UInt8) (hk : k.length ≤ maxLen) : keyOf Tryz.prog 9 (.string ⟨k.toArray⟩) = some (.string k) := by
  have := WideMaps.keyOf_string_mk (P := Tryz.prog) Tryz.underlying9 (s := ⟨k.toArray⟩) (by simpa [ByteArray.size] using hk)
  simpa using this

theorem SetB.look {w : World} {b n : Nat} {ks : List (List UInt8)} (h : SetB w b n ks) (k : List UInt8) (hk : k.length ≤ maxLen) :
    (Instr.lookup 66 (.map (some b)) (.string ⟨k.toArray⟩) false).run Tryz.prog w = .ok (.bool (decide (k ∈ ks))) w := by
  obtain ⟨D, h1, _, h3⟩ := h
  obtain ⟨v, ps, hr, hv⟩ := h1.lookup keyS Tryz.underlying66 (zeroB w) (plainElem_bool (P := Tryz.prog) Tryz.underlying4 false) (key_str k hk)
  rw [hr]
  rw [(h3 k).1] at hv
  rw [plainElem_bool_inv Tryz.underlying4 hv]

theorem SetB.put {w : World} {b n : Nat} {ks : List (List UInt8)} (h : SetB w b n ks) (hn : n < maxLen) (k : List UInt8) (hk : k.length ≤ maxLen) :
    ∃ w', (Instr.mapUpdate 66 (.map (some b)) (.string ⟨k.toArray⟩) (.bool true)).run Tryz.prog w = .ok () w' ∧ SetB w' b (n + 1) (k :: ks) ∧ w.grownBy w' (some b) := by
  obtain ⟨D, h1, h2, h3⟩ := h
  obtain ⟨w', hr, r1, r2⟩ := h1.update keyS Tryz.underlying66 hn (key_str k hk) (plainElem_bool (P := Tryz.prog) Tryz.underlying4 true)
  have hkl : WideAt.IsKeyLit (.string k) := keyS.key (key_str k hk)
  refine ⟨w', hr, ⟨D.put (.string k) (.lit (.bool true)), r1, h2.put hkl _, fun x => ?_⟩, r2⟩
  by_cases e : x = k
  · subst e
    exact ⟨by rw [atKey_put_same h2.isMap hkl]; simp, by rw [has_put_same h2.isMap hkl]; simp⟩
  · have hne : Lit.string x ≠ .string k := fun h => e (by injection h)
    rw [atKey_put_other hne, has_put_other hne, (h3 x).1, (h3 x).2]
    have : decide (x ∈ k :: ks) = decide (x ∈ ks) := by simp [e]
    rw [this]
    exact ⟨rfl, rfl⟩

theorem wpList_setput {ops : Array Oper} {rest : List Oper} {o : Oper} {a : Act} {Q : Exit → Act → World → Prop} {w : World} (hg : o.guard = none) (m x v : Operand) (hop : o.op = Op.mapUpdate 66 m x v)
    (b n : Nat) (ks : List (List UInt8)) (hm : a.eval m = .map (some b)) (hown : SetB w b n ks) (hn : n < maxLen) (k : List UInt8) (hx : a.eval x = .string ⟨k.toArray⟩) (hk : k.length ≤ maxLen) (hv : a.eval v = .bool true)
    (h : ∀ w', SetB w' b (n + 1) (k :: ks) → w.grownBy w' (some b) → wpList Tryz.prog ops Q rest (a.put o.dst undef) w') : wpList Tryz.prog ops Q (o :: rest) a w := by
  refine wpList_plain hg fun K hK => ?_
  obtain ⟨w', hr, h1, h2⟩ := hown.put hn k hk
  unfold Oper.wp
  simp [execOp, hop, hm, hx, hv, hr, Result.andThen]
  exact hK _ _ (h w' h1 h2)

/-- the keys, as they are told sorted -/
theorem SetB.perm {w : World} {b n : Nat} {ks : List (List UInt8)} {D : DataW Unit} (h1 : w.ownsMap Tryz.prog 9 (plainElem Tryz.prog 4) b n D) (h3 : ∀ k : List UInt8, has D (.string k) = decide (k ∈ ks)) {ss : List (List UInt8)} (hnd : ss.Nodup) (hm : ∀ x, x ∈ ss ↔ x ∈ ks) :
    ss.Perm (strKeys D) := by
  obtain ⟨es, hD, hpw, _⟩ := h1.entries keyS
  obtain ⟨es', hD', hko⟩ := h1.keysOf
  obtain rfl : es = es' := by rw [hD] at hD'; simpa using hD'
  subst hD
  exact perm_strKeys hpw (fun p hp => by obtain ⟨v, hv⟩ := hko p hp; obtain ⟨x, _, hx, _⟩ := Maps.keyOf_str Tryz.underlying9 hv; exact ⟨x, hx⟩) hnd (fun x => by rw [h3 x, hm x]; simp)
end Go.Proofs.YtgbagjpokpchpaaGreatDoor
