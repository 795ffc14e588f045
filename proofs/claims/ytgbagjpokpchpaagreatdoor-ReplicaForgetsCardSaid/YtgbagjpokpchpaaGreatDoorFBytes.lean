/-
  Words for memory that all texts of this seat use: a slice that reads as bytes, and what keeps it.
  Slices of bytes that a call has made itself: appending to them, storing into them, reading them.
-/
import Derived.Test.YtgbagjpokpchpaaGreatDoorRows
import Derived.WalkKit
import Derived.Deep.QuietTactic
import Derived.BigQuiet
import Derived.Lib.Hide
import Derived.WalkSmall
import Derived.Laws.EntriesVeiled
import Derived.Lib.SlBytesConst
import Derived.Maps.AppendAt
import Derived.Deep.AppendLies
namespace Go.Proofs.YtgbagjpokpchpaaGreatDoor
open Go.RowKit

/-- the slice value 'A, n, c' reads as the bytes l, in blocks below B -/
structure Byt (w : World) (B : Nat) (A : Option Addr) (n c : Nat) (l : List UInt8) : Prop where
  len : l.length = n
  cap : n ≤ c
  max : c ≤ maxLen
  cell : 0 < n → ∃ b off, A = some ⟨b, off, none⟩ ∧ b < B ∧ ∀ i (h : i < l.length), w.cell? ⟨b, off + i, none⟩ = some (.int .u8 l[i].toNat)

section
variable {w w' : World} {B B' n c : Nat} {A : Option Addr} {l : List UInt8}
theorem Byt.keep (h : Byt w B A n c l) (hk : ∀ p : Addr, p.block < B → w'.cell? p = w.cell? p) : Byt w' B A n c l :=
  ⟨h.len, h.cap, h.max, fun hn => by
    obtain ⟨b, off, e, hb, hc⟩ := h.cell hn
    exact ⟨b, off, e, hb, fun i hi => (hk _ hb).trans (hc i hi)⟩⟩
theorem Byt.more (h : Byt w B A n c l) (hB : B ≤ B') : Byt w B' A n c l :=
  ⟨h.len, h.cap, h.max, fun hn => by
    obtain ⟨b, off, e, hb, hc⟩ := h.cell hn
    exact ⟨b, off, e, by omega, hc⟩⟩
theorem Byt.below (h : Byt w B A n c l) (hb : Below B w w') : Byt w' B A n c l := h.keep fun _ hp => hb.cell hp
theorem Byt.drewN (h : Byt w B A n c l) (k : Nat) : Byt (w.drewN k) B A n c l := h.keep fun _ _ => rfl
theorem Byt.alloc (h : Byt w B A n c l) (hB : B ≤ w.heap.size) (o : Obj) : Byt (w.alloc o) B A n c l := h.keep fun p hp => World.cell?_alloc_lt w o p (by omega)
theorem Byt.setCell (h : Byt w B A n c l) {p : Addr} (hB : B ≤ p.block) (u : Value) : Byt (w.setCell p u) B A n c l :=
  h.keep fun q hq => World.cell?_setCell_other w p q u (fun e => by subst e; omega)
theorem Byt.nil (w : World) (B : Nat) (A : Option Addr) (c : Nat) (hc : c ≤ maxLen) : Byt w B A 0 c [] := ⟨rfl, Nat.zero_le _, hc, fun h => absurd h (by omega)⟩
end

/-- as a string -/
theorem Byt.str {P : Program} {w : World} {B n c : Nat} {A : Option Addr} {l : List UInt8} (h : Byt w B A n c l) (src e dst : TypeId) (hs : P.underlying src = some (.slice e)) (he : P.underlying e = some (.int .u8)) (hd : P.underlying dst = some .string) :
    (convert src dst (.slice A n c)).run P w = .ok (.string ⟨l.toArray⟩) w := by
  rcases Nat.eq_zero_or_pos n with h0 | h0
  · subst h0
    have hl : l = [] := List.eq_nil_of_length_eq_zero h.len
    subst hl
    rcases A with _ | ⟨b, off, spot⟩
    · exact run_convert_bytes_nil w src e hs he 0 c dst hd
    · rw [run_convert_bytes_string w src dst e _ 0 c hs he hd]
      simp [Conv.bytesToString, loadCells]
      rfl
  · obtain ⟨b, off, rfl, _, hc⟩ := h.cell h0
    have := run_convert_bytes_arg (P := P) w src e hs he b off n c (l.map fun x => (x.toNat : Int)) (by simp [h.len]) (fun i hi => by
      have hi' : i < l.length := by rw [h.len]; exact hi
      rw [hc i hi']
      simp [List.getElem?_eq_getElem hi']) dst hd
    rw [this]
    simp [strOfNums, Function.comp_def]
theorem Byt.cut {w : World} {B n c b off : Nat} {l : List UInt8} (h : Byt w B (some ⟨b, off, none⟩) n c l) (lo m : Nat) (hm : lo + m ≤ n) :
    Byt w B (some ⟨b, off + lo, none⟩) m (c - lo) ((l.drop lo).take m) := by
  have hl := h.len
  have hcap := h.cap
  have hmax := h.max
  refine ⟨by simp [hl]; omega, by omega, by omega, fun h0 => ?_⟩
  obtain ⟨b', off', e, hb, hc⟩ := h.cell (by omega)
  obtain ⟨rfl, rfl⟩ : b = b' ∧ off = off' := by simpa using e
  refine ⟨b, off + lo, rfl, hb, fun i hi => ?_⟩
  have hi2 : i < m := by simp at hi; omega
  rw [Nat.add_assoc, hc (lo + i) (by omega)]
  simp

theorem Byt.take {w : World} {B n c : Nat} {A : Option Addr} {l : List UInt8} (h : Byt w B A n c l) (m : Nat) (hm : m ≤ n) : Byt w B A m c (l.take m) := by
  have hl := h.len
  have hcap := h.cap
  refine ⟨by simp [hl]; omega, by omega, h.max, fun h0 => ?_⟩
  obtain ⟨b, off, e, hb, hc⟩ := h.cell (by omega)
  refine ⟨b, off, e, hb, fun i hi => ?_⟩
  rw [hc i (by simp at hi; omega)]
  simp
theorem Byt.new (w : World) (cs : Array Value) (e : TypeId) (l : List UInt8) (h : cs = (l.map fun x => Value.int .u8 x.toNat).toArray) (n : Nat) (hn : l.length = n) (hm : n ≤ maxLen) (fr : Nat × Nat := (0, 0)) :
    Byt (w.alloc (.cells cs e fr)) (w.heap.size + 1) (some ⟨w.heap.size, 0, none⟩) n n l := by
  refine ⟨hn, Nat.le_refl _, hm, fun _ => ⟨w.heap.size, 0, rfl, by omega, fun i hi => ?_⟩⟩
  rw [cell_of_row _ w.heap.size _ cs e fr (heap_alloc_new w _), h]
  simp [hi]

theorem i64_or_nat (a b : Nat) (ha : a < 4611686018427387904) (hb : b < 4611686018427387904) : bits .or .i64 (a : Int) (b : Int) = ((a ||| b : Nat) : Int) := by
  have hx : a ||| b < 2 ^ 62 := Nat.or_lt_two_pow (by omega) (by omega)
  show IntKind.i64.wrap ((BitVec.ofInt 64 (a : Int) ||| BitVec.ofInt 64 (b : Int)).toNat : Int) = _
  rw [BitVec.toNat_or, BitVec.toNat_ofInt, BitVec.toNat_ofInt, IntKind.wrap_i64]
  rw [show ((a : Int) % ((2 ^ 64 : Nat) : Int)).toNat = a by omega, show ((b : Int) % ((2 ^ 64 : Nat) : Int)).toNat = b by omega]
  omega
theorem nat_join16 (x y : Nat) (hx : x % 65536 = 0) (hy : y < 65536) : x ||| y = x + y := nat_join 16 x y hx hy
theorem str_app (a b : List UInt8) : (⟨a.toArray⟩ : ByteArray) ++ ⟨b.toArray⟩ = ⟨(a ++ b).toArray⟩ := by
  apply ByteArray.ext
  rw [ByteArray.data_append]
  simp
theorem str_cut (l : List UInt8) (a b : Nat) : (⟨l.toArray⟩ : ByteArray).extract a b = ⟨((l.drop a).take (b - a)).toArray⟩ := by
  apply ByteArray.ext
  rw [ByteArray.data_extract]
  simp [List.take_drop]
theorem str_mid {P : Program} (t : TypeId) (h : P.underlying t = some .string) (l : List UInt8) (i j : Int) (a b : Nat) (hi : i = (a : Int)) (hj : j = (b : Int)) (h1 : a ≤ b) (h2 : b ≤ l.length) (w : World) :
    (Instr.slice t (.string ⟨l.toArray⟩) (some (.int .i64 i)) (some (.int .i64 j)) none).run P w = .ok (.string ⟨((l.drop a).take (b - a)).toArray⟩) w := by
  subst hi hj
  rw [run_slice_string w t ⟨l.toArray⟩ .i64 .i64 a b h (by omega) (by omega) (by simpa [ByteArray.size] using h2), str_cut]
  simp
theorem str_to {P : Program} (t : TypeId) (h : P.underlying t = some .string) (l : List UInt8) (j : Int) (b : Nat) (hj : j = (b : Int)) (h2 : b ≤ l.length) (w : World) :
    (Instr.slice t (.string ⟨l.toArray⟩) none (some (.int .i64 j)) none).run P w = .ok (.string ⟨(l.take b).toArray⟩) w := by
  subst hj
  rw [run_slice_string_to_if w t ⟨l.toArray⟩ .i64 b h, if_pos ⟨by omega, by simpa [ByteArray.size] using h2⟩, str_cut]
  simp
theorem ret_bool {a b : Bool} (h : a = b) : Ending.returned (.bool a) = .returned (.bool b) := by rw [h]
theorem ret_int {k : IntKind} {a b : Int} (h : a = b) : Ending.returned (.int k a) = .returned (.int k b) := by rw [h]
end Go.Proofs.YtgbagjpokpchpaaGreatDoor
namespace Go.Proofs.YtgbagjpokpchpaaGreatDoor
open Go.RowKit

theorem u8_info : (Tryz.prog.info? 5).map (fun i => (i.zero, i.size, i.bytes)) = some (some (.int .u8 0), 1, 1) := by kernel_rfl

def bvs (l : List UInt8) : List Value := l.map fun x => Value.int .u8 x.toNat
theorem bvs_length (l : List UInt8) : (bvs l).length = l.length := by simp [bvs]
theorem bvs_get (l : List UInt8) (i : Nat) (h : i < l.length) : (bvs l)[i]? = some (.int .u8 l[i].toNat) := by simp [bvs, h]
theorem bvs_append (l l' : List UInt8) : bvs (l ++ l') = bvs l ++ bvs l' := by simp [bvs]

/-- v is a slice of the call's own (its block is base or later) that holds just the bytes l -/
def OwnB (w : World) (base : Nat) (v : Value) (l : List UInt8) : Prop := w.ownsRow base 5 1 v l.length (bvs l)

theorem OwnB.nil (w : World) (base : Nat) : OwnB w base (.slice none 0 0) [] := World.ownsRow_nil _ _ _ _
theorem OwnB.byt {w : World} {base : Nat} {A : Option Addr} {n c : Nat} {l : List UInt8} (h : OwnB w base (.slice A n c) l) : Byt w w.heap.size A n c l := by
  rcases h.2 with ⟨e, hl⟩ | ⟨g, cap, cur, e, hb, hg, hnc, hm, hs, ht⟩
  · have hl' : l = [] := List.eq_nil_of_length_eq_zero hl
    subst hl'
    injection e with e1 e2 e3
    subst e1 e2 e3
    exact Byt.nil _ _ _ _ (by unfold maxLen; omega)
  · injection e with e1 e2 e3
    subst e1 e2 e3
    refine ⟨rfl, hnc, hm, fun _ => ⟨g, 0, rfl, (Array.getElem?_eq_some_iff.1 hg).1, fun i hi => ?_⟩⟩
    rw [Nat.zero_add, World.ownsRow.cellAt h i (by omega), bvs_get l i hi]
theorem OwnB.form {w : World} {base : Nat} {v : Value} {l : List UInt8} (h : OwnB w base v l) : ∃ A c, v = .slice A l.length c := by
  rcases h.2 with ⟨e, hl⟩ | ⟨g, cap, cur, e, _⟩
  · exact ⟨none, 0, by rw [e, hl]⟩
  · exact ⟨_, _, e⟩
theorem OwnB.kept {w w' : World} {base : Nat} {v : Value} {l : List UInt8} (h : OwnB w base v l) {row : Option Nat} (hg : w.grownBy w' row) (hne : v.ownBlock = none ∨ v.ownBlock ≠ row) : OwnB w' base v l :=
  World.ownsRow.kept h hg hne
theorem OwnB.below {w w' : World} {base B : Nat} {v : Value} {l : List UInt8} (h : OwnB w base v l) (hb : Below B w w') (hB : w.heap.size ≤ B) : OwnB w' base v l := by
  refine ⟨h.1, ?_⟩
  rcases h.2 with ⟨e, hl⟩ | ⟨g, cap, cur, e, hb', hg, hr⟩
  · exact .inl ⟨e, hl⟩
  · exact .inr ⟨g, cap, cur, e, hb', (hb.block g (by have := (Array.getElem?_eq_some_iff.1 hg).1; omega)).trans hg, hr⟩
theorem OwnB.base_le {w : World} {base base' : Nat} {v : Value} {l : List UInt8} (h : OwnB w base v l) (hb : base' ≤ base) : OwnB w base' v l := by
  refine ⟨h.1, ?_⟩
  rcases h.2 with ⟨e, hl⟩ | ⟨g, cap, cur, e, hb', hg, hr⟩
  · exact .inl ⟨e, hl⟩
  · exact .inr ⟨g, cap, cur, e, by omega, hg, hr⟩

theorem OwnB.alloc {w : World} {base : Nat} {v : Value} {l : List UInt8} (h : OwnB w base v l) (o : Obj) : OwnB (w.alloc o) base v l := World.ownsRow.alloc h o
theorem OwnB.lt {w : World} {base : Nat} {v : Value} {l : List UInt8} (h : OwnB w base v l) : ∀ k, v.ownBlock = some k → base ≤ k := fun k hk => (World.ownsRow.lt h k hk).1

set_option maxRecDepth 100000 in
theorem run_app8 (w : World) (ty : TypeId) (base : Nat) (v : Value) (l : List UInt8) (hown : OwnB w base v l) (B : Nat) (A : Option Addr) (m c : Nat) (l' : List UInt8) (hr : Byt w B A m c l')
    (hlen : l.length + m ≤ 1099511627776) (hbase : base ≤ w.heap.size) :
    ∃ v' w', (Builtin.append_ #[83, 83] ty #[v, .slice A m c]).run Tryz.prog w = .ok v' w' ∧ OwnB w' base v' (l ++ l') ∧ w.grownBy w' v.ownBlock ∧
      (v'.ownBlock = v.ownBlock ∨ v'.ownBlock = some w.heap.size) := by
  obtain ⟨i0, hi, hz0, hz1, hz2⟩ := info_parts u8_info
  rcases Nat.eq_zero_or_pos m with h0 | h0
  · subst h0
    have hl' : l' = [] := List.eq_nil_of_length_eq_zero hr.len
    subst hl'
    refine ⟨v, w, ?_, by simpa using hown, World.grownBy.refl w _, .inl rfl⟩
    rcases hown.2 with ⟨rfl, hn⟩ | ⟨g, cap, cur, rfl, _, _, hnc, _⟩
    · cases A <;> simp [Builtin.append_, run_underlying Tryz.underlying83, sizeOf, typeInfo, hi, Builtin.lenOf, Builtin.firstCells, loadCells, loadCellsFrom]
    · cases A <;> simp [Builtin.append_, run_underlying Tryz.underlying83, sizeOf, typeInfo, hi, Builtin.lenOf, Builtin.firstCells, hnc, loadCells, loadCellsFrom, storeCells]
  · obtain ⟨b, off, rfl, _, hc⟩ := hr.cell h0
    obtain ⟨v', w', h1, h2, h3, _, h5⟩ := run_append_own_at (P := Tryz.prog) w base 83 ty 5 i0 (.int .u8 0) 1 1 Tryz.underlying83 hi hz0 hz1 hz2 rfl (by decide) v l.length (bvs l) hown ⟨b, off, none⟩ m c (bvs l')
      (by rw [bvs_length, hr.len]; omega)
      (fun j u hj => by
        have hjl : j < l'.length := by
          rcases Nat.lt_or_ge j l'.length with h | h
          · exact h
          · rw [List.getElem?_eq_none (by rw [bvs_length]; exact h)] at hj; cases hj
        rw [bvs_get l' j hjl] at hj
        injection hj with hj
        subst hj
        have : (⟨b, off, none⟩ : Addr).add j = ⟨b, off + j, none⟩ := by unfold Addr.add; split <;> simp_all
        rw [this]
        exact hc j hjl)
      (fun u hu => by
        obtain ⟨x, _, rfl⟩ := List.mem_map.1 hu
        rfl)
      (by unfold maxLen; omega) (by omega) hbase
    refine ⟨v', w', h1, ?_, h3, h5⟩
    unfold OwnB
    rw [List.length_append, bvs_append, hr.len]
    exact h2

theorem wpList_app8 {ops : Array Oper} {rest : List Oper} {o : Oper} {a : Act} {Q : Exit → Act → World → Prop} {w : World} (hgd : o.guard = none) (s x : Operand)
    (ho : o.op = .call { callee := .builtin .append, args := #[s, x], argTypes := #[83, 83] })
    (base : Nat) (v : Value) (l : List UInt8) (hs : a.eval s = v) (hown : OwnB w base v l)
    (B : Nat) (A : Option Addr) (m c : Nat) (l' : List UInt8) (hx : a.eval x = .slice A m c) (hr : Byt w B A m c l')
    (hlen : l.length + m ≤ 1099511627776) (hbase : base ≤ w.heap.size)
    (h : ∀ v' w', OwnB w' base v' (l ++ l') → w.grownBy w' v.ownBlock → (v'.ownBlock = v.ownBlock ∨ v'.ownBlock = some w.heap.size) → wpList Tryz.prog ops Q rest (a.put o.dst v') w') :
    wpList Tryz.prog ops Q (o :: rest) a w :=
  wpList_plain hgd fun K hK => by
    obtain ⟨v', w', h1, h2, h3, h4⟩ := run_app8 w o.type base v l hown B A m c l' hr hlen hbase
    unfold Oper.wp execOp
    simp only [ho, resolve, invoke, builtin, Sem.run_bind, Sem.run_pure, Result.andThen_ok, List.map_toArray, List.map_cons, List.map_nil, hs, hx, h1]
    exact hK _ _ (h v' w' h2 h3 h4)
end Go.Proofs.YtgbagjpokpchpaaGreatDoor
