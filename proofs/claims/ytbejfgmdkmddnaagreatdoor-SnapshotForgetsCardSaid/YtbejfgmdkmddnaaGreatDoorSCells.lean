/-
  Words for memory that all texts of this seat use: a slice that reads as bytes, and what keeps it.
  A slice that reads as cells, whatever its elements; appending it to a row of the call's own.
  Bits of numbers, plain.
  A region that draws its order, under a stronger condition.
-/
import Derived.Test.YtbejfgmdkmddnaaGreatDoorRows
import Derived.WalkKit
import Derived.Deep.QuietTactic
import Derived.BigQuiet
import Derived.Lib.Hide
import Derived.WalkSmall
import Derived.Laws.EntriesVeiled
import Derived.Lib.SlBytesConst
import Derived.Maps.AppendAt
import Derived.Deep.AppendLies
import Derived.Deep.RegionHeld
namespace Go.Proofs.YtbejfgmdkmddnaaGreatDoor
open Go.RowKit

/-- the slice value 'A, n, c' reads as the bytes l, in blocks below B -/
structure Byt (w : World) (B : Nat) (A : Option Addr) (n c : Nat) (l : List UInt8) : Prop where
  len : l.length = n
  cap : n ≤ c
  max : c ≤ maxLen
  cell : 0 < n → ∃ b off, A = some ⟨b, off, none⟩ ∧ b < B ∧ ∀ i (h : i < l.length), w.cell? ⟨b, off + i, none⟩ = some (.int .u8 l[i].toNat)

section
variable {w w' : World} {B B' n c : Nat} {A : Option Addr} {l : List UInt8}
theorem Byt.keep (h : Byt w B A n c l) (hk : ∀ p : Addr, p.block < B → w'.cell? p = w.cell? p) : Byt w' B A n c l :=
  ⟨h.len, h.cap, h.max, fun hn => by
    obtain ⟨b, off, e, hb, hc⟩ := h.cell hn
    exact ⟨b, off, e, hb, fun i hi => (hk _ hb).trans (hc i hi)⟩⟩
theorem Byt.more (h : Byt w B A n c l) (hB : B ≤ B') : Byt w B' A n c l :=
  ⟨h.len, h.cap, h.max, fun hn => by
    obtain ⟨b, off, e, hb, hc⟩ := h.cell hn
    exact ⟨b, off, e, by omega, hc⟩⟩
theorem Byt.below (h : Byt w B A n c l) (hb : Below B w w') : Byt w' B A n c l := h.keep fun _ hp => hb.cell hp
theorem Byt.drewN (h : Byt w B A n c l) (k : Nat) : Byt (w.drewN k) B A n c l := h.keep fun _ _ => rfl
theorem Byt.alloc (h : Byt w B A n c l) (hB : B ≤ w.heap.size) (o : Obj) : Byt (w.alloc o) B A n c l := h.keep fun p hp => World.cell?_alloc_lt w o p (by omega)
theorem Byt.setCell (h : Byt w B A n c l) {p : Addr} (hB : B ≤ p.block) (u : Value) : Byt (w.setCell p u) B A n c l :=
  h.keep fun q hq => World.cell?_setCell_other w p q u (fun e => by subst e; omega)
theorem Byt.nil (w : World) (B : Nat) (A : Option Addr) (c : Nat) (hc : c ≤ maxLen) : Byt w B A 0 c [] := ⟨rfl, Nat.zero_le _, hc, fun h => absurd h (by omega)⟩
end

/-- as a string -/
theorem Byt.str {P : Program} {w : World} {B n c : Nat} {A : Option Addr} {l : List UInt8} (h : Byt w B A n c l) (src e dst : TypeId) (hs : P.underlying src = some (.slice e)) (he : P.underlying e = some (.int .u8)) (hd : P.underlying dst = some .string) :
    (convert src dst (.slice A n c)).run P w = .ok (.string ⟨l.toArray⟩) w := by
  rcases Nat.eq_zero_or_pos n with h0 | h0
  · subst h0
    have hl : l = [] := List.eq_nil_of_length_eq_zero h.len
    subst hl
    rcases A with _ | ⟨b, off, spot⟩
    · exact run_convert_bytes_nil w src e hs he 0 c dst hd
    · rw [run_convert_bytes_string w src dst e _ 0 c hs he hd]
      simp [Conv.bytesToString, loadCells]
      rfl
  · obtain ⟨b, off, rfl, _, hc⟩ := h.cell h0
    have := run_convert_bytes_arg (P := P) w src e hs he b off n c (l.map fun x => (x.toNat : Int)) (by simp [h.len]) (fun i hi => by
      have hi' : i < l.length := by rw [h.len]; exact hi
      rw [hc i hi']
      simp [List.getElem?_eq_getElem hi']) dst hd
    rw [this]
    simp [strOfNums, Function.comp_def]
theorem Byt.cut {w : World} {B n c b off : Nat} {l : List UInt8} (h : Byt w B (some ⟨b, off, none⟩) n c l) (lo m : Nat) (hm : lo + m ≤ n) :
    Byt w B (some ⟨b, off + lo, none⟩) m (c - lo) ((l.drop lo).take m) := by
  have hl := h.len
  have hcap := h.cap
  have hmax := h.max
  refine ⟨by simp [hl]; omega, by omega, by omega, fun h0 => ?_⟩
  obtain ⟨b', off', e, hb, hc⟩ := h.cell (by omega)
  obtain ⟨rfl, rfl⟩ : b = b' ∧ off = off' := by simpa using e
  refine ⟨b, off + lo, rfl, hb, fun i hi => ?_⟩
  have hi2 : i < m := by simp at hi; omega
  rw [Nat.add_assoc, hc (lo + i) (by omega)]
  simp

theorem Byt.take {w : World} {B n c : Nat} {A : Option Addr} {l : List UInt8} (h : Byt w B A n c l) (m : Nat) (hm : m ≤ n) : Byt w B A m c (l.take m) := by
  have hl := h.len
  have hcap := h.cap
  refine ⟨by simp [hl]; omega, by omega, h.max, fun h0 => ?_⟩
  obtain ⟨b, off, e, hb, hc⟩ := h.cell (by omega)
  refine ⟨b, off, e, hb, fun i hi => ?_⟩
  rw [hc i (by simp at hi; omega)]
  simp
theorem Byt.new (w : World) (cs : Array Value) (e : TypeId) (l : List UInt8) (h : cs = (l.map fun x => Value.int .u8 x.toNat).toArray) (n : Nat) (hn : l.length = n) (hm : n ≤ maxLen) (fr : Nat × Nat := (0, 0)) :
    Byt (w.alloc (.cells cs e fr)) (w.heap.size + 1) (some ⟨w.heap.size, 0, none⟩) n n l := by
  refine ⟨hn, Nat.le_refl _, hm, fun _ => ⟨w.heap.size, 0, rfl, by omega, fun i hi => ?_⟩⟩
  rw [cell_of_row _ w.heap.size _ cs e fr (heap_alloc_new w _), h]
  simp [hi]

theorem i64_or_nat (a b : Nat) (ha : a < 4611686018427387904) (hb : b < 4611686018427387904) : bits .or .i64 (a : Int) (b : Int) = ((a ||| b : Nat) : Int) := by
  have hx : a ||| b < 2 ^ 62 := Nat.or_lt_two_pow (by omega) (by omega)
  show IntKind.i64.wrap ((BitVec.ofInt 64 (a : Int) ||| BitVec.ofInt 64 (b : Int)).toNat : Int) = _
  rw [BitVec.toNat_or, BitVec.toNat_ofInt, BitVec.toNat_ofInt, IntKind.wrap_i64]
  rw [show ((a : Int) % ((2 ^ 64 : Nat) : Int)).toNat = a by omega, show ((b : Int) % ((2 ^ 64 : Nat) : Int)).toNat = b by omega]
  omega
theorem nat_join16 (x y : Nat) (hx : x % 65536 = 0) (hy : y < 65536) : x ||| y = x + y := nat_join 16 x y hx hy
theorem str_app (a b : List UInt8) : (⟨a.toArray⟩ : ByteArray) ++ ⟨b.toArray⟩ = ⟨(a ++ b).toArray⟩ := by
  apply ByteArray.ext
  rw [ByteArray.data_append]
  simp
theorem ret_bool {a b : Bool} (h : a = b) : Ending.returned (.bool a) = .returned (.bool b) := by rw [h]
theorem ret_int {k : IntKind} {a b : Int} (h : a = b) : Ending.returned (.int k a) = .returned (.int k b) := by rw [h]
end Go.Proofs.YtbejfgmdkmddnaaGreatDoor
namespace Go.Proofs.YtbejfgmdkmddnaaGreatDoor
open Go.RowKit

/-- the slice value 'A, n, c', 'size' cells an element, reads as the cells xs, in a block below B -/
structure Cel (w : World) (B size : Nat) (A : Option Addr) (n c : Nat) (xs : List Value) : Prop where
  len : xs.length = n * size
  cap : n ≤ c
  max : c ≤ maxLen
  cell : 0 < n → ∃ b off, A = some ⟨b, off, none⟩ ∧ b < B ∧ ∀ i u, xs[i]? = some u → w.cell? ⟨b, off + i, none⟩ = some u

section
variable {w w' : World} {B B' size n c : Nat} {A : Option Addr} {xs : List Value}
theorem Cel.keep (h : Cel w B size A n c xs) (hk : ∀ p : Addr, p.block < B → w'.cell? p = w.cell? p) : Cel w' B size A n c xs :=
  ⟨h.len, h.cap, h.max, fun hn => by
    obtain ⟨b, off, e, hb, hc⟩ := h.cell hn
    exact ⟨b, off, e, hb, fun i u hi => (hk _ hb).trans (hc i u hi)⟩⟩
theorem Cel.more (h : Cel w B size A n c xs) (hB : B ≤ B') : Cel w B' size A n c xs :=
  ⟨h.len, h.cap, h.max, fun hn => by
    obtain ⟨b, off, e, hb, hc⟩ := h.cell hn
    exact ⟨b, off, e, by omega, hc⟩⟩
theorem Cel.below (h : Cel w B size A n c xs) (hb : Below B w w') : Cel w' B size A n c xs := h.keep fun _ hp => hb.cell hp
theorem Cel.nil (w : World) (B size : Nat) (A : Option Addr) (c : Nat) (hc : c ≤ maxLen) : Cel w B size A 0 c [] := ⟨by simp, Nat.zero_le _, hc, fun h => absurd h (by omega)⟩
theorem Cel.new (w : World) (cs : Array Value) (e : TypeId) (hm : n ≤ maxLen) (hl : cs.size = n * size) :
    Cel (w.alloc (.cells cs e)) (w.heap.size + 1) size (some ⟨w.heap.size, 0, none⟩) n n cs.toList := by
  refine ⟨by simpa using hl, Nat.le_refl _, hm, fun _ => ⟨w.heap.size, 0, rfl, by omega, fun i u hi => ?_⟩⟩
  rw [cell_of_row _ w.heap.size _ cs e (0, 0) (heap_alloc_new w _)]
  simpa using hi
theorem Cel.of_own {base : Nat} {e : TypeId} (h : w.ownsRow base e size (.slice A n c) n xs) : Cel w w.heap.size size A n c xs := by
  rcases h.2 with ⟨e, hl⟩ | ⟨g, cap, cur, e, hb, hg, hnc, hm, hs, ht⟩
  · subst hl
    have hxs : xs = [] := List.eq_nil_of_length_eq_zero (by simpa using h.1)
    subst hxs
    injection e with e1 e2 e3
    subst e3
    exact Cel.nil _ _ _ _ _ (by unfold maxLen; omega)
  · injection e with e1 e2 e3
    subst e1 e3
    refine ⟨h.1, hnc, hm, fun _ => ⟨g, 0, rfl, (Array.getElem?_eq_some_iff.1 hg).1, fun i u hi => ?_⟩⟩
    have hlt : i < n * size := by
      rcases Nat.lt_or_ge i (n * size) with h' | h'
      · exact h'
      · rw [List.getElem?_eq_none (by rw [h.1]; exact h')] at hi; cases hi
    rw [Nat.zero_add, World.ownsRow.cellAt h i hlt, hi]
end

theorem ownsRow_below {w w' : World} {base B : Nat} {e : TypeId} {size n : Nat} {v : Value} {xs : List Value} (h : w.ownsRow base e size v n xs) (hb : Below B w w') (hB : w.heap.size ≤ B) : w'.ownsRow base e size v n xs := by
  refine ⟨h.1, ?_⟩
  rcases h.2 with ⟨e, hl⟩ | ⟨g, cap, cur, e, hb', hg, hr⟩
  · exact .inl ⟨e, hl⟩
  · exact .inr ⟨g, cap, cur, e, hb', (hb.block g (by have := (Array.getElem?_eq_some_iff.1 hg).1; omega)).trans hg, hr⟩
theorem ownsRow_form {w : World} {base : Nat} {e : TypeId} {size n : Nat} {v : Value} {xs : List Value} (h : w.ownsRow base e size v n xs) : ∃ A c, v = .slice A n c := by
  rcases h.2 with ⟨e, hl⟩ | ⟨g, cap, cur, e, _⟩
  · exact ⟨none, 0, by rw [e, hl]⟩
  · exact ⟨_, _, e⟩
/-- rows of unlike elements lie in unlike blocks -/
theorem ownsRow_apart {w : World} {base base' : Nat} {e e' : TypeId} {size size' n n' : Nat} {v v' : Value} {xs xs' : List Value} (h : w.ownsRow base e size v n xs) (h' : w.ownsRow base' e' size' v' n' xs') (hne : e ≠ e') :
    v.ownBlock = none ∨ v.ownBlock ≠ v'.ownBlock := by
  rcases h.2 with ⟨rfl, _⟩ | ⟨g, cap, cur, rfl, _, hg, _⟩
  · exact .inl rfl
  · right
    rcases h'.2 with ⟨rfl, _⟩ | ⟨g', cap', cur', rfl, _, hg', _⟩
    · simp [Value.ownBlock]
    · simp only [Value.ownBlock, ne_eq, Option.some.injEq]
      rintro rfl
      rw [hg] at hg'
      injection hg' with hg'
      injection hg' with _ ht
      exact hne ht

section
variable {P : Program}
theorem run_app (w : World) (t ty e : TypeId) (i : TypeInfo) (z : Value) (size bytes : Nat) (ht : P.underlying t = some (.slice e)) (hi : P.info? e = some i) (hz : i.zero = some z)
    (hsize : i.size = size) (hby : i.bytes = bytes) (hzs : z.cells.size = size) (hsz : 0 < size)
    (base : Nat) (v : Value) (n : Nat) (xs : List Value) (hown : w.ownsRow base e size v n xs) (B : Nat) (A : Option Addr) (m c : Nat) (ys : List Value) (hr : Cel w B size A m c ys) (h1 : ∀ u ∈ ys, u.oneCell' = true)
    (h63 : n + m ≤ maxLen) (hbytes : (n + m) * bytes ≤ 140737488355328) (hbase : base ≤ w.heap.size) :
    ∃ v' w', (Builtin.append_ #[t, t] ty #[v, .slice A m c]).run P w = .ok v' w' ∧ w'.ownsRow base e size v' (n + m) (xs ++ ys) ∧ w.grownBy w' v.ownBlock ∧
      (v'.ownBlock = v.ownBlock ∨ v'.ownBlock = some w.heap.size) := by
  rcases Nat.eq_zero_or_pos m with h0 | h0
  · subst h0
    have hl' : ys = [] := List.eq_nil_of_length_eq_zero (by simpa using hr.len)
    subst hl'
    refine ⟨v, w, ?_, by simpa using hown, World.grownBy.refl w _, .inl rfl⟩
    rcases hown.2 with ⟨rfl, hn⟩ | ⟨g, cap, cur, rfl, _, _, hnc, _⟩
    · cases A <;> simp [Builtin.append_, run_underlying ht, sizeOf, typeInfo, hi, Builtin.lenOf, Builtin.firstCells, loadCells, loadCellsFrom]
    · cases A <;> simp [Builtin.append_, run_underlying ht, sizeOf, typeInfo, hi, Builtin.lenOf, Builtin.firstCells, hnc, loadCells, loadCellsFrom, storeCells]
  · obtain ⟨b, off, rfl, _, hc⟩ := hr.cell h0
    obtain ⟨v', w', h1, h2, h3, _, h5⟩ := run_append_own_at (P := P) w base t ty e i z size bytes ht hi hz hsize hby hzs hsz v n xs hown ⟨b, off, none⟩ m c ys hr.len
      (fun j u hj => by
        have : (⟨b, off, none⟩ : Addr).add j = ⟨b, off + j, none⟩ := by unfold Addr.add; split <;> simp_all
        rw [this]
        exact hc j u hj)
      h1 h63 hbytes hbase
    exact ⟨v', w', h1, h2, h3, h5⟩

theorem wpList_app {ops : Array Oper} {rest : List Oper} {o : Oper} {a : Act} {Q : Exit → Act → World → Prop} {w : World} (hgd : o.guard = none) (s x : Operand) (t : TypeId)
    (ho : o.op = .call { callee := .builtin .append, args := #[s, x], argTypes := #[t, t] })
    (e : TypeId) (i : TypeInfo) (z : Value) (size bytes : Nat) (ht : P.underlying t = some (.slice e)) (hi : P.info? e = some i) (hz : i.zero = some z)
    (hsize : i.size = size) (hby : i.bytes = bytes) (hzs : z.cells.size = size) (hsz : 0 < size)
    (base : Nat) (v : Value) (n : Nat) (xs : List Value) (hs : a.eval s = v) (hown : w.ownsRow base e size v n xs)
    (B : Nat) (A : Option Addr) (m c : Nat) (ys : List Value) (hx : a.eval x = .slice A m c) (hr : Cel w B size A m c ys) (h1 : ∀ u ∈ ys, u.oneCell' = true)
    (h63 : n + m ≤ maxLen) (hbytes : (n + m) * bytes ≤ 140737488355328) (hbase : base ≤ w.heap.size)
    (h : ∀ v' w', w'.ownsRow base e size v' (n + m) (xs ++ ys) → w.grownBy w' v.ownBlock → (v'.ownBlock = v.ownBlock ∨ v'.ownBlock = some w.heap.size) → wpList P ops Q rest (a.put o.dst v') w') :
    wpList P ops Q (o :: rest) a w :=
  wpList_plain hgd fun K hK => by
    obtain ⟨v', w', h1, h2, h3, h4⟩ := run_app (P := P) w t o.type e i z size bytes ht hi hz hsize hby hzs hsz base v n xs hown B A m c ys hr h1 h63 hbytes hbase
    unfold Oper.wp execOp
    simp only [ho, resolve, invoke, builtin, Sem.run_bind, Sem.run_pure, Result.andThen_ok, List.map_toArray, List.map_cons, List.map_nil, hs, hx, h1]
    exact hK _ _ (h v' w' h2 h3 h4)
end
end Go.Proofs.YtbejfgmdkmddnaaGreatDoor
namespace Go.Proofs.YtbejfgmdkmddnaaGreatDoor
open Go.RowKit

theorem or_shift (a m i : Nat) (h : a < 2 ^ i) : a ||| m * 2 ^ i = a + m * 2 ^ i := by
  have := Nat.shiftLeft_add_eq_or_of_lt h m
  rw [Nat.shiftLeft_eq] at this
  rw [Nat.or_comm, ← this, Nat.add_comm]
theorem and127b (x : Nat) (h : x < 256) : bits .and .u8 (x : Int) 127 = ((x % 128 : Nat) : Int) := by
  show IntKind.u8.wrap ((BitVec.ofInt 8 (x : Int) &&& BitVec.ofInt 8 ((127 : Nat) : Int)).toNat : Int) = _
  have e : (BitVec.ofInt 8 (x : Int) &&& BitVec.ofInt 8 ((127 : Nat) : Int)).toNat = x % 128 := by
    rw [BitVec.toNat_and, BitVec.ofInt_natCast, BitVec.ofInt_natCast, BitVec.toNat_ofNat, BitVec.toNat_ofNat, Nat.mod_eq_of_lt (by omega : x < 2 ^ 8)]
    exact Nat.and_two_pow_sub_one_eq_mod x 7
  rw [e]
  simp [IntKind.wrap, IntKind.bits, IntKind.signed]; omega
end Go.Proofs.YtbejfgmdkmddnaaGreatDoor
namespace Go.Proofs.YtbejfgmdkmddnaaGreatDoor
open Go.RowKit

/-- a region may be walked under a stronger condition -/
theorem wpAnyH_weak {P : Program} {md : Region.Mode} {ops : Array Oper} {Q : Exit → Act → World → Prop} {S S' : World → Prop} (hS : ∀ w, S' w → S w) : ∀ (fuel : Nat) (listed : Array Bool) (a : Act) (w : World), wpAnyH P md ops Q S' fuel listed a w → wpAnyH P md ops Q S fuel listed a w
  | 0, _, _, _, h => h
  | fuel + 1, _, _, _, h => ⟨h.1, fun i hi => wpOp_mono (fun a' w' h' => ⟨hS _ h'.1, wpAnyH_weak hS fuel _ a' w' h'.2⟩) (h.2 i hi)⟩
end Go.Proofs.YtbejfgmdkmddnaaGreatDoor
