/-
  Words for memory that all texts of this seat use: a slice that reads as bytes, and what keeps it.
-/
import Derived.Test.YtejjfhhppjdcaaaGreatDoorRows
import Derived.WalkKit
import Derived.Deep.QuietTactic
import Derived.BigQuiet
import Derived.Lib.Hide
import Derived.WalkSmall
import Derived.Laws.EntriesVeiled
import Derived.Lib.SlBytesConst
import Derived.Maps.AppendAt
import Derived.Deep.AppendLies
namespace Go.Proofs.YtejjfhhppjdcaaaGreatDoor
open Go.RowKit

/-- the slice value 'A, n, c' reads as the bytes l, in blocks below B -/
structure Byt (w : World) (B : Nat) (A : Option Addr) (n c : Nat) (l : List UInt8) : Prop where
  len : l.length = n
  cap : n ≤ c
  max : c ≤ maxLen
  cell : 0 < n → ∃ b off, A = some ⟨b, off, none⟩ ∧ b < B ∧ ∀ i (h : i < l.length), w.cell? ⟨b, off + i, none⟩ = some (.int .u8 l[i].toNat)

section
variable {w w' : World} {B B' n c : Nat} {A : Option Addr} {l : List UInt8}
theorem Byt.keep (h : Byt w B A n c l) (hk : ∀ p : Addr, p.block < B → w'.cell? p = w.cell? p) : Byt w' B A n c l :=
  ⟨h.len, h.cap, h.max, fun hn => by
    obtain ⟨b, off, e, hb, hc⟩ := h.cell hn
    exact ⟨b, off, e, hb, fun i hi => (hk _ hb).trans (hc i hi)⟩⟩
theorem Byt.more (h : Byt w B A n c l) (hB : B ≤ B') : Byt w B' A n c l :=
  ⟨h.len, h.cap, h.max, fun hn => by
    obtain ⟨b, off, e, hb, hc⟩ := h.cell hn
    exact ⟨b, off, e, by omega, hc⟩⟩
theorem Byt.below (h : Byt w B A n c l) (hb : Below B w w') : Byt w' B A n c l := h.keep fun _ hp => hb.cell hp
theorem Byt.drewN (h : Byt w B A n c l) (k : Nat) : Byt (w.drewN k) B A n c l := h.keep fun _ _ => rfl
theorem Byt.alloc (h : Byt w B A n c l) (hB : B ≤ w.heap.size) (o : Obj) : Byt (w.alloc o) B A n c l := h.keep fun p hp => World.cell?_alloc_lt w o p (by omega)
theorem Byt.setCell (h : Byt w B A n c l) {p : Addr} (hB : B ≤ p.block) (u : Value) : Byt (w.setCell p u) B A n c l :=
  h.keep fun q hq => World.cell?_setCell_other w p q u (fun e => by subst e; omega)
theorem Byt.nil (w : World) (B : Nat) (A : Option Addr) (c : Nat) (hc : c ≤ maxLen) : Byt w B A 0 c [] := ⟨rfl, Nat.zero_le _, hc, fun h => absurd h (by omega)⟩
end

/-- as a string -/
theorem Byt.str {P : Program} {w : World} {B n c : Nat} {A : Option Addr} {l : List UInt8} (h : Byt w B A n c l) (src e dst : TypeId) (hs : P.underlying src = some (.slice e)) (he : P.underlying e = some (.int .u8)) (hd : P.underlying dst = some .string) :
    (convert src dst (.slice A n c)).run P w = .ok (.string ⟨l.toArray⟩) w := by
  rcases Nat.eq_zero_or_pos n with h0 | h0
  · subst h0
    have hl : l = [] := List.eq_nil_of_length_eq_zero h.len
    subst hl
    rcases A with _ | ⟨b, off, spot⟩
    · exact run_convert_bytes_nil w src e hs he 0 c dst hd
    · rw [run_convert_bytes_string w src dst e _ 0 c hs he hd]
      simp [Conv.bytesToString, loadCells]
      rfl
  · obtain ⟨b, off, rfl, _, hc⟩ := h.cell h0
    have := run_convert_bytes_arg (P := P) w src e hs he b off n c (l.map fun x => (x.toNat : Int)) (by simp [h.len]) (fun i hi => by
      have hi' : i < l.length := by rw [h.len]; exact hi
      rw [hc i hi']
      simp [List.getElem?_eq_getElem hi']) dst hd
    rw [this]
    simp [strOfNums, Function.comp_def]
theorem Byt.cut {w : World} {B n c b off : Nat} {l : List UInt8} (h : Byt w B (some ⟨b, off, none⟩) n c l) (lo m : Nat) (hm : lo + m ≤ n) :
    Byt w B (some ⟨b, off + lo, none⟩) m (c - lo) ((l.drop lo).take m) := by
  have hl := h.len
  have hcap := h.cap
  have hmax := h.max
  refine ⟨by simp [hl]; omega, by omega, by omega, fun h0 => ?_⟩
  obtain ⟨b', off', e, hb, hc⟩ := h.cell (by omega)
  obtain ⟨rfl, rfl⟩ : b = b' ∧ off = off' := by simpa using e
  refine ⟨b, off + lo, rfl, hb, fun i hi => ?_⟩
  have hi2 : i < m := by simp at hi; omega
  rw [Nat.add_assoc, hc (lo + i) (by omega)]
  simp

theorem Byt.take {w : World} {B n c : Nat} {A : Option Addr} {l : List UInt8} (h : Byt w B A n c l) (m : Nat) (hm : m ≤ n) : Byt w B A m c (l.take m) := by
  have hl := h.len
  have hcap := h.cap
  refine ⟨by simp [hl]; omega, by omega, h.max, fun h0 => ?_⟩
  obtain ⟨b, off, e, hb, hc⟩ := h.cell (by omega)
  refine ⟨b, off, e, hb, fun i hi => ?_⟩
  rw [hc i (by simp at hi; omega)]
  simp
theorem Byt.new (w : World) (cs : Array Value) (e : TypeId) (l : List UInt8) (h : cs = (l.map fun x => Value.int .u8 x.toNat).toArray) (n : Nat) (hn : l.length = n) (hm : n ≤ maxLen) (fr : Nat × Nat := (0, 0)) :
    Byt (w.alloc (.cells cs e fr)) (w.heap.size + 1) (some ⟨w.heap.size, 0, none⟩) n n l := by
  refine ⟨hn, Nat.le_refl _, hm, fun _ => ⟨w.heap.size, 0, rfl, by omega, fun i hi => ?_⟩⟩
  rw [cell_of_row _ w.heap.size _ cs e fr (heap_alloc_new w _), h]
  simp [hi]

theorem i64_or_nat (a b : Nat) (ha : a < 4611686018427387904) (hb : b < 4611686018427387904) : bits .or .i64 (a : Int) (b : Int) = ((a ||| b : Nat) : Int) := by
  have hx : a ||| b < 2 ^ 62 := Nat.or_lt_two_pow (by omega) (by omega)
  show IntKind.i64.wrap ((BitVec.ofInt 64 (a : Int) ||| BitVec.ofInt 64 (b : Int)).toNat : Int) = _
  rw [BitVec.toNat_or, BitVec.toNat_ofInt, BitVec.toNat_ofInt, IntKind.wrap_i64]
  rw [show ((a : Int) % ((2 ^ 64 : Nat) : Int)).toNat = a by omega, show ((b : Int) % ((2 ^ 64 : Nat) : Int)).toNat = b by omega]
  omega
theorem nat_join16 (x y : Nat) (hx : x % 65536 = 0) (hy : y < 65536) : x ||| y = x + y := nat_join 16 x y hx hy
theorem str_app (a b : List UInt8) : (⟨a.toArray⟩ : ByteArray) ++ ⟨b.toArray⟩ = ⟨(a ++ b).toArray⟩ := by
  apply ByteArray.ext
  rw [ByteArray.data_append]
  simp
theorem str_cut (l : List UInt8) (a b : Nat) : (⟨l.toArray⟩ : ByteArray).extract a b = ⟨((l.drop a).take (b - a)).toArray⟩ := by
  apply ByteArray.ext
  rw [ByteArray.data_extract]
  simp [List.take_drop]
theorem str_mid {P : Program} (t : TypeId) (h : P.underlying t = some .string) (l : List UInt8) (i j : Int) (a b : Nat) (hi : i = (a : Int)) (hj : j = (b : Int)) (h1 : a ≤ b) (h2 : b ≤ l.length) (w : World) :
    (Instr.slice t (.string ⟨l.toArray⟩) (some (.int .i64 i)) (some (.int .i64 j)) none).run P w = .ok (.string ⟨((l.drop a).take (b - a)).toArray⟩) w := by
  subst hi hj
  rw [run_slice_string w t ⟨l.toArray⟩ .i64 .i64 a b h (by omega) (by omega) (by simpa [ByteArray.size] using h2), str_cut]
  simp
theorem str_to {P : Program} (t : TypeId) (h : P.underlying t = some .string) (l : List UInt8) (j : Int) (b : Nat) (hj : j = (b : Int)) (h2 : b ≤ l.length) (w : World) :
    (Instr.slice t (.string ⟨l.toArray⟩) none (some (.int .i64 j)) none).run P w = .ok (.string ⟨(l.take b).toArray⟩) w := by
  subst hj
  rw [run_slice_string_to_if w t ⟨l.toArray⟩ .i64 b h, if_pos ⟨by omega, by simpa [ByteArray.size] using h2⟩, str_cut]
  simp
theorem ret_bool {a b : Bool} (h : a = b) : Ending.returned (.bool a) = .returned (.bool b) := by rw [h]
theorem ret_int {k : IntKind} {a b : Int} (h : a = b) : Ending.returned (.int k a) = .returned (.int k b) := by rw [h]
end Go.Proofs.YtejjfhhppjdcaaaGreatDoor
