/-
  Words for memory that all texts of this seat use: a slice that reads as bytes, and what keeps it.
  Bits of numbers, plain.
  A region that draws its order, under a stronger condition.
  Layer 3: what frame.sum, frame.size and the closures of frame.Open give.
-/
import Derived.Test.YtdjoaboalknlkaaGreatDoorRows
import Derived.WalkKit
import Derived.Deep.QuietTactic
import Derived.BigQuiet
import Derived.Lib.Hide
import Derived.WalkSmall
import Derived.Laws.EntriesVeiled
import Derived.Lib.SlBytesConst
import Derived.Maps.AppendAt
import Derived.Deep.AppendLies
import Derived.Deep.RegionHeld
import Derived.Deep.RegionHeld3
import Derived.Test.YtdjoaboalknlkaaGreatDoorLSnPcs
namespace Go.Proofs.YtdjoaboalknlkaaGreatDoor
open Go.RowKit

/-- the slice value 'A, n, c' reads as the bytes l, in blocks below B -/
structure Byt (w : World) (B : Nat) (A : Option Addr) (n c : Nat) (l : List UInt8) : Prop where
  len : l.length = n
  cap : n ≤ c
  max : c ≤ maxLen
  cell : 0 < n → ∃ b off, A = some ⟨b, off, none⟩ ∧ b < B ∧ ∀ i (h : i < l.length), w.cell? ⟨b, off + i, none⟩ = some (.int .u8 l[i].toNat)

section
variable {w w' : World} {B B' n c : Nat} {A : Option Addr} {l : List UInt8}
theorem Byt.keep (h : Byt w B A n c l) (hk : ∀ p : Addr, p.block < B → w'.cell? p = w.cell? p) : Byt w' B A n c l :=
  ⟨h.len, h.cap, h.max, fun hn => by
    obtain ⟨b, off, e, hb, hc⟩ := h.cell hn
    exact ⟨b, off, e, hb, fun i hi => (hk _ hb).trans (hc i hi)⟩⟩
theorem Byt.more (h : Byt w B A n c l) (hB : B ≤ B') : Byt w B' A n c l :=
  ⟨h.len, h.cap, h.max, fun hn => by
    obtain ⟨b, off, e, hb, hc⟩ := h.cell hn
    exact ⟨b, off, e, by omega, hc⟩⟩
theorem Byt.below (h : Byt w B A n c l) (hb : Below B w w') : Byt w' B A n c l := h.keep fun _ hp => hb.cell hp
theorem Byt.drewN (h : Byt w B A n c l) (k : Nat) : Byt (w.drewN k) B A n c l := h.keep fun _ _ => rfl
theorem Byt.alloc (h : Byt w B A n c l) (hB : B ≤ w.heap.size) (o : Obj) : Byt (w.alloc o) B A n c l := h.keep fun p hp => World.cell?_alloc_lt w o p (by omega)
theorem Byt.setCell (h : Byt w B A n c l) {p : Addr} (hB : B ≤ p.block) (u : Value) : Byt (w.setCell p u) B A n c l :=
  h.keep fun q hq => World.cell?_setCell_other w p q u (fun e => by subst e; omega)
theorem Byt.nil (w : World) (B : Nat) (A : Option Addr) (c : Nat) (hc : c ≤ maxLen) : Byt w B A 0 c [] := ⟨rfl, Nat.zero_le _, hc, fun h => absurd h (by omega)⟩
end

/-- as a string -/
theorem Byt.str {P : Program} {w : World} {B n c : Nat} {A : Option Addr} {l : List UInt8} (h : Byt w B A n c l) (src e dst : TypeId) (hs : P.underlying src = some (.slice e)) (he : P.underlying e = some (.int .u8)) (hd : P.underlying dst = some .string) :
    (convert src dst (.slice A n c)).run P w = .ok (.string ⟨l.toArray⟩) w := by
  rcases Nat.eq_zero_or_pos n with h0 | h0
  · subst h0
    have hl : l = [] := List.eq_nil_of_length_eq_zero h.len
    subst hl
    rcases A with _ | ⟨b, off, spot⟩
    · exact run_convert_bytes_nil w src e hs he 0 c dst hd
    · rw [run_convert_bytes_string w src dst e _ 0 c hs he hd]
      simp [Conv.bytesToString, loadCells]
      rfl
  · obtain ⟨b, off, rfl, _, hc⟩ := h.cell h0
    have := run_convert_bytes_arg (P := P) w src e hs he b off n c (l.map fun x => (x.toNat : Int)) (by simp [h.len]) (fun i hi => by
      have hi' : i < l.length := by rw [h.len]; exact hi
      rw [hc i hi']
      simp [List.getElem?_eq_getElem hi']) dst hd
    rw [this]
    simp [strOfNums, Function.comp_def]
theorem Byt.cut {w : World} {B n c b off : Nat} {l : List UInt8} (h : Byt w B (some ⟨b, off, none⟩) n c l) (lo m : Nat) (hm : lo + m ≤ n) :
    Byt w B (some ⟨b, off + lo, none⟩) m (c - lo) ((l.drop lo).take m) := by
  have hl := h.len
  have hcap := h.cap
  have hmax := h.max
  refine ⟨by simp [hl]; omega, by omega, by omega, fun h0 => ?_⟩
  obtain ⟨b', off', e, hb, hc⟩ := h.cell (by omega)
  obtain ⟨rfl, rfl⟩ : b = b' ∧ off = off' := by simpa using e
  refine ⟨b, off + lo, rfl, hb, fun i hi => ?_⟩
  have hi2 : i < m := by simp at hi; omega
  rw [Nat.add_assoc, hc (lo + i) (by omega)]
  simp

theorem Byt.take {w : World} {B n c : Nat} {A : Option Addr} {l : List UInt8} (h : Byt w B A n c l) (m : Nat) (hm : m ≤ n) : Byt w B A m c (l.take m) := by
  have hl := h.len
  have hcap := h.cap
  refine ⟨by simp [hl]; omega, by omega, h.max, fun h0 => ?_⟩
  obtain ⟨b, off, e, hb, hc⟩ := h.cell (by omega)
  refine ⟨b, off, e, hb, fun i hi => ?_⟩
  rw [hc i (by simp at hi; omega)]
  simp
theorem Byt.new (w : World) (cs : Array Value) (e : TypeId) (l : List UInt8) (h : cs = (l.map fun x => Value.int .u8 x.toNat).toArray) (n : Nat) (hn : l.length = n) (hm : n ≤ maxLen) (fr : Nat × Nat := (0, 0)) :
    Byt (w.alloc (.cells cs e fr)) (w.heap.size + 1) (some ⟨w.heap.size, 0, none⟩) n n l := by
  refine ⟨hn, Nat.le_refl _, hm, fun _ => ⟨w.heap.size, 0, rfl, by omega, fun i hi => ?_⟩⟩
  rw [cell_of_row _ w.heap.size _ cs e fr (heap_alloc_new w _), h]
  simp [hi]

theorem i64_or_nat (a b : Nat) (ha : a < 4611686018427387904) (hb : b < 4611686018427387904) : bits .or .i64 (a : Int) (b : Int) = ((a ||| b : Nat) : Int) := by
  have hx : a ||| b < 2 ^ 62 := Nat.or_lt_two_pow (by omega) (by omega)
  show IntKind.i64.wrap ((BitVec.ofInt 64 (a : Int) ||| BitVec.ofInt 64 (b : Int)).toNat : Int) = _
  rw [BitVec.toNat_or, BitVec.toNat_ofInt, BitVec.toNat_ofInt, IntKind.wrap_i64]
  rw [show ((a : Int) % ((2 ^ 64 : Nat) : Int)).toNat = a by omega, show ((b : Int) % ((2 ^ 64 : Nat) : Int)).toNat = b by omega]
  omega
theorem nat_join16 (x y : Nat) (hx : x % 65536 = 0) (hy : y < 65536) : x ||| y = x + y := nat_join 16 x y hx hy
theorem str_app (a b : List UInt8) : (⟨a.toArray⟩ : ByteArray) ++ ⟨b.toArray⟩ = ⟨(a ++ b).toArray⟩ := by
  apply ByteArray.ext
  rw [ByteArray.data_append]
  simp
theorem str_cut (l : List UInt8) (a b : Nat) : (⟨l.toArray⟩ : ByteArray).extract a b = ⟨((l.drop a).take (b - a)).toArray⟩ := by
  apply ByteArray.ext
  rw [ByteArray.data_extract]
  simp [List.take_drop]
theorem str_mid {P : Program} (t : TypeId) (h : P.underlying t = some .string) (l : List UInt8) (i j : Int) (a b : Nat) (hi : i = (a : Int)) (hj : j = (b : Int)) (h1 : a ≤ b) (h2 : b ≤ l.length) (w : World) :
    (Instr.slice t (.string ⟨l.toArray⟩) (some (.int .i64 i)) (some (.int .i64 j)) none).run P w = .ok (.string ⟨((l.drop a).take (b - a)).toArray⟩) w := by
  subst hi hj
  rw [run_slice_string w t ⟨l.toArray⟩ .i64 .i64 a b h (by omega) (by omega) (by simpa [ByteArray.size] using h2), str_cut]
  simp
theorem str_to {P : Program} (t : TypeId) (h : P.underlying t = some .string) (l : List UInt8) (j : Int) (b : Nat) (hj : j = (b : Int)) (h2 : b ≤ l.length) (w : World) :
    (Instr.slice t (.string ⟨l.toArray⟩) none (some (.int .i64 j)) none).run P w = .ok (.string ⟨(l.take b).toArray⟩) w := by
  subst hj
  rw [run_slice_string_to_if w t ⟨l.toArray⟩ .i64 b h, if_pos ⟨by omega, by simpa [ByteArray.size] using h2⟩, str_cut]
  simp
theorem ret_bool {a b : Bool} (h : a = b) : Ending.returned (.bool a) = .returned (.bool b) := by rw [h]
theorem ret_int {k : IntKind} {a b : Int} (h : a = b) : Ending.returned (.int k a) = .returned (.int k b) := by rw [h]
end Go.Proofs.YtdjoaboalknlkaaGreatDoor
namespace Go.Proofs.YtdjoaboalknlkaaGreatDoor
open Go.RowKit

theorem or_shift (a m i : Nat) (h : a < 2 ^ i) : a ||| m * 2 ^ i = a + m * 2 ^ i := by
  have := Nat.shiftLeft_add_eq_or_of_lt h m
  rw [Nat.shiftLeft_eq] at this
  rw [Nat.or_comm, ← this, Nat.add_comm]
theorem and127b (x : Nat) (h : x < 256) : bits .and .u8 (x : Int) 127 = ((x % 128 : Nat) : Int) := by
  show IntKind.u8.wrap ((BitVec.ofInt 8 (x : Int) &&& BitVec.ofInt 8 ((127 : Nat) : Int)).toNat : Int) = _
  have e : (BitVec.ofInt 8 (x : Int) &&& BitVec.ofInt 8 ((127 : Nat) : Int)).toNat = x % 128 := by
    rw [BitVec.toNat_and, BitVec.ofInt_natCast, BitVec.ofInt_natCast, BitVec.toNat_ofNat, BitVec.toNat_ofNat, Nat.mod_eq_of_lt (by omega : x < 2 ^ 8)]
    exact Nat.and_two_pow_sub_one_eq_mod x 7
  rw [e]
  simp [IntKind.wrap, IntKind.bits, IntKind.signed]; omega
end Go.Proofs.YtdjoaboalknlkaaGreatDoor
namespace Go.Proofs.YtdjoaboalknlkaaGreatDoor
open Go.RowKit

/-- a region may be walked under a stronger condition -/
theorem wpAnyH_weak {P : Program} {md : Region.Mode} {ops : Array Oper} {Q : Exit → Act → World → Prop} {S S' : World → Prop} (hS : ∀ w, S' w → S w) : ∀ (fuel : Nat) (listed : Array Bool) (a : Act) (w : World), wpAnyH P md ops Q S' fuel listed a w → wpAnyH P md ops Q S fuel listed a w
  | 0, _, _, _, h => h
  | fuel + 1, _, _, _, h => ⟨h.1, fun i hi => wpOp_mono (fun a' w' h' => ⟨hS _ h'.1, wpAnyH_weak hS fuel _ a' w' h'.2⟩) (h.2 i hi)⟩
/-- what an operation yields is taken first (wpAnyH_take, its side conditions told by tactics) -/
theorem tkY {P : Program} {md : Region.Mode} {ops : Array Oper} {Q : Exit → Act → World → Prop} {S : World → Prop} {o2 : Op} {o3 : TypeId} {o4 : String} {o5 : Array Edge} {o6 : Option (Nat × Bool)} {v : Value} {fuel : Nat} {listed listed' : Array Bool} {a a' : Act} {w : World} (i : Nat) (d : Tmp)
    (hi : ops[i]? = some ⟨some d, o2, o3, o4, o5, o6⟩) (h : wpAnyH P md ops Q S fuel listed' a' w)
    (hs : Region.noSelect ops = true := by kernel_rfl) (hf : Region.free md ops listed i = true := by kernel_rfl) (hr : (Region.ready md ops listed).contains i = true := by kernel_rfl)
    (hw : Region.wanted ⟨some d, o2, o3, o4, o5, o6⟩ (yielded ops a.tmps) = true := by rfl)
    (hy : ∀ w, S w → (execOp a.eval ⟨some d, o2, o3, o4, o5, o6⟩).run P w = .ok (.value v) w := by (intro wz hSz; (try dsimp only at hSz); go_simp; (first | done | with_reducible rfl)))
    (hQ : ∀ c b u, Q (.panic c) (b.put (some d) v) u → Q (.panic c) b u := by exact fun _ _ _ h => h) (hS : S w := by assumption)
    (hl : listed.setIfInBounds i true = listed' := by (first | (simp only [List.setIfInBounds_toArray, List.set_cons_zero, List.set_cons_succ]; rfl) | rfl))
    (ha : a.put (some d) v = a' := by (first | (simp only [Act.put, List.setIfInBounds_toArray, List.set_cons_zero, List.set_cons_succ]; rfl) | rfl)) : wpAnyH P md ops Q S (fuel + 1) listed a w :=
  wpAnyH_take hi hs hf hr hQ (Or.inl ⟨hw, hy⟩) hS (by rw [hl, ha]; exact h)
/-- what isn't wanted is passed over -/
theorem tkN {P : Program} {md : Region.Mode} {ops : Array Oper} {Q : Exit → Act → World → Prop} {S : World → Prop} {o2 : Op} {o3 : TypeId} {o4 : String} {o5 : Array Edge} {o6 : Option (Nat × Bool)} {fuel : Nat} {listed listed' : Array Bool} {a a' : Act} {w : World} (i : Nat) (d : Tmp)
    (hi : ops[i]? = some ⟨some d, o2, o3, o4, o5, o6⟩) (h : wpAnyH P md ops Q S fuel listed' a' w)
    (hs : Region.noSelect ops = true := by kernel_rfl) (hf : Region.free md ops listed i = true := by kernel_rfl) (hr : (Region.ready md ops listed).contains i = true := by kernel_rfl)
    (hw : Region.wanted ⟨some d, o2, o3, o4, o5, o6⟩ (yielded ops a.tmps) = false := by rfl)
    (hQ : ∀ c b u, Q (.panic c) (b.put (some d) undef) u → Q (.panic c) b u := by exact fun _ _ _ h => h) (hS : S w := by assumption)
    (hl : listed.setIfInBounds i true = listed' := by (first | (simp only [List.setIfInBounds_toArray, List.set_cons_zero, List.set_cons_succ]; rfl) | rfl))
    (ha : a.put (some d) undef = a' := by (first | (simp only [Act.put, List.setIfInBounds_toArray, List.set_cons_zero, List.set_cons_succ]; rfl) | rfl)) : wpAnyH P md ops Q S (fuel + 1) listed a w :=
  wpAnyH_take hi hs hf hr hQ (Or.inr ⟨hw, rfl⟩) hS (by rw [hl, ha]; exact h)
end Go.Proofs.YtdjoaboalknlkaaGreatDoor
namespace Go.Proofs.YtdjoaboalknlkaaGreatDoor
open Go.RowKit

set_option maxHeartbeats 400000 in
theorem sum_any (w : World) (B : Nat) (A : Option Addr) (n c : Nat) (l : List UInt8) (h : Byt w B A n c l) (hn : n ≤ 1000000) :
    Calls Tryz.prog 50 #[.slice A n c] w fun e w' => e = .returned (.int .u32 (Frm.asum l)) ∧ w = w' := by
  obtain ⟨hl, hcap, hmax, hcell⟩ := h
  have HL := Lib.hid hl; clear hl
  have HC := Lib.hid hcell; clear hcell
  clear hmax
  go_enter Tryz.func50, Tryz.ntmps50
  go_wp2
  go_loop [3, 4, 9] (fun t s i => ∃ k : Nat, k ≤ n ∧ i = .int .i64 k ∧ t = .int .u32 (Frm.ad (l.take k)).1 ∧ s = .int .u32 (Frm.ad (l.take k)).2) (fun _ _ i => n - (intOf i).toNat)
  case atStart => exact ⟨0, Nat.zero_le _, rfl, rfl, rfl⟩
  case round =>
    obtain ⟨k, hk, rfl, rfl, rfl⟩ := hrel
    have hlt := Frm.ad_lt (l.take k)
    obtain ⟨hlt1, hlt2⟩ := hlt
    by_cases hkn : k < n
    · obtain ⟨b, off, rfl, hb, hc⟩ := HC.out (by omega)
      have hk' : k < l.length := by rw [HL.out]; exact hkn
      have hc' := hc k hk'
      have HA := Lib.hid (Frm.ad_take l k hk')
      have hb8 : (l[k]).toNat < 256 := (l[k]).toNat_lt
      generalize hx : (l[k]).toNat = x at *
      have HX := Lib.hid hx; clear hx hc
      generalize h1 : (Frm.ad (l.take k)).1 = p at *
      generalize h2 : (Frm.ad (l.take k)).2 = q at *
      have H1 := Lib.hid h1; have H2 := Lib.hid h2; clear h1 h2
      go_wp2
      go_round
      case rel =>
        refine ⟨k + 1, by omega, by go_num, ?_, ?_⟩
        · rw [HA.out]; unfold Frm.adStep; rw [H1.out, HX.out]; go_num
        · rw [HA.out]; unfold Frm.adStep; rw [H1.out, H2.out, HX.out]; go_num
      case measure => simp [intOf]; omega
    · go_wp2
      go_ret
      refine ⟨ret_int ?_, rfl⟩
      have hkk : l.take k = l := List.take_of_length_le (by rw [HL.out]; omega)
      have hz := Frm.ad_lt l
      rw [hkk]
      rw [show (((Frm.ad l).2 : Int) * 65536) = (((Frm.ad l).2 * 65536 : Nat) : Int) by omega, u32_or_nat _ _ (by omega) (by omega), nat_join16 _ _ (by omega) (by omega)]
      rfl

theorem size_any (w : World) (B : Nat) (A : Option Addr) (n c : Nat) (l : List UInt8) (h : Byt w B A n c l) (h3 : 3 ≤ n) :
    Calls Tryz.prog 55 #[.slice A n c] w fun e w' => e = .returned (.int .i64 (Frm.sz l : Nat)) ∧ ∃ k, w' = w.drewN k := by
  obtain ⟨hl, hcap, hmax, hcell⟩ := h
  obtain ⟨b, off, rfl, hb, hc⟩ := hcell (by omega)
  have h0 := hc 0 (by omega)
  have h1 := hc 1 (by omega)
  have h2 := hc 2 (by omega)
  have hx := (l[0]).toNat_lt
  have hy := (l[1]).toNat_lt
  have hz := (l[2]).toNat_lt
  have hs : Hid (Frm.sz l = l[0].toNat * 65536 + l[1].toNat * 256 + l[2].toNat) := by
    unfold Frm.sz Hid; simp [List.getD, List.getElem?_eq_getElem (show 0 < l.length by omega), List.getElem?_eq_getElem (show 1 < l.length by omega), List.getElem?_eq_getElem (show 2 < l.length by omega)]
  simp only [Nat.add_zero] at h0
  generalize l[0] = x at *
  generalize l[1] = y at *
  generalize l[2] = z at *
  have i0 : (0 : Int) < n := by omega
  have i1 : (1 : Int) < n := by omega
  have i2 : (2 : Int) < n := by omega
  have HL := Lib.hid hl; clear hl hc hcell hmax
  go_enter Tryz.func55, Tryz.ntmps55
  go_wp2
  go_quiet (fail)
  go_wp2
  go_ret
  refine ⟨ret_int ?_, _, rfl⟩
  rw [hs.out]
  rw [show ((x.toNat : Int) * 65536) = ((x.toNat * 65536 : Nat) : Int) by omega, show ((y.toNat : Int) * 256) = ((y.toNat * 256 : Nat) : Int) by omega,
    i64_or_nat _ _ (by omega) (by omega), nat_join16 _ _ (by omega) (by omega), i64_or_nat _ _ (by omega) (by omega), nat_join8 _ _ (by omega) (by omega)]

set_option maxHeartbeats 1000000 in
theorem open1_any (w : World) (B g : Nat) (A : Option Addr) (n c : Nat) (l : List UInt8) (hg : w.cell? ⟨g, 0, none⟩ = some (.slice A n c)) (h : Byt w B A n c l) :
    Calls Tryz.prog 53 #[.pointer (some ⟨g, 0, none⟩)] w fun e w' => e = .returned (.bool (Frm.unlike l)) ∧ ∃ k, w' = w.drewN k := by
  obtain ⟨hl, hcap, hmax, hcell⟩ := h
  unfold maxLen at hmax
  have HL := Lib.hid hl; clear hl
  have HC := Lib.hid hcell; clear hcell
  go_enter Tryz.func53, Tryz.ntmps53
  go_wp2
  go_loopw [2] (fun i w1 => ∃ k : Nat, i = .int .i64 k ∧ 3 ≤ k ∧ k ≤ 6 ∧ Hid (∀ j, 3 ≤ j → j < k → Frm.unlikeAt l j = false) ∧ ∃ q, w1 = w.drewN q) (fun i _ => 6 - (intOf i).toNat)
  case atStart => exact ⟨3, rfl, by omega, by omega, fun j h1 h2 => by omega, 0, rfl⟩
  case round =>
    obtain ⟨k, rfl, hk3, hk6, HK, q, rfl⟩ := hrel
    by_cases hk : k < 6
    · by_cases hkn : k < n
      · obtain ⟨b, off, rfl, hb, hc⟩ := HC.out (by omega)
        have hc1 := hc k (by rw [HL.out]; exact hkn)
        have hc2 := hc (k - 3) (by rw [HL.out]; omega)
        have hu : Hid (Frm.unlikeAt l k = (((l[k]'(by rw [HL.out]; exact hkn)).toNat : Int) != 255 - ((l[k - 3]'(by rw [HL.out]; omega)).toNat : Int))) := Frm.unlikeAt_eq l k (by rw [HL.out]; exact hkn)
        have hx := (l[k]'(by rw [HL.out]; exact hkn)).toNat_lt
        have hy := (l[k - 3]'(by rw [HL.out]; omega)).toNat_lt
        generalize (l[k]'(by rw [HL.out]; exact hkn)).toNat = x at *
        generalize (l[k - 3]'(by rw [HL.out]; omega)).toNat = y at *
        have t1 : (k : Int) < n := by omega
        have t2 : 0 ≤ (k : Int) - 3 := by omega
        have t3 : (k : Int) - 3 < n := by omega
        have t4 : ((k : Int) - 3).toNat = k - 3 := by omega
        clear hc
        by_cases hxy : ((x : Int) != 255 - (y : Int)) = true
        · go_wp2
          go_quiet (fail)
          go_wp2
          go_ret
          exact ⟨ret_bool (Frm.unlike_of l k hk3 hk (by rw [hu.out]; exact hxy)).symm, _, World.drewN_drewN ..⟩
        · have hxy' : ((x : Int) != 255 - (y : Int)) = false := by simpa using hxy
          clear hxy
          go_wp2
          go_quiet (fail)
          go_wp2
          go_roundw
          case rel =>
            refine ⟨k + 1, by go_num, by omega, by omega, fun j h1 h2 => ?_, _, rfl⟩
            by_cases e : j = k
            · subst e; rw [hu.out]; exact hxy'
            · exact HK.out j h1 (by omega)
          case measure => simp [intOf]; omega
      · go_wp2
        go_ret
        exact ⟨ret_bool (Frm.unlike_not l k HK.out (by rw [HL.out]; omega)).symm, q, rfl⟩
    · go_wp2
      go_ret
      exact ⟨ret_bool (Frm.unlike_not6 l k HK.out (by omega)).symm, q, rfl⟩

theorem open2_any (w : World) (B g : Nat) (A : Option Addr) (n c : Nat) (l : List UInt8) (hg : w.cell? ⟨g, 0, none⟩ = some (.slice A n c)) (h : Byt w B A n c l) :
    Calls Tryz.prog 54 #[.pointer (some ⟨g, 0, none⟩)] w fun e w' => e = .returned (.bool (Frm.long l)) ∧ ∃ k, w' = w.drewN k := by
  have hmax := h.max
  have hcap := h.cap
  unfold maxLen at hmax
  have HH := Lib.hid h
  have HL := Lib.hid h.len; clear h
  by_cases h3 : 3 ≤ n
  · go_enter Tryz.func54, Tryz.ntmps54
    go_wp2_with (go_at_call 55; refine (size_any _ _ _ _ _ _ HH.out h3).mono ?_; rintro e w' ⟨rfl, kk, rfl⟩)
    go_ret
    refine ⟨ret_bool ?_, _, rfl⟩
    unfold Frm.long
    rw [HL.out]
    simp [h3]
    omega
  · go_enter Tryz.func54, Tryz.ntmps54
    go_wp2
    go_ret
    refine ⟨ret_bool ?_, 0, rfl⟩
    unfold Frm.long
    rw [HL.out]
    simp [h3]

theorem open3_any (w : World) (B g : Nat) (A : Option Addr) (n c : Nat) (l : List UInt8) (hg : w.cell? ⟨g, 0, none⟩ = some (.slice A n c)) (h : Byt w B A n c l) :
    Calls Tryz.prog 56 #[.pointer (some ⟨g, 0, none⟩)] w fun e w' => e = .returned (.bool (Frm.there l)) ∧ ∃ k, w' = w.drewN k := by
  have hmax := h.max
  have hcap := h.cap
  unfold maxLen at hmax
  have HH := Lib.hid h
  have HL := Lib.hid h.len; clear h
  have hs := Frm.sz_lt l
  by_cases h3 : 6 ≤ n
  · have t : decide ((6 : Int) ≤ (n : Int)) = true := by simpa using (by omega : (6 : Int) ≤ n)
    go_enter Tryz.func56, Tryz.ntmps56
    go_wp2
    go_quiet ((go_at_call 55; exact Calls.quiet_of (size_any _ _ _ _ _ _ (HH.out.drewN _) (by omega))))
    go_wp2
    go_ret
    refine ⟨ret_bool ?_, _, rfl⟩
    unfold Frm.there
    rw [HL.out]
    simp [h3]
    omega
  · have t : decide ((6 : Int) ≤ (n : Int)) = false := by simpa using (by omega : (n : Int) < 6)
    go_enter Tryz.func56, Tryz.ntmps56
    go_wp2
    go_quiet (fail)
    go_wp2
    go_ret
    refine ⟨ret_bool ?_, _, rfl⟩
    unfold Frm.there
    rw [HL.out]
    simp [h3]

theorem equal_any (w : World) (B B' : Nat) (A A' : Option Addr) (n c n' c' : Nat) (l l' : List UInt8) (h : Byt w B A n c l) (h' : Byt w B' A' n' c' l') :
    Calls Tryz.prog 14 #[.slice A n c, .slice A' n' c'] w fun e w' => e = .returned (.bool (l == l')) ∧ w = w' := by
  have e1 := h.str (P := Tryz.prog) 22 5 9 Tryz.underlying22 Tryz.underlying5 Tryz.underlying9
  have e2 := h'.str (P := Tryz.prog) 22 5 9 Tryz.underlying22 Tryz.underlying5 Tryz.underlying9
  clear h h'
  go_enter Tryz.func14, Tryz.ntmps14
  go_wp2
  go_ret
  exact ⟨rfl, rfl⟩

theorem open4_not (w : World) (B g gt : Nat) (A : Option Addr) (n c : Nat) (l : List UInt8) (ht : w.cell? ⟨gt, 0, none⟩ = some (.func (.func 56) #[] #[.pointer (some ⟨g, 0, none⟩)]))
    (hg : w.cell? ⟨g, 0, none⟩ = some (.slice A n c)) (h : Byt w B A n c l) (hth : Frm.there l = false) :
    Calls Tryz.prog 57 #[.pointer (some ⟨gt, 0, none⟩), .pointer (some ⟨g, 0, none⟩)] w fun e w' => e = .returned (.bool (Frm.wrong l)) ∧ Below w.heap.size w w' := by
  have HH := Lib.hid h; clear h
  have HT := Lib.hid hth; clear hth
  have HG := Lib.hid hg
  go_enter Tryz.func57, Tryz.ntmps57
  go_wp2_with fail
  refine (open3_any _ _ _ _ _ _ _ HG.out HH.out).mono ?_
  rintro e w' ⟨rfl, kk, rfl⟩
  rw [HT.out]
  go_wp2
  go_ret
  exact ⟨ret_bool (by simp [Frm.wrong, HT.out]), below_drewN (Below.refl _ _) _⟩

theorem open4_yes (w : World) (B g gt : Nat) (A : Option Addr) (n c : Nat) (l : List UInt8) (ht : w.cell? ⟨gt, 0, none⟩ = some (.func (.func 56) #[] #[.pointer (some ⟨g, 0, none⟩)]))
    (hg : w.cell? ⟨g, 0, none⟩ = some (.slice A n c)) (h : Byt w B A n c l) (hth : Frm.there l = true) (hB : B ≤ w.heap.size) (hn : n ≤ 1000000) :
    Calls Tryz.prog 57 #[.pointer (some ⟨gt, 0, none⟩), .pointer (some ⟨g, 0, none⟩)] w fun e w' => e = .returned (.bool (Frm.wrong l)) ∧ Below w.heap.size w w' := by
  have hw : Hid (Frm.wrong l = ((l.drop (6 + Frm.sz l)).take 4 != Frm.be4 (Frm.asum (l.take (6 + Frm.sz l))))) := by simp [Hid, Frm.wrong, hth]
  have hsz : 6 ≤ l.length ∧ Frm.sz l + 10 ≤ l.length := by simpa [Frm.there] using hth
  rw [h.len] at hsz
  obtain ⟨hs6, hs10⟩ := hsz
  have hmax := h.max
  have hcap := h.cap
  have HH := Lib.hid h; clear h
  obtain ⟨b, off, rfl, hb, _⟩ := HH.out.cell (by omega)
  have HT := Lib.hid hth; clear hth
  have HG := Lib.hid hg
  unfold maxLen at hmax
  go_enter Tryz.func57, Tryz.ntmps57
  go_wp2_with fail
  refine (open3_any _ _ _ _ _ _ _ HG.out HH.out).mono ?_
  rintro e w' ⟨rfl, kk, rfl⟩
  rw [HT.out]
  go_wp2_with fail
  refine (size_any _ _ _ _ _ _ (HH.out.drewN _) (by omega)).mono ?_
  rintro e w' ⟨rfl, kk, rfl⟩
  generalize hz : Frm.sz l = z at *
  have HZ := Lib.hid hz; clear hz
  have hc1 : Hid (Byt w B (some ⟨b, off, none⟩) (6 + z) c (l.take (6 + z))) := by
    have := HH.out.cut 0 (6 + z) (by omega); unfold Hid; simpa using this
  have hc2 := Lib.hid (HH.out.cut (6 + z) 4 (by omega))
  have hlt := Frm.asum_lt (l.take (6 + z))
  generalize hs : Frm.asum (l.take (6 + z)) = s at *
  have HS := Lib.hid hs; clear hs
  go_wp2_with fail
  refine (sum_any _ _ _ _ _ _ (hc1.out.drewN _) (by omega)).mono ?_
  rintro e w' ⟨rfl, rfl⟩
  rw [HS.out]
  go_wp2_with fail
  have hb4 : Hid (#[Value.int IntKind.u8 (↑s / 16777216), Value.int IntKind.u8 (↑s / 65536 % 256), Value.int IntKind.u8 (↑s / 256 % 256), Value.int IntKind.u8 (↑s % 256)] = ((Frm.be4 s).map fun x => Value.int .u8 x.toNat).toArray) := by
    simp [Hid, Frm.be4, Frm.u8_toNat]
    omega
  refine (equal_any _ B (w.heap.size + 1) _ _ _ _ _ _ _ (Frm.be4 s) ((hc2.out.drewN _).alloc hB _) (Byt.new (w.drewN _) _ _ _ hb4.out _ rfl (by unfold maxLen Frm.be4; simp))).mono ?_
  rintro e w' ⟨rfl, rfl⟩
  go_wp2
  go_ret
  refine ⟨ret_bool ?_, (below_drewN (Below.refl _ _) _).alloc (Nat.le_refl _) _⟩
  rw [hw.out]
  rfl

theorem open4_any (w : World) (B g gt : Nat) (A : Option Addr) (n c : Nat) (l : List UInt8) (ht : w.cell? ⟨gt, 0, none⟩ = some (.func (.func 56) #[] #[.pointer (some ⟨g, 0, none⟩)]))
    (hg : w.cell? ⟨g, 0, none⟩ = some (.slice A n c)) (h : Byt w B A n c l) (hB : B ≤ w.heap.size) (hn : n ≤ 1000000) :
    Calls Tryz.prog 57 #[.pointer (some ⟨gt, 0, none⟩), .pointer (some ⟨g, 0, none⟩)] w fun e w' => e = .returned (.bool (Frm.wrong l)) ∧ Below w.heap.size w w' := by
  cases ht' : Frm.there l
  · exact open4_not w B g gt A n c l ht hg h ht'
  · exact open4_yes w B g gt A n c l ht hg h ht' hB hn
end Go.Proofs.YtdjoaboalknlkaaGreatDoor
