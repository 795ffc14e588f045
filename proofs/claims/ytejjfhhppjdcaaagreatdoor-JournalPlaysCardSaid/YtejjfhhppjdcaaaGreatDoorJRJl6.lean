/-
  Layer 5: the document's Segments, Auto, Same, Digits, File.
  Layer 5: the document's Digits, File.
  Layer 3: the document's Sum, num, value (ciceroneref03).
  Layer 3: the document's Seal (ciceroneref03).
  Layer 5: the document's Frame, Bytes.
  Layer 5: the document's Segment.
-/
import Derived.Test.YtejjfhhppjdcaaaGreatDoorJJlRd
import Derived.Test.YtejjfhhppjdcaaaGreatDoorJRef02
import Derived.Test.YtejjfhhppjdcaaaGreatDoorJBytes
import Derived.Test.YtejjfhhppjdcaaaGreatDoorJFrmWalk
import Derived.Test.YtejjfhhppjdcaaaGreatDoorJRJl4
import Derived.Test.YtejjfhhppjdcaaaGreatDoorJDInv
namespace Go.Proofs.YtejjfhhppjdcaaaGreatDoor
open Go.RowKit Go.Maps Go.Sort

theorem rsegs_any (w : World) (n p : Nat) (hn : n ≤ 1000000) (hp1 : 1 ≤ p) (hp2 : p ≤ 4096) : Calls Tryz.prog 26 #[.int .i64 n, .int .i64 p] w fun e w' => e = .returned (.int .i64 (nseg n p)) ∧ w = w' := by
  have hp0 : ((p : Int) == 0) = false := by simp; omega
  have e1 : (n : Int) + p - 1 = ((n + p - 1 : Nat) : Int) := by omega
  have h2 : nseg n p ≤ n + p := Nat.le_trans (Nat.div_le_self _ _) (by omega)
  have hd : ((n : Int) + p - 1) / (p : Int) = ((nseg n p : Nat) : Int) := by
    rw [e1, ← Int.natCast_ediv]; rfl
  have HD := Lib.hid hd
  clear e1 h2 hd
  go_enter Tryz.func26, Tryz.ntmps26
  go_wp2
  go_ret
  exact ⟨ret_int HD.out, rfl⟩
/-- how many last by files that were begun -/
def autoN (n p : Nat) : Nat := if n = 0 then 0 else (n - 1) / p * p
theorem rauto_any (w : World) (n p : Nat) (hn : n ≤ 1000000) (hp1 : 1 ≤ p) (hp2 : p ≤ 4096) : Calls Tryz.prog 46 #[.int .i64 n, .int .i64 p] w fun e w' => e = .returned (.int .i64 (autoN n p)) ∧ w = w' := by
  have hp0 : ((p : Int) == 0) = false := by simp; omega
  by_cases h0 : n = 0
  · subst h0
    go_enter Tryz.func46, Tryz.ntmps46
    go_wp2
    go_ret
    exact ⟨rfl, rfl⟩
  · have t1 : ((n : Int) == 0) = false := by simp; omega
    have h2 : (n - 1) / p ≤ n - 1 := Nat.div_le_self _ _
    have h3 : (n - 1) / p * p ≤ n - 1 := Nat.div_mul_le_self _ _
    have HE := Lib.hid (show autoN n p = (n - 1) / p * p by unfold autoN; rw [if_neg h0])
    obtain ⟨q, hq⟩ : ∃ q, q = (n - 1) / p := ⟨_, rfl⟩
    rw [← hq] at h2 h3 HE
    have hd : ((n : Int) - 1).tdiv (p : Int) = (q : Int) := by
      rw [show (n : Int) - 1 = ((n - 1 : Nat) : Int) by omega, ← Int.ofNat_tdiv, ← hq]
    obtain ⟨r, hr⟩ : ∃ r, r = q * p := ⟨_, rfl⟩
    have hm : (q : Int) * (p : Int) = (r : Int) := by rw [hr]; exact (Int.natCast_mul q p).symm
    rw [← hr] at h3 HE
    have hw : wrap64 (r : Int) = r := by unfold wrap64; omega
    have hwq : wrap64 (q : Int) = q := by unfold wrap64; omega
    clear hq hr h0
    go_enter Tryz.func46, Tryz.ntmps46
    go_wp2
    go_ret
    exact ⟨ret_int (by rw [HE.out]), rfl⟩
def Ints (w : World) (B : Nat) (A : Option Addr) (n c : Nat) (l : List Int) : Prop := Cel w B 1 A n c (intVs l)
theorem Ints.len {w : World} {B n c : Nat} {A : Option Addr} {l : List Int} (h : Ints w B A n c l) : l.length = n := by
  have := Cel.len h; simpa [intVs] using this
theorem Ints.at_ {w : World} {B n c : Nat} {A : Option Addr} {l : List Int} (h : Ints w B A n c l) (k : Nat) (hk : k < l.length) : ∃ b off, A = some ⟨b, off, none⟩ ∧ b < B ∧ w.cell? ⟨b, off + k, none⟩ = some (.int .i64 l[k]) := by
  have hl := h.len
  obtain ⟨b, off, e, hb, hc⟩ := Cel.cell h (by omega)
  exact ⟨b, off, e, hb, hc k _ (by simp [hk, intVs])⟩
set_option maxRecDepth 100000 in
set_option maxHeartbeats 2000000 in
theorem rsame05_any (w : World) (B B' : Nat) (A A' : Option Addr) (n c c' : Nat) (l : List Int) (h : Ints w B A n c l) (h' : Ints w B' A' n c' l) (hn : n ≤ 100000) :
    Calls Tryz.prog 79 #[.slice A n c, .slice A' n c'] w fun e w' => e = .returned (.bool true) ∧ ∃ k, w' = w.drewN k := by
  have HH := Lib.hid h; clear h
  have HH' := Lib.hid h'; clear h'
  have hnn : ((n : Int) != (n : Int)) = false := by simp
  go_enter Tryz.func79, Tryz.ntmps79
  go_wp2
  clear hnn
  go_loopw [5] (fun i wr => ∃ k q : Nat, i = .int .i64 k ∧ k ≤ n ∧ wr = w.drewN q) (fun i _ => n - (intOf i).toNat)
  case atStart => exact ⟨0, 0, rfl, Nat.zero_le _, rfl⟩
  case round =>
    obtain ⟨k, q, rfl, hk, rfl⟩ := hrel
    by_cases hkn : k < n
    · have hkl : k < l.length := by rw [HH.out.len]; exact hkn
      obtain ⟨b, off, rfl, hb, hc⟩ := HH.out.at_ k hkl
      obtain ⟨b', off', rfl, hb', hc'⟩ := HH'.out.at_ k hkl
      have t1 : (k : Int) < n := by omega
      generalize l[k] = x at *
      have t5 : (x != x) = false := by simp
      go_wp2
      go_quiet (fail)
      go_wp2
      go_roundw
      case rel => exact ⟨k + 1, _, by go_num, by omega, rfl⟩
      case measure => simp [intOf]; omega
    · go_wp2
      go_ret
      exact ⟨rfl, _, rfl⟩
end Go.Proofs.YtejjfhhppjdcaaaGreatDoor
namespace Go.Proofs.YtejjfhhppjdcaaaGreatDoor
open Go.RowKit Go.Maps Go.Sort

theorem dec_lo {n : Nat} (h : n < 10) (l : List UInt8) : Lib.decDigits n ++ l = (48 + UInt8.ofNat n) :: l := by
  rw [Lib.decDigits, dif_pos h]; simp
theorem dec_hi {n : Nat} (h : ¬ n < 10) (l : List UInt8) : Lib.decDigits n ++ l = Lib.decDigits (n / 10) ++ (48 + UInt8.ofNat (n % 10)) :: l := by
  rw [Lib.decDigits, dif_neg h, List.append_assoc]; simp
theorem str_cons (c : UInt8) (l : List UInt8) : (⟨#[c]⟩ : ByteArray) ++ ⟨l.toArray⟩ = ⟨(c :: l).toArray⟩ := str_app [c] l
set_option maxRecDepth 100000 in
set_option maxHeartbeats 2000000 in
theorem rdigits_any (w : World) (n : Nat) (hn : n < 100) :
    Calls Tryz.prog 72 #[.int .i64 n] w fun e w' => e = .returned (.string ⟨(Lib.decDigits n).toArray⟩) ∧ RowKit.Below w.heap.size w w' := by
  have kc := conv1
  go_enter Tryz.func72, Tryz.ntmps72
  go_wp2
  go_loopw [0, 3] (fun a b wr => ∃ (m : Nat) (l : List UInt8), a = .int .i64 m ∧ b = .string ⟨l.toArray⟩ ∧ l.length ≤ 2 ∧ m ≤ n ∧ Lib.decDigits m ++ l = Lib.decDigits n ∧ RowKit.Below w.heap.size w wr) (fun a _ _ => (intOf a).toNat)
  case atStart => exact ⟨n, [], rfl, rfl, by simp, Nat.le_refl _, by simp, RowKit.Below.refl _ _⟩
  case round =>
    obtain ⟨m, l, rfl, rfl, hln, hm, hl, hb⟩ := hrel
    have HB := Lib.hid hb; clear hb
    by_cases h9 : m < 10
    · have t1 : ¬ (9 : Int) < m := by omega
      have hl' := Lib.hid ((dec_lo h9 l).symm.trans hl)
      have e1 : IntKind.u8.wrap (48 + (m : Int)) = 48 + (m : Int) := by simp [IntKind.wrap, IntKind.bits, IntKind.signed]; omega
      clear hl
      go_wp2
      go_ret
      refine ⟨?_, HB.out.alloc HB.out.size _⟩
      exact congrArg (fun z : List UInt8 => Ending.returned (.string ⟨z.toArray⟩)) hl'.out
    · have t1 : (9 : Int) < m := by omega
      have hl' := Lib.hid ((dec_hi h9 l).symm.trans hl)
      obtain ⟨q, r, hq, hr, hqm, hr10⟩ : ∃ q r : Nat, q = m / 10 ∧ r = m % 10 ∧ q < m ∧ r < 10 := ⟨_, _, rfl, rfl, by omega, by omega⟩
      rw [← hq, ← hr] at hl'
      obtain ⟨e1, e2, e3, e4, e5⟩ : (m : Int).tmod 10 = (r : Int) ∧ (m : Int).tdiv 10 = (q : Int) ∧ IntKind.i64.wrap (q : Int) = (q : Int) ∧ IntKind.i64.wrap (48 + (r : Int)) = 48 + (r : Int) ∧ IntKind.u8.wrap (48 + (r : Int)) = 48 + (r : Int) := ⟨by rw [hr]; exact (Int.ofNat_tmod m 10).symm, by rw [hq]; exact (Int.ofNat_tdiv m 10).symm, IntWalk.i64_in _ (by omega), IntWalk.i64_in _ (by omega), by simp [IntKind.wrap, IntKind.bits, IntKind.signed]; omega⟩
      have HLL := Lib.hid (show ((48 + UInt8.ofNat r) :: l).length ≤ 2 from by
        have h1 := congrArg List.length hl'.out
        have h2 := (digits_two hn).2
        have h3 := Lib.decDigits n
        have h4 : 1 ≤ (Lib.decDigits q).length := List.length_pos_iff.2 (decDigits_ne q)
        rw [List.length_append] at h1; omega)
      clear hl hq hr h9
      go_wp2
      go_roundw
      case rel => exact ⟨q, _, by first | rfl | go_num, rfl, HLL.out, by omega, hl'.out, HB.out.alloc HB.out.size _⟩
      case measure => simp [intOf]; omega
set_option maxHeartbeats 2000000 in
theorem rfile_any (w : World) (s : List UInt8) (n : Nat) (hs : s.length ≤ 100) (hn : n < 100) :
    Calls Tryz.prog 28 #[.string ⟨s.toArray⟩, .int .i64 n] w fun e w' => e = .returned (.string ⟨(segF s n).toArray⟩) ∧ RowKit.Below w.heap.size w w' := by
  have HE := Lib.hid (show (⟨s.toArray⟩ : ByteArray) ++ ⟨#[46]⟩ ++ ⟨(Lib.decDigits n).toArray⟩ = ⟨(segF s n).toArray⟩ from by
    rw [show (⟨#[46]⟩ : ByteArray) = ⟨[46].toArray⟩ from rfl, str_app, str_app]; unfold segF; simp)
  have hd2 := (digits_two hn).2
  go_enter Tryz.func28, Tryz.ntmps28
  go_wp2_with fail
  refine (rdigits_any w n hn).mono ?_
  rintro e w1 ⟨rfl, hb⟩
  go_wp2
  go_ret
  exact ⟨by first | rfl | (rw [HE.out]; rfl) | (rw [HE.out]; done), hb⟩
end Go.Proofs.YtejjfhhppjdcaaaGreatDoor
namespace Go.Proofs.YtejjfhhppjdcaaaGreatDoor
open Go.RowKit

set_option maxHeartbeats 400000 in
theorem rsum_any (w : World) (l : List UInt8) (hn : l.length ≤ 1000000) :
    Calls Tryz.prog 141 #[.string ⟨l.toArray⟩] w fun e w' => e = .returned (.int .i64 (Frm.asum l)) ∧ w = w' := by
  go_enter Tryz.func141, Tryz.ntmps141
  go_wp2
  go_loop [3, 4, 5] (fun t s i => ∃ k : Nat, k ≤ l.length ∧ i = .int .i64 k ∧ t = .int .i64 (Frm.ad (l.take k)).1 ∧ s = .int .i64 (Frm.ad (l.take k)).2) (fun _ _ i => l.length - (intOf i).toNat)
  case atStart => exact ⟨0, Nat.zero_le _, rfl, rfl, rfl⟩
  case round =>
    obtain ⟨k, hk, rfl, rfl, rfl⟩ := hrel
    obtain ⟨hlt1, hlt2⟩ := Frm.ad_lt (l.take k)
    by_cases hkn : k < l.length
    · have HA := Lib.hid (Frm.ad_take l k hkn)
      have hb8 : ((⟨l.toArray⟩ : ByteArray)[k]'(by simpa [ByteArray.size] using hkn)).toNat < 256 := ((⟨l.toArray⟩ : ByteArray)[k]'(by simpa [ByteArray.size] using hkn)).toNat_lt
      have HE := Lib.hid (show ((⟨l.toArray⟩ : ByteArray)[k]'(by simpa [ByteArray.size] using hkn)).toNat = l[k].toNat from rfl)
      generalize h1 : (Frm.ad (l.take k)).1 = p at *
      generalize h2 : (Frm.ad (l.take k)).2 = q at *
      have H1 := Lib.hid h1; have H2 := Lib.hid h2; clear h1 h2
      go_wp2
      go_round
      case rel =>
        refine ⟨k + 1, by omega, by go_num, ?_, ?_⟩
        · rw [HA.out]; unfold Frm.adStep; rw [H1.out, ← HE.out]; go_num
        · rw [HA.out]; unfold Frm.adStep; rw [H1.out, H2.out, ← HE.out]; go_num
      case measure => simp [intOf]; omega
    · have hkk : l.take k = l := List.take_of_length_le (by omega)
      rw [hkk] at hlt1 hlt2 ⊢
      go_wp2
      go_ret
      refine ⟨ret_int ?_, rfl⟩
      unfold Frm.asum
      go_num

/-- a number of bytes, the highest first -/
def valB (l : List UInt8) : Nat := l.foldl (fun n c => n * 256 + c.toNat) 0
theorem valB_take (l : List UInt8) (k : Nat) (h : k < l.length) : valB (l.take (k + 1)) = valB (l.take k) * 256 + l[k].toNat := by
  unfold valB
  rw [List.take_add_one, List.getElem?_eq_getElem h, Option.toList_some, List.foldl_append]; rfl
theorem valB_lt (l : List UInt8) : valB l < 256 ^ l.length := by
  have key : ∀ (l : List UInt8) (a : Nat), l.foldl (fun n c => n * 256 + c.toNat) a < (a + 1) * 256 ^ l.length := by
    intro l
    induction l with
    | nil => intro a; simp
    | cons c l ih =>
      intro a
      have := ih (a * 256 + c.toNat)
      have hc := c.toNat_lt
      rw [List.foldl_cons, List.length_cons, Nat.pow_succ]
      refine Nat.lt_of_lt_of_le this ?_
      have : (a * 256 + c.toNat + 1) ≤ (a + 1) * 256 := by omega
      calc (a * 256 + c.toNat + 1) * 256 ^ l.length ≤ ((a + 1) * 256) * 256 ^ l.length := Nat.mul_le_mul_right _ this
        _ = (a + 1) * (256 ^ l.length * 256) := by rw [Nat.mul_assoc, Nat.mul_comm 256]
  have := key l 0
  simpa [valB] using this
theorem valB_small (l : List UInt8) (h : l.length ≤ 4) : valB l < 4294967296 :=
  Nat.lt_of_lt_of_le (valB_lt l) (by
    have : 256 ^ l.length ≤ 256 ^ 4 := Nat.pow_le_pow_right (by decide) h
    simpa using this)

/-- the lowest i bytes of a number -/
def lowB : Nat → Nat → List UInt8
  | 0, _ => []
  | i + 1, n => Frm.u8 (n / 256 ^ i) :: lowB i n
theorem lowB3 (n : Nat) : lowB 3 n = Frm.be3 n := by simp [lowB, Frm.be3]
theorem lowB4 (n : Nat) : lowB 4 n = Frm.be4 n := by simp [lowB, Frm.be4]

theorem lowB_length (i n : Nat) : (lowB i n).length = i := by
  induction i with
  | zero => rfl
  | succ i ih => simp [lowB, ih]
theorem u8_mod (x : Nat) : UInt8.ofNat (x % 256) = Frm.u8 x := by
  unfold Frm.u8
  apply UInt8.toNat_inj.1
  simp
set_option maxHeartbeats 400000 in
theorem num_any (w : World) (n s : Nat) (hn : n < 4294967296) (hs : s ≤ 4) :
    Calls Tryz.prog 140 #[.int .i64 n, .int .i64 s] w fun e w' => e = .returned (.string ⟨(lowB s n).toArray⟩) ∧ Below w.heap.size w w' := by
  have kc := conv1
  go_enter Tryz.func140, Tryz.ntmps140
  go_wp2
  go_loopw [0, 5, 6] (fun m t i wr => ∃ k : Nat, k ≤ s ∧ i = .int .i64 k ∧ m = .int .i64 (n / 256 ^ k : Nat) ∧ t = .string ⟨(lowB k n).toArray⟩ ∧ Below w.heap.size w wr) (fun _ _ i _ => s - (intOf i).toNat)
  case atStart => exact ⟨0, Nat.zero_le _, rfl, by simp, rfl, Below.refl _ _⟩
  case round =>
    obtain ⟨k, hk, rfl, rfl, rfl, hb⟩ := hrel
    have hdiv : n / 256 ^ k ≤ n := Nat.div_le_self _ _
    by_cases hkn : k < s
    · have HD := Lib.hid (show n / 256 ^ (k + 1) = n / 256 ^ k / 256 by rw [Nat.pow_succ, Nat.div_div_eq_div_mul])
      have HL := Lib.hid (show lowB (k + 1) n = Frm.u8 (n / 256 ^ k) :: lowB k n from rfl)
      generalize hx : n / 256 ^ k = x at *
      clear hx
      have hll : (lowB k n).length ≤ 4 := by rw [lowB_length]; omega
      go_wp2
      go_roundw
      case rel =>
        refine ⟨k + 1, by omega, by go_num, by rw [HD.out]; go_num, ?_, hb.alloc hb.size _⟩
        have := str_app [UInt8.ofNat (x % 256)] (lowB k n)
        rw [HL.out, ← u8_mod]
        exact congrArg Value.string this
      case measure => simp [intOf]; omega
    · obtain rfl : k = s := by omega
      go_wp2
      go_ret
      exact ⟨rfl, hb⟩
end Go.Proofs.YtejjfhhppjdcaaaGreatDoor
namespace Go.Proofs.YtejjfhhppjdcaaaGreatDoor
open Go.RowKit

theorem conv3d (w : World) (x y z : Int) : (convert 41 9 (.slice (some ⟨w.heap.size, 0, none⟩) 3 3)).run Tryz.prog (w.alloc (.cells #[.int .u8 x, .int .u8 y, .int .u8 z] 5)).drew =
    .ok (.string ⟨[UInt8.ofNat x.toNat, UInt8.ofNat y.toNat, UInt8.ofNat z.toNat].toArray⟩) (w.alloc (.cells #[.int .u8 x, .int .u8 y, .int .u8 z] 5)).drew := by
  have := run_convert_bytes_arg (P := Tryz.prog) (w.alloc (.cells #[.int .u8 x, .int .u8 y, .int .u8 z] 5)).drew 41 5 Tryz.underlying41 Tryz.underlying5 w.heap.size 0 3 3 [x, y, z] rfl (fun i hi => by
    show (w.alloc (.cells #[.int .u8 x, .int .u8 y, .int .u8 z] 5)).cell? _ = _
    rw [cell_of_row _ w.heap.size _ #[.int .u8 x, .int .u8 y, .int .u8 z] 5 (0, 0) (heap_alloc_new w _)]
    have : i = 0 ∨ i = 1 ∨ i = 2 := by omega
    rcases this with rfl | rfl | rfl <;> rfl) 9 Tryz.underlying9
  rw [this]
  simp [strOfNums]

theorem ofNat_255_sub (a : UInt8) : UInt8.ofNat (255 - a.toNat) = 255 - a := by
  apply UInt8.toNat_inj.1
  have := a.toNat_lt
  rw [Frm.sub255]
  simp
  omega

theorem rseal_long (w : World) (l : List UInt8) (hn : 65536 < l.length) (hm : l.length ≤ 1000000) :
    Calls Tryz.prog 110 #[.string ⟨l.toArray⟩] w fun e w' => e = .returned (.tuple #[.string ⟨#[]⟩, .bool false]) ∧ w = w' := by
  go_enter Tryz.func110, Tryz.ntmps110
  go_wp2
  go_ret2
  exact ⟨rfl, rfl⟩

set_option maxHeartbeats 1000000 in
theorem rseal_any (w : World) (l : List UInt8) (hn : l.length ≤ 65536) :
    Calls Tryz.prog 110 #[.string ⟨l.toArray⟩] w fun e w' => e = .returned (.tuple #[.string ⟨(Frm.sealB l).toArray⟩, .bool true]) ∧ Below w.heap.size w w' := by
  have kc := fun w x y z => conv3d w x y z
  have d1 : decide (65536 < (l.length : Int)) = false := decide_eq_false (by omega)
  go_enter Tryz.func110, Tryz.ntmps110
  go_wp2_with fail
  refine (num_any w l.length 3 (by omega) (by omega)).mono ?_
  rintro e w1 ⟨rfl, hb1⟩
  have hf : Frm.front l = [Frm.u8 (l.length / 65536), Frm.u8 (l.length / 256), Frm.u8 l.length] ++ [255 - Frm.u8 (l.length / 65536), 255 - Frm.u8 (l.length / 256), 255 - Frm.u8 l.length] ++ l := rfl
  rw [lowB3]
  unfold Frm.be3
  generalize Frm.u8 (l.length / 65536) = a at *
  generalize Frm.u8 (l.length / 256) = b at *
  generalize Frm.u8 l.length = c at *
  have HF := Lib.hid hf; clear hf
  have ha := a.toNat_lt; have hb := b.toNat_lt; have hc := c.toNat_lt
  have g0 : (⟨#[a, b, c]⟩ : ByteArray)[0]'(by show 0 < 3; decide) = a := rfl
  have g1 : (⟨#[a, b, c]⟩ : ByteArray)[1]'(by show 1 < 3; decide) = b := rfl
  have g2 : (⟨#[a, b, c]⟩ : ByteArray)[2]'(by show 2 < 3; decide) = c := rfl
  go_wp2_with fail
  go_region
  have hs : (⟨#[a, b, c]⟩ : ByteArray) ++ ⟨#[UInt8.ofNat (255 - a.toNat), UInt8.ofNat (255 - b.toNat), UInt8.ofNat (255 - c.toNat)]⟩ ++ ⟨l.toArray⟩ = ⟨(Frm.front l).toArray⟩ := by
    have e1 := str_app [a, b, c] [255 - a, 255 - b, 255 - c]
    have e2 := str_app ([a, b, c] ++ [255 - a, 255 - b, 255 - c]) l
    rw [HF.out, ← e2, ← e1, ofNat_255_sub, ofNat_255_sub, ofNat_255_sub]
  rw [hs]
  have hfl := Frm.front_length l
  have hlt := Frm.asum_lt (Frm.front l)
  have HFL := Lib.hid hfl
  have hfle : (Frm.front l).length ≤ 65542 := by omega
  clear hfl g0 g1 g2 kc hs
  have hb2 : Below w.heap.size w (w1.alloc (Obj.cells #[Value.int IntKind.u8 (255 - ↑a.toNat), Value.int IntKind.u8 (255 - ↑b.toNat), Value.int IntKind.u8 (255 - ↑c.toNat)] 5)).drew := (hb1.alloc hb1.size _).drew
  generalize (w1.alloc (Obj.cells #[Value.int IntKind.u8 (255 - ↑a.toNat), Value.int IntKind.u8 (255 - ↑b.toNat), Value.int IntKind.u8 (255 - ↑c.toNat)] 5)).drew = w2 at *
  go_wp2_with fail
  refine (rsum_any w2 (Frm.front l) (by omega)).mono ?_
  rintro e w3 ⟨rfl, rfl⟩
  go_wp2_with fail
  refine (num_any w2 (Frm.asum (Frm.front l)) 4 hlt (by omega)).mono ?_
  rintro e w3 ⟨rfl, hb3⟩
  rw [lowB4]
  have h4 : (Frm.be4 (Frm.asum (Frm.front l))).length = 4 := rfl
  go_wp2
  go_ret2
  refine ⟨?_, hb2.trans (hb3.mono hb2.size)⟩
  have := str_app (Frm.front l) (Frm.be4 (Frm.asum (Frm.front l)))
  unfold Frm.sealB
  rw [← this]
  rfl
end Go.Proofs.YtejjfhhppjdcaaaGreatDoor
namespace Go.Proofs.YtejjfhhppjdcaaaGreatDoor
open Go.RowKit Go.Maps Go.Sort

theorem strB {w : World} {B n c : Nat} {A : Option Addr} {l : List UInt8} (h : Byt w B A n c l) : (convert 41 9 (.slice A n c)).run Tryz.prog w = .ok (.string ⟨l.toArray⟩) w :=
  h.str (P := Tryz.prog) 41 5 9 Tryz.underlying41 Tryz.underlying5 Tryz.underlying9
abbrev rentObj (x : Option Ev) : Obj := .cells #[.string ⟨(entE x).src.toArray⟩, .int .i64 (entE x).num, .int .i64 (entE x).at_, .int .i64 (entE x).kind, .string ⟨(entE x).per.toArray⟩, .string ⟨(entE x).item.toArray⟩, .int .i64 (entE x).val, .string ⟨(entE x).text.toArray⟩, .bool x.isNone] 72
theorem REntIn.new (w : World) (x : Option Ev) : EntIn (w.alloc (rentObj x)) w.heap.size x := by
  have key : ∀ o, (w.alloc (rentObj x)).cell? ⟨w.heap.size, o, none⟩ = _ := fun o => cell_of_row _ w.heap.size o _ _ (0, 0) (heap_alloc_new w (rentObj x))
  exact ⟨(key 0).trans rfl, (key 1).trans rfl, (key 2).trans rfl, (key 3).trans rfl, (key 4).trans rfl, (key 5).trans rfl, (key 6).trans rfl, (key 7).trans rfl, (key 8).trans rfl⟩
/-- a text, and nothing that was is changed -/
def StrP (w : World) (l : List UInt8) (e : Ending) (w' : World) : Prop := e = .returned (.string ⟨l.toArray⟩) ∧ RowKit.Below w.heap.size w w'
set_option maxRecDepth 100000 in
set_option maxHeartbeats 2000000 in
theorem rframe_any (w : World) (x : Option Ev) (hx : ∀ e, x = some e → mayB e = true) : Calls Tryz.prog 77 #[entAgg x] w (StrP w (sealE x)) := by
  have hb0 : RowKit.Below w.heap.size w (w.alloc (rentObj x)) := (Below.refl _ _).alloc (Nat.le_refl _) _
  obtain ⟨f0, f1, f2, f3, f4, f5, f6, f7, f8⟩ := REntIn.new w x
  have HX := Lib.hid hx
  have HB0 := Lib.hid hb0
  clear hx hb0
  cases hxn : x.isNone
  · obtain ⟨e, rfl⟩ : ∃ e, x = some e := by cases x with
      | none => simp at hxn
      | some e => exact ⟨e, rfl⟩
    have hm := HX.out e rfl
    have HE := Lib.hid (show Frm.sealB (encE e) = sealE (some e) from rfl)
    have hel := (mayB_fit hm).len
    have HEN := Lib.hid (rencode_any (w.alloc (rentObj (some e))) e hm)
    have hagg : e.agg = .agg #[.string ⟨e.src.toArray⟩, .int .i64 e.num, .int .i64 e.at_, .int .i64 e.kind, .string ⟨e.per.toArray⟩, .string ⟨e.item.toArray⟩, .int .i64 e.val, .string ⟨e.text.toArray⟩] := rfl
    rw [hagg] at HEN
    simp only [entE, Option.getD_some] at *
    rw [hxn] at f8
    clear hagg hm HX
    go_enter Tryz.func77, Tryz.ntmps77
    go_wp2_with fail
    refine HEN.out.mono ?_
    rintro r w1 ⟨v1, rfl, ho1, hb1⟩
    have hbw1 : RowKit.Below w.heap.size w w1 := HB0.out.trans (hb1.mono HB0.out.size)
    obtain ⟨A1, c1, hv1⟩ := ho1.form
    subst hv1
    have kc := strB ho1.byt
    clear f0 f1 f2 f3 f4 f5 f6 f7 f8 ho1 hb1 HEN
    go_wp2_with fail
    with_reducible refine (rseal_any w1 (encE e) (by omega)).mono ?_
    rintro r w2 ⟨rfl, hb2⟩
    have HR := Lib.hid (show StrP w (sealE (some e)) (.returned (.string ⟨(Frm.sealB (encE e)).toArray⟩)) w2 from ⟨by rw [← HE.out], hbw1.trans (hb2.mono hbw1.size)⟩)
    clear hb2 kc
    go_wp2
    go_ret
    exact HR.out
  · obtain rfl : x = none := by cases x with
      | none => rfl
      | some e => simp at hxn
    have HE := Lib.hid (show Frm.sealB [] = sealE none from rfl)
    rw [hxn] at f8
    go_enter Tryz.func77, Tryz.ntmps77
    clear f0 f1 f2 f3 f4 f5 f6 f7
    go_wp2_with fail
    refine (rseal_any (w.alloc (rentObj none)) [] (by simp)).mono ?_
    rintro r w2 ⟨rfl, hb2⟩
    have HR := Lib.hid (show StrP w (sealE none) (.returned (.string ⟨(Frm.sealB []).toArray⟩)) w2 from ⟨by rw [← HE.out], HB0.out.trans (hb2.mono HB0.out.size)⟩)
    clear hb2
    go_wp2
    go_ret
    exact HR.out
theorem rsealE_len (x : Option Ev) (hx : ∀ e, x = some e → mayB e = true) : (sealE x).length ≤ 1239 := by
  have h : (bytesE x).length ≤ 1229 := by
    cases x with
    | none => simp [bytesE]
    | some e => have := (mayB_fit (hx e rfl)).len; simp only [bytesE]; omega
  have := Frm.sealB_length (bytesE x)
  unfold sealE; omega
theorem bytesL_len : ∀ (l : List (Option Ev)), (∀ e, some e ∈ l → mayB e = true) → (bytesL l).length ≤ 1239 * l.length
  | [], _ => by simp [bytesL]
  | x :: l, h => by
    have h1 := rsealE_len x (fun e he => h e (by simp [he]))
    have h2 := bytesL_len l (fun e he => h e (by simp [he]))
    have e1 : bytesL (x :: l) = sealE x ++ bytesL l := rfl
    rw [e1, List.length_append, List.length_cons]; omega
def RByRel (w : World) (l : List (Option Ev)) (s i : Value) (wr : World) : Prop := ∃ k : Nat, i = .int .i64 k ∧ k ≤ l.length ∧ s = .string ⟨(bytesL (l.take k)).toArray⟩ ∧ RowKit.Below w.heap.size w wr
set_option maxRecDepth 100000 in
set_option maxHeartbeats 4000000 in
theorem rbytes_any (w : World) (A : Option Addr) (n c : Nat) (l : List (Option Ev)) (h : Ents w w.heap.size A n c l) (hx : ∀ e, some e ∈ l → mayB e = true) (hn : n ≤ 1000) : Calls Tryz.prog 41 #[.slice A n c] w (StrP w (bytesL l)) := by
  have HH := Lib.hid h; have HX := Lib.hid hx
  have HL := Lib.hid h.len
  have HBL := Lib.hid (show ∀ k, (bytesL (l.take k)).length ≤ 1239 * 1000 from fun k => by
    have h1 := bytesL_len (l.take k) (fun e he => hx e (List.mem_of_mem_take he))
    have h2 : (l.take k).length ≤ 1000 := by rw [List.length_take]; have := h.len; omega
    exact Nat.le_trans h1 (Nat.mul_le_mul_left _ h2))
  clear h hx
  go_enter Tryz.func41, Tryz.ntmps41
  go_wp2
  go_loopw [3, 4] (fun s i wr => RByRel w l s i wr) (fun _ i _ => n - (intOf i).toNat)
  case atStart => exact ⟨0, rfl, Nat.zero_le _, rfl, Below.refl _ _⟩
  case round =>
    obtain ⟨k, rfl, hk, rfl, hb⟩ := hrel
    have HB := Lib.hid hb; clear hb
    have hkL : k ≤ n := by rw [← HL.out]; exact hk
    by_cases hkn : k < n
    · have hkl : k < l.length := by rw [HL.out]; exact hkn
      obtain ⟨b, off, rfl, hbb, hc⟩ := HH.out.at_ k hkl
      obtain ⟨e0, e1, e2, e3, e4, e5, e6, e7, e8⟩ := hc.below HB.out hbb
      have HT := Lib.hid (show bytesL (l.take (k + 1)) = bytesL (l.take k) ++ sealE l[k] by
        rw [List.take_add_one, List.getElem?_eq_getElem hkl, Option.toList_some, bytesL_append]; simp [bytesL])
      have HXK := Lib.hid (show ∀ e, l[k] = some e → mayB e = true from fun e he => HX.out e (he ▸ List.getElem_mem hkl))
      have hl1 := HBL.out k
      have hl2 := rsealE_len _ HXK.out
      generalize l[k] = x at *
      have t1 : (k : Int) < n := by omega
      go_wp2_with fail
      refine (rframe_any wr x HXK.out).mono ?_
      rintro r w2 ⟨rfl, hb2⟩
      have HB2 := Lib.hid (show RowKit.Below w.heap.size w w2 from HB.out.trans (hb2.mono HB.out.size))
      clear hb2 e0 e1 e2 e3 e4 e5 e6 e7 e8 hc
      have HST := Lib.hid (show RByRel w l (.string (⟨(bytesL (l.take k)).toArray⟩ ++ ⟨(sealE x).toArray⟩)) (.int .i64 ((k + 1 : Nat) : Int)) w2 from ⟨k + 1, rfl, by omega, by rw [str_app, HT.out], HB2.out⟩)
      generalize bytesL (l.take k) = p at *
      generalize sealE x = q at *
      go_wp2
      go_roundw
      case rel => exact HST.out
      case measure => simp [intOf]; omega
    · have t1 : ¬ (k : Int) < n := by omega
      have HZ := Lib.hid (show bytesL (l.take k) = bytesL l by rw [List.take_of_length_le (by rw [HL.out]; omega)])
      go_wp2
      go_ret
      exact ⟨by first | rfl | (rw [HZ.out]; rfl), HB.out⟩
end Go.Proofs.YtejjfhhppjdcaaaGreatDoor
namespace Go.Proofs.YtejjfhhppjdcaaaGreatDoor
open Go.RowKit Go.Maps Go.Sort

theorem Ents.seg {w : World} {B n c : Nat} {A : Option Addr} {l : List (Option Ev)} (h : Ents w B A n c l) (p k : Nat) (hk : k * p ≤ n) :
    Ents w B (if c = k * p then A else A.map (·.add (k * p * 9))) (min p (n - k * p)) (c - k * p) (segL p k l) := by
  have := Cel.mid h (k * p) (min p (n - k * p)) (by omega)
  unfold Ents segL
  rw [entCells_dropN, entCells_takeN] at this
  have e : (l.drop (k * p)).take (min p (n - k * p)) = (l.drop (k * p)).take p := by
    rw [← h.len, ← List.length_drop, List.take_eq_take_iff]; omega
  rw [e] at this
  exact this
def SegP (w : World) (l : List (Option Ev)) (B : Nat) (e : Ending) (w' : World) : Prop := ∃ A n c, e = .returned (.slice A n c) ∧ Ents w B A n c l ∧ w = w'
set_option maxRecDepth 100000 in
set_option maxHeartbeats 2000000 in
theorem rsegment_any (w : World) (B : Nat) (A : Option Addr) (n c : Nat) (l : List (Option Ev)) (h : Ents w B A n c l) (hn : n ≤ 100000) (p k : Nat) (hp : p ≤ 4096) (hk : k * p ≤ n) (hk1 : k ≤ 100000) :
    Calls Tryz.prog 42 #[.slice A n c, .int .i64 p, .int .i64 k] w (SegP w (segL p k l) B) := by
  have HS := Lib.hid (h.seg p k hk)
  have hc := Cel.cap h
  have hm := Cel.max h
  clear h
  have e0 : ((k : Int) + 1) * p = ((k * p + p : Nat) : Int) := by rw [Int.add_mul]; simp
  have e1 : (k : Int) * p = ((k * p : Nat) : Int) := by simp
  generalize k * p = q at *
  by_cases hlt : n < q + p
  · have hmin : min p (n - q) = n - q := by omega
    rw [hmin] at HS
    by_cases hcq : c = q
    · rw [if_pos hcq] at HS
      go_enter Tryz.func42, Tryz.ntmps42
      go_wp2
      go_ret
      exact ⟨_, _, _, rfl, by first | exact HS.out | (have := HS.out; rw [hcq] at this; simpa using this) | (have := HS.out; simp [hcq] at this ⊢; exact this), rfl⟩
    · rw [if_neg hcq] at HS
      go_enter Tryz.func42, Tryz.ntmps42
      go_wp2
      go_ret
      exact ⟨_, _, _, rfl, by first | exact HS.out | (rw [Nat.add_sub_cancel_left]; exact HS.out), rfl⟩
  · have hmin : min p (n - q) = p := by omega
    rw [hmin] at HS
    by_cases hcq : c = q
    · rw [if_pos hcq] at HS
      go_enter Tryz.func42, Tryz.ntmps42
      go_wp2
      go_ret
      exact ⟨_, _, _, rfl, by first | exact HS.out | (have := HS.out; rw [hcq] at this; simpa using this) | (have := HS.out; simp [hcq] at this ⊢; exact this), rfl⟩
    · rw [if_neg hcq] at HS
      go_enter Tryz.func42, Tryz.ntmps42
      go_wp2
      go_ret
      exact ⟨_, _, _, rfl, by first | exact HS.out | (rw [Nat.add_sub_cancel_left]; exact HS.out), rfl⟩
end Go.Proofs.YtejjfhhppjdcaaaGreatDoor
