/-
  Layer 3: the document's Sum, num, value (ciceroneref03).
-/
import Derived.Test.YtdnbejhaocpacaaFrmWalk
namespace Go.Proofs.Ytdnbejhaocpacaa
open Go.RowKit

set_option maxHeartbeats 400000 in
theorem rsum_any (w : World) (l : List UInt8) (hn : l.length ≤ 1000000) :
    Calls Try.prog 20 #[.string ⟨l.toArray⟩] w fun e w' => e = .returned (.int .i64 (Frm.asum l)) ∧ w = w' := by
  go_enter Try.func20, Try.ntmps20
  go_wp2
  go_loop [3, 4, 5] (fun t s i => ∃ k : Nat, k ≤ l.length ∧ i = .int .i64 k ∧ t = .int .i64 (Frm.ad (l.take k)).1 ∧ s = .int .i64 (Frm.ad (l.take k)).2) (fun _ _ i => l.length - (intOf i).toNat)
  case atStart => exact ⟨0, Nat.zero_le _, rfl, rfl, rfl⟩
  case round =>
    obtain ⟨k, hk, rfl, rfl, rfl⟩ := hrel
    obtain ⟨hlt1, hlt2⟩ := Frm.ad_lt (l.take k)
    by_cases hkn : k < l.length
    · have HA := Lib.hid (Frm.ad_take l k hkn)
      have hb8 : ((⟨l.toArray⟩ : ByteArray)[k]'(by simpa [ByteArray.size] using hkn)).toNat < 256 := ((⟨l.toArray⟩ : ByteArray)[k]'(by simpa [ByteArray.size] using hkn)).toNat_lt
      have HE := Lib.hid (show ((⟨l.toArray⟩ : ByteArray)[k]'(by simpa [ByteArray.size] using hkn)).toNat = l[k].toNat from rfl)
      generalize h1 : (Frm.ad (l.take k)).1 = p at *
      generalize h2 : (Frm.ad (l.take k)).2 = q at *
      have H1 := Lib.hid h1; have H2 := Lib.hid h2; clear h1 h2
      go_wp2
      go_round
      case rel =>
        refine ⟨k + 1, by omega, by go_num, ?_, ?_⟩
        · rw [HA.out]; unfold Frm.adStep; rw [H1.out, ← HE.out]; go_num
        · rw [HA.out]; unfold Frm.adStep; rw [H1.out, H2.out, ← HE.out]; go_num
      case measure => simp [intOf]; omega
    · have hkk : l.take k = l := List.take_of_length_le (by omega)
      rw [hkk] at hlt1 hlt2 ⊢
      go_wp2
      go_ret
      refine ⟨ret_int ?_, rfl⟩
      unfold Frm.asum
      go_num

/-- a number of bytes, the highest first -/
def valB (l : List UInt8) : Nat := l.foldl (fun n c => n * 256 + c.toNat) 0
theorem valB_take (l : List UInt8) (k : Nat) (h : k < l.length) : valB (l.take (k + 1)) = valB (l.take k) * 256 + l[k].toNat := by
  unfold valB
  rw [List.take_add_one, List.getElem?_eq_getElem h, Option.toList_some, List.foldl_append]; rfl
theorem valB_lt (l : List UInt8) : valB l < 256 ^ l.length := by
  have key : ∀ (l : List UInt8) (a : Nat), l.foldl (fun n c => n * 256 + c.toNat) a < (a + 1) * 256 ^ l.length := by
    intro l
    induction l with
    | nil => intro a; simp
    | cons c l ih =>
      intro a
      have := ih (a * 256 + c.toNat)
      have hc := c.toNat_lt
      rw [List.foldl_cons, List.length_cons, Nat.pow_succ]
      refine Nat.lt_of_lt_of_le this ?_
      have : (a * 256 + c.toNat + 1) ≤ (a + 1) * 256 := by omega
      calc (a * 256 + c.toNat + 1) * 256 ^ l.length ≤ ((a + 1) * 256) * 256 ^ l.length := Nat.mul_le_mul_right _ this
        _ = (a + 1) * (256 ^ l.length * 256) := by rw [Nat.mul_assoc, Nat.mul_comm 256]
  have := key l 0
  simpa [valB] using this
theorem valB_small (l : List UInt8) (h : l.length ≤ 4) : valB l < 4294967296 :=
  Nat.lt_of_lt_of_le (valB_lt l) (by
    have : 256 ^ l.length ≤ 256 ^ 4 := Nat.pow_le_pow_right (by decide) h
    simpa using this)

set_option maxHeartbeats 400000 in
theorem rvalue_any (w : World) (l : List UInt8) (hn : l.length ≤ 4) :
    Calls Try.prog 27 #[.string ⟨l.toArray⟩] w fun e w' => e = .returned (.int .i64 (valB l)) ∧ w = w' := by
  go_enter Try.func27, Try.ntmps27
  go_wp2
  go_loop [3, 4] (fun t i => ∃ k : Nat, k ≤ l.length ∧ i = .int .i64 k ∧ t = .int .i64 (valB (l.take k))) (fun _ i => l.length - (intOf i).toNat)
  case atStart => exact ⟨0, Nat.zero_le _, rfl, rfl⟩
  case round =>
    obtain ⟨k, hk, rfl, rfl⟩ := hrel
    have hsm := valB_small (l.take k) (by rw [List.length_take]; omega)
    by_cases hkn : k < l.length
    · have HA := Lib.hid (valB_take l k hkn)
      have hb8 : ((⟨l.toArray⟩ : ByteArray)[k]'(by simpa [ByteArray.size] using hkn)).toNat < 256 := ((⟨l.toArray⟩ : ByteArray)[k]'(by simpa [ByteArray.size] using hkn)).toNat_lt
      have HE := Lib.hid (show ((⟨l.toArray⟩ : ByteArray)[k]'(by simpa [ByteArray.size] using hkn)).toNat = l[k].toNat from rfl)
      generalize h1 : valB (l.take k) = p at *
      clear h1
      go_wp2
      go_round
      case rel => exact ⟨k + 1, by omega, by go_num, by rw [HA.out, ← HE.out]; go_num⟩
      case measure => simp [intOf]; omega
    · have hkk : l.take k = l := List.take_of_length_le (by omega)
      rw [hkk]
      go_wp2
      go_ret
      exact ⟨rfl, rfl⟩

/-- the lowest i bytes of a number -/
def lowB : Nat → Nat → List UInt8
  | 0, _ => []
  | i + 1, n => Frm.u8 (n / 256 ^ i) :: lowB i n
theorem lowB3 (n : Nat) : lowB 3 n = Frm.be3 n := by simp [lowB, Frm.be3]
theorem lowB4 (n : Nat) : lowB 4 n = Frm.be4 n := by simp [lowB, Frm.be4]

theorem lowB_length (i n : Nat) : (lowB i n).length = i := by
  induction i with
  | zero => rfl
  | succ i ih => simp [lowB, ih]
theorem u8_mod (x : Nat) : UInt8.ofNat (x % 256) = Frm.u8 x := by
  unfold Frm.u8
  apply UInt8.toNat_inj.1
  simp
theorem conv1 (w : World) (v : Int) : (convert 22 9 (.slice (some ⟨w.heap.size, 0, none⟩) 1 1)).run Try.prog (w.alloc (.cells #[.int .u8 v] 5)) = .ok (.string ⟨[UInt8.ofNat v.toNat].toArray⟩) (w.alloc (.cells #[.int .u8 v] 5)) := by
  have := run_convert_bytes_arg (P := Try.prog) (w.alloc (.cells #[.int .u8 v] 5)) 22 5 Try.underlying22 Try.underlying5 w.heap.size 0 1 1 [v] rfl (fun i hi => by
    obtain rfl : i = 0 := by omega
    rw [cell_of_row _ w.heap.size _ #[.int .u8 v] 5 (0, 0) (heap_alloc_new w _)]; rfl) 9 Try.underlying9
  rw [this]
  simp [strOfNums]

set_option maxHeartbeats 400000 in
theorem num_any (w : World) (n s : Nat) (hn : n < 4294967296) (hs : s ≤ 4) :
    Calls Try.prog 19 #[.int .i64 n, .int .i64 s] w fun e w' => e = .returned (.string ⟨(lowB s n).toArray⟩) ∧ Below w.heap.size w w' := by
  have kc := conv1
  go_enter Try.func19, Try.ntmps19
  go_wp2
  go_loopw [0, 5, 6] (fun m t i wr => ∃ k : Nat, k ≤ s ∧ i = .int .i64 k ∧ m = .int .i64 (n / 256 ^ k : Nat) ∧ t = .string ⟨(lowB k n).toArray⟩ ∧ Below w.heap.size w wr) (fun _ _ i _ => s - (intOf i).toNat)
  case atStart => exact ⟨0, Nat.zero_le _, rfl, by simp, rfl, Below.refl _ _⟩
  case round =>
    obtain ⟨k, hk, rfl, rfl, rfl, hb⟩ := hrel
    have hdiv : n / 256 ^ k ≤ n := Nat.div_le_self _ _
    by_cases hkn : k < s
    · have HD := Lib.hid (show n / 256 ^ (k + 1) = n / 256 ^ k / 256 by rw [Nat.pow_succ, Nat.div_div_eq_div_mul])
      have HL := Lib.hid (show lowB (k + 1) n = Frm.u8 (n / 256 ^ k) :: lowB k n from rfl)
      generalize hx : n / 256 ^ k = x at *
      clear hx
      have hll : (lowB k n).length ≤ 4 := by rw [lowB_length]; omega
      go_wp2
      go_roundw
      case rel =>
        refine ⟨k + 1, by omega, by go_num, by rw [HD.out]; go_num, ?_, hb.alloc hb.size _⟩
        have := str_app [UInt8.ofNat (x % 256)] (lowB k n)
        rw [HL.out, ← u8_mod]
        exact congrArg Value.string this
      case measure => simp [intOf]; omega
    · obtain rfl : k = s := by omega
      go_wp2
      go_ret
      exact ⟨rfl, hb⟩
end Go.Proofs.Ytdnbejhaocpacaa
