/-
  Layer 3: the document's value (ciceroneref03).
-/
import Derived.Test.YtdjoaboalknlkaaGreatDoorLSnLives
namespace Go.Proofs.YtdjoaboalknlkaaGreatDoor
open Go.RowKit

set_option maxHeartbeats 400000 in
theorem rvalue_any (w : World) (l : List UInt8) (hn : l.length ≤ 4) :
    Calls Tryz.prog 38 #[.string ⟨l.toArray⟩] w fun e w' => e = .returned (.int .i64 (valB l)) ∧ w = w' := by
  go_enter Tryz.func38, Tryz.ntmps38
  go_wp2
  go_loop [3, 4] (fun t i => ∃ k : Nat, k ≤ l.length ∧ i = .int .i64 k ∧ t = .int .i64 (valB (l.take k))) (fun _ i => l.length - (intOf i).toNat)
  case atStart => exact ⟨0, Nat.zero_le _, rfl, rfl⟩
  case round =>
    obtain ⟨k, hk, rfl, rfl⟩ := hrel
    have hsm := valB_small (l.take k) (by rw [List.length_take]; omega)
    by_cases hkn : k < l.length
    · have HA := Lib.hid (valB_take l k hkn)
      have hb8 : ((⟨l.toArray⟩ : ByteArray)[k]'(by simpa [ByteArray.size] using hkn)).toNat < 256 := ((⟨l.toArray⟩ : ByteArray)[k]'(by simpa [ByteArray.size] using hkn)).toNat_lt
      have HE := Lib.hid (show ((⟨l.toArray⟩ : ByteArray)[k]'(by simpa [ByteArray.size] using hkn)).toNat = l[k].toNat from rfl)
      generalize h1 : valB (l.take k) = p at *
      clear h1
      go_wp2
      go_round
      case rel => exact ⟨k + 1, by omega, by go_num, by rw [HA.out, ← HE.out]; go_num⟩
      case measure => simp [intOf]; omega
    · have hkk : l.take k = l := List.take_of_length_le (by omega)
      rw [hkk]
      go_wp2
      go_ret
      exact ⟨rfl, rfl⟩
end Go.Proofs.YtdjoaboalknlkaaGreatDoor
