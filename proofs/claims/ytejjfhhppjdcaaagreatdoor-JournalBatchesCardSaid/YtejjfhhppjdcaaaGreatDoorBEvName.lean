/-
  Layer 2: names.
-/
import Derived.Test.YtejjfhhppjdcaaaGreatDoorBEv
namespace Go.Proofs.YtejjfhhppjdcaaaGreatDoor
open Go.RowKit

def nameC (c : UInt8) : Bool := (decide (97 ≤ c.toNat) && decide (c.toNat ≤ 122)) || (decide (48 ≤ c.toNat) && decide (c.toNat ≤ 57)) || decide (c.toNat = 45)
def nameB (l : List UInt8) : Bool := decide (1 ≤ l.length) && decide (l.length ≤ 24) && l.all nameC

theorem nameB_short {l : List UInt8} (h : l.length < 1 ∨ 24 < l.length) : nameB l = false := by
  unfold nameB; rcases h with h | h <;> simp <;> omega
theorem nameB_bad {l : List UInt8} (k : Nat) (hk : k < l.length) (h : nameC l[k] = false) : nameB l = false := by
  unfold nameB
  have : l.all nameC = false := by
    rw [List.all_eq_false]
    exact ⟨l[k], List.getElem_mem hk, by simp [h]⟩
  simp [this]
theorem nameB_good {l : List UInt8} (h1 : 1 ≤ l.length) (h2 : l.length ≤ 24) (h : ∀ j (hj : j < l.length), nameC l[j] = true) : nameB l = true := by
  unfold nameB
  have : l.all nameC = true := by
    rw [List.all_eq_true]
    intro x hx
    obtain ⟨j, hj, rfl⟩ := List.getElem_of_mem hx
    exact h j hj
  simp [this, h1, h2]

set_option maxHeartbeats 1000000 in
theorem name_any (w : World) (l : List UInt8) (hm : l.length ≤ 1000000000) :
    Calls Tryz.prog 61 #[.string ⟨l.toArray⟩] w fun e w' => e = .returned (.bool (nameB l)) ∧ w = w' := by
  by_cases h0 : l.length < 1
  · go_enter Tryz.func61, Tryz.ntmps61
    go_wp2
    go_ret
    rw [nameB_short (.inl h0)]
    exact ⟨rfl, rfl⟩
  by_cases h24 : 24 < l.length
  · go_enter Tryz.func61, Tryz.ntmps61
    go_wp2
    go_ret
    rw [nameB_short (.inr h24)]
    exact ⟨rfl, rfl⟩
  have d0 : decide ((l.length : Int) < 1) = false := decide_eq_false (by omega)
  have d1 : decide (24 < (l.length : Int)) = false := decide_eq_false (by omega)
  go_enter Tryz.func61, Tryz.ntmps61
  go_wp2
  go_loop [15] (fun i => ∃ k : Nat, i = .int .i64 k ∧ k ≤ l.length ∧ Hid (∀ j (hj : j < l.length), j < k → nameC l[j] = true)) (fun i => l.length - (intOf i).toNat)
  case atStart => exact ⟨0, rfl, Nat.zero_le _, fun j _ h => by omega⟩
  case round =>
    obtain ⟨k, rfl, hk, HK⟩ := hrel
    by_cases hkn : k < l.length
    · have g0 : (⟨l.toArray⟩ : ByteArray)[k]'(by simpa [ByteArray.size] using hkn) = l[k] := rfl
      have HC := Lib.hid (show nameC l[k] = ((decide (97 ≤ l[k].toNat) && decide (l[k].toNat ≤ 122)) || (decide (48 ≤ l[k].toNat) && decide (l[k].toNat ≤ 57)) || decide (l[k].toNat = 45)) from rfl)
      have HB := Lib.hid (fun h => nameB_bad (l := l) k hkn h)
      have HN := Lib.hid (show ∀ h : nameC l[k] = true, ∀ j (hj : j < l.length), j < k + 1 → nameC l[j] = true from fun h j hj hlt => by
        by_cases e : j = k
        · subst e; exact h
        · exact HK.out j hj (by omega))
      have hx := l[k].toNat_lt
      generalize hc : nameC l[k] = cc at *
      clear hc
      generalize hxx : l[k] = x at *
      clear hxx
      have hcc : cc = true ∨ cc = false := by cases cc <;> simp
      rcases hcc with hcc | hcc
      · have HCC : Hid (((97 ≤ x.toNat ∧ x.toNat ≤ 122) ∨ (48 ≤ x.toNat ∧ x.toNat ≤ 57)) ∨ x.toNat = 45) := by
          have := HC.out; rw [hcc] at this; unfold Hid; simpa using this.symm
        have HN' := Lib.hid (HN.out hcc)
        clear hcc HC HB HN
        have e45 : Hid ((x.toNat : Int) = 45 ↔ x.toNat = 45) := by unfold Hid; omega
        rcases HCC.out with (⟨a1, a2⟩ | ⟨a1, a2⟩) | a1
        · have b1 : decide (97 ≤ (x.toNat : Int)) = true := decide_eq_true (by omega)
          have b2 : decide ((x.toNat : Int) ≤ 122) = true := decide_eq_true (by omega)
          go_wp2
          go_round
          case rel => exact ⟨k + 1, by go_num, by omega, HN'.out⟩
          case measure => simp [intOf]; omega
        · have b1 : decide (97 ≤ (x.toNat : Int)) = false := decide_eq_false (by omega)
          have b2 : decide (48 ≤ (x.toNat : Int)) = true := decide_eq_true (by omega)
          have b3 : decide ((x.toNat : Int) ≤ 57) = true := decide_eq_true (by omega)
          go_wp2
          go_round
          case rel => exact ⟨k + 1, by go_num, by omega, HN'.out⟩
          case measure => simp [intOf]; omega
        · have b1 : decide (97 ≤ (x.toNat : Int)) = false := decide_eq_false (by omega)
          have b2 : decide (48 ≤ (x.toNat : Int)) = false := decide_eq_false (by omega)
          have b3 : ((x.toNat : Int) == 45) = true := by simp; omega
          have A1 := Lib.hid a1; clear a1
          go_wp2
          go_round
          case rel => exact ⟨k + 1, by go_num, by omega, HN'.out⟩
          case measure => simp [intOf]; omega
      · have HCC : Hid (¬ (((97 ≤ x.toNat ∧ x.toNat ≤ 122) ∨ (48 ≤ x.toNat ∧ x.toNat ≤ 57)) ∨ x.toNat = 45)) := by
          have := HC.out; rw [hcc] at this; unfold Hid; intro hh
          have h2 : (decide (97 ≤ x.toNat) && decide (x.toNat ≤ 122) || decide (48 ≤ x.toNat) && decide (x.toNat ≤ 57) || decide (x.toNat = 45)) = true := by simpa using hh
          rw [h2] at this; cases this
        have hB := HB.out hcc
        have HB' := Lib.hid hB
        clear hcc HC HN HB hB
        have b5 : ((x.toNat : Int) == 45) = false := by have := HCC.out; simp; omega
        have hcases : (123 ≤ x.toNat) ∨ (97 > x.toNat ∧ 58 ≤ x.toNat) ∨ (x.toNat < 48) := by have := HCC.out; omega
        rcases hcases with a1 | ⟨a1, a2⟩ | a1
        · have b1 : decide (97 ≤ (x.toNat : Int)) = true := decide_eq_true (by omega)
          have b2 : decide ((x.toNat : Int) ≤ 122) = false := decide_eq_false (by omega)
          have b3 : decide (48 ≤ (x.toNat : Int)) = true := decide_eq_true (by omega)
          have b4 : decide ((x.toNat : Int) ≤ 57) = false := decide_eq_false (by omega)
          go_wp2
          go_ret
          rw [HB'.out]
          exact ⟨rfl, rfl⟩
        · have b1 : decide (97 ≤ (x.toNat : Int)) = false := decide_eq_false (by omega)
          have b3 : decide (48 ≤ (x.toNat : Int)) = true := decide_eq_true (by omega)
          have b4 : decide ((x.toNat : Int) ≤ 57) = false := decide_eq_false (by omega)
          go_wp2
          go_ret
          rw [HB'.out]
          exact ⟨rfl, rfl⟩
        · have b1 : decide (97 ≤ (x.toNat : Int)) = false := decide_eq_false (by omega)
          have b3 : decide (48 ≤ (x.toNat : Int)) = false := decide_eq_false (by omega)
          go_wp2
          go_ret
          rw [HB'.out]
          exact ⟨rfl, rfl⟩
    · have hB : nameB l = true := nameB_good (by omega) (by omega) (fun j hj => HK.out j hj (by omega))
      have HB' := Lib.hid hB; clear hB
      go_wp2
      go_ret
      rw [HB'.out]
      exact ⟨rfl, rfl⟩
end Go.Proofs.YtejjfhhppjdcaaaGreatDoor
