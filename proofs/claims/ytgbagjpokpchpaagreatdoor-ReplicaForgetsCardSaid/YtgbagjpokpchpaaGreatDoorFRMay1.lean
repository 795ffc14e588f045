/-
  The document's names (layers 2, 6, 7).
  Layer 2, the document's: place, Maker, Parts, Tags.
-/
import Derived.Test.YtgbagjpokpchpaaGreatDoorFClkPlain
import Derived.Test.YtgbagjpokpchpaaGreatDoorFEvListing
namespace Go.Proofs.YtgbagjpokpchpaaGreatDoor
open Go.RowKit

set_option maxHeartbeats 1000000 in
theorem rn02 (w : World) (l : List UInt8) (hm : l.length ≤ 1000000000) :
    Calls Tryz.prog 90 #[.string ⟨l.toArray⟩] w fun e w' => e = .returned (.bool (nameB l)) ∧ w = w' := by
  by_cases h0 : l.length < 1
  · go_enter Tryz.func90, Tryz.ntmps90
    go_wp2
    go_ret
    rw [nameB_short (.inl h0)]
    exact ⟨rfl, rfl⟩
  by_cases h24 : 24 < l.length
  · go_enter Tryz.func90, Tryz.ntmps90
    go_wp2
    go_ret
    rw [nameB_short (.inr h24)]
    exact ⟨rfl, rfl⟩
  have d0 : decide ((l.length : Int) < 1) = false := decide_eq_false (by omega)
  have d1 : decide (24 < (l.length : Int)) = false := decide_eq_false (by omega)
  go_enter Tryz.func90, Tryz.ntmps90
  go_wp2
  go_loop [3] (fun i => ∃ k : Nat, i = .int .i64 k ∧ k ≤ l.length ∧ Hid (∀ j (hj : j < l.length), j < k → nameC l[j] = true)) (fun i => l.length - (intOf i).toNat)
  case atStart => exact ⟨0, rfl, Nat.zero_le _, fun j _ h => by omega⟩
  case round =>
    obtain ⟨k, rfl, hk, HK⟩ := hrel
    by_cases hkn : k < l.length
    · have g0 : (⟨l.toArray⟩ : ByteArray)[k]'(by simpa [ByteArray.size] using hkn) = l[k] := rfl
      have HC := Lib.hid (show nameC l[k] = ((decide (97 ≤ l[k].toNat) && decide (l[k].toNat ≤ 122)) || (decide (48 ≤ l[k].toNat) && decide (l[k].toNat ≤ 57)) || decide (l[k].toNat = 45)) from rfl)
      have HB := Lib.hid (fun h => nameB_bad (l := l) k hkn h)
      have HN := Lib.hid (show ∀ h : nameC l[k] = true, ∀ j (hj : j < l.length), j < k + 1 → nameC l[j] = true from fun h j hj hlt => by
        by_cases e : j = k
        · subst e; exact h
        · exact HK.out j hj (by omega))
      have hx := l[k].toNat_lt
      generalize hc : nameC l[k] = cc at *
      clear hc
      generalize hxx : l[k] = x at *
      clear hxx
      have hcc : cc = true ∨ cc = false := by cases cc <;> simp
      rcases hcc with hcc | hcc
      · have HCC : Hid (((97 ≤ x.toNat ∧ x.toNat ≤ 122) ∨ (48 ≤ x.toNat ∧ x.toNat ≤ 57)) ∨ x.toNat = 45) := by
          have := HC.out; rw [hcc] at this; unfold Hid; simpa using this.symm
        have HN' := Lib.hid (HN.out hcc)
        clear hcc HC HB HN
        have e45 : Hid ((x.toNat : Int) = 45 ↔ x.toNat = 45) := by unfold Hid; omega
        rcases HCC.out with (⟨a1, a2⟩ | ⟨a1, a2⟩) | a1
        · have b1 : decide (97 ≤ (x.toNat : Int)) = true := decide_eq_true (by omega)
          have b2 : decide ((x.toNat : Int) ≤ 122) = true := decide_eq_true (by omega)
          go_wp2
          go_round
          case rel => exact ⟨k + 1, by go_num, by omega, HN'.out⟩
          case measure => simp [intOf]; omega
        · have b1 : decide (97 ≤ (x.toNat : Int)) = false := decide_eq_false (by omega)
          have b2 : decide (48 ≤ (x.toNat : Int)) = true := decide_eq_true (by omega)
          have b3 : decide ((x.toNat : Int) ≤ 57) = true := decide_eq_true (by omega)
          go_wp2
          go_round
          case rel => exact ⟨k + 1, by go_num, by omega, HN'.out⟩
          case measure => simp [intOf]; omega
        · have b1 : decide (97 ≤ (x.toNat : Int)) = false := decide_eq_false (by omega)
          have b2 : decide (48 ≤ (x.toNat : Int)) = false := decide_eq_false (by omega)
          have b3 : ((x.toNat : Int) == 45) = true := by simp; omega
          have A1 := Lib.hid a1; clear a1
          go_wp2
          go_round
          case rel => exact ⟨k + 1, by go_num, by omega, HN'.out⟩
          case measure => simp [intOf]; omega
      · have HCC : Hid (¬ (((97 ≤ x.toNat ∧ x.toNat ≤ 122) ∨ (48 ≤ x.toNat ∧ x.toNat ≤ 57)) ∨ x.toNat = 45)) := by
          have := HC.out; rw [hcc] at this; unfold Hid; intro hh
          have h2 : (decide (97 ≤ x.toNat) && decide (x.toNat ≤ 122) || decide (48 ≤ x.toNat) && decide (x.toNat ≤ 57) || decide (x.toNat = 45)) = true := by simpa using hh
          rw [h2] at this; cases this
        have hB := HB.out hcc
        have HB' := Lib.hid hB
        clear hcc HC HN HB hB
        have b5 : ((x.toNat : Int) == 45) = false := by have := HCC.out; simp; omega
        have hcases : (123 ≤ x.toNat) ∨ (97 > x.toNat ∧ 58 ≤ x.toNat) ∨ (x.toNat < 48) := by have := HCC.out; omega
        rcases hcases with a1 | ⟨a1, a2⟩ | a1
        · have b1 : decide (97 ≤ (x.toNat : Int)) = true := decide_eq_true (by omega)
          have b2 : decide ((x.toNat : Int) ≤ 122) = false := decide_eq_false (by omega)
          have b3 : decide (48 ≤ (x.toNat : Int)) = true := decide_eq_true (by omega)
          have b4 : decide ((x.toNat : Int) ≤ 57) = false := decide_eq_false (by omega)
          go_wp2
          go_ret
          rw [HB'.out]
          exact ⟨rfl, rfl⟩
        · have b1 : decide (97 ≤ (x.toNat : Int)) = false := decide_eq_false (by omega)
          have b3 : decide (48 ≤ (x.toNat : Int)) = true := decide_eq_true (by omega)
          have b4 : decide ((x.toNat : Int) ≤ 57) = false := decide_eq_false (by omega)
          go_wp2
          go_ret
          rw [HB'.out]
          exact ⟨rfl, rfl⟩
        · have b1 : decide (97 ≤ (x.toNat : Int)) = false := decide_eq_false (by omega)
          have b3 : decide (48 ≤ (x.toNat : Int)) = false := decide_eq_false (by omega)
          go_wp2
          go_ret
          rw [HB'.out]
          exact ⟨rfl, rfl⟩
    · have hB : nameB l = true := nameB_good (by omega) (by omega) (fun j hj => HK.out j hj (by omega))
      have HB' := Lib.hid hB; clear hB
      go_wp2
      go_ret
      rw [HB'.out]
      exact ⟨rfl, rfl⟩

end Go.Proofs.YtgbagjpokpchpaaGreatDoor
namespace Go.Proofs.YtgbagjpokpchpaaGreatDoor
open Go.RowKit Go.Maps Go.Sort

theorem idx_hit {c : UInt8} : ∀ {s : List UInt8} (k : Nat) (hk : k < s.length), s[k] = c → (∀ j (hj : j < s.length), j < k → s[j] ≠ c) → Lib.index s [c] = k
  | [], k, hk, _, _ => by simp at hk
  | b :: l, 0, _, h, _ => by
    have hb : b = c := h
    subst hb
    rw [Lib.index]; simp [List.isPrefixOf]
  | b :: l, k + 1, hk, h, hn => by
    have hb : b ≠ c := hn 0 (by simp) (by omega)
    have hp : ([c] : List UInt8).isPrefixOf (b :: l) = false := by simp [List.isPrefixOf, Ne.symm hb]
    have ih := idx_hit (s := l) k (by simpa using hk) (by simpa using h) (fun j hj hjk => hn (j + 1) (by simpa using hj) (by omega))
    rw [Lib.index, hp, ih]
    have : ((k : Int) == -1) = false := by rw [beq_eq_false_iff_ne]; omega
    simp [this]
theorem idx_miss {c : UInt8} : ∀ {s : List UInt8}, (∀ j (hj : j < s.length), s[j] ≠ c) → Lib.index s [c] = -1
  | [], _ => by simp [Lib.index]
  | b :: l, hn => by
    have hb : b ≠ c := hn 0 (by simp)
    have hp : ([c] : List UInt8).isPrefixOf (b :: l) = false := by simp [List.isPrefixOf, Ne.symm hb]
    have ih := idx_miss (s := l) (fun j hj => hn (j + 1) (by simpa using hj))
    rw [Lib.index, hp, ih]; rfl
/-- a text, parted at a sign -/
def partsL (c : UInt8) : List UInt8 → List (List UInt8)
  | [] => [[]]
  | x :: r => if x = c then [] :: partsL c r else (x :: (partsL c r).headD []) :: (partsL c r).tail
theorem partsL_miss {c : UInt8} : ∀ {a : List UInt8}, c ∉ a → partsL c a = [a]
  | [], _ => rfl
  | x :: a, h => by
    simp only [List.mem_cons, not_or] at h
    rw [partsL, if_neg (Ne.symm h.1), partsL_miss h.2]; rfl
theorem partsL_hit {c : UInt8} (b : List UInt8) : ∀ {a : List UInt8}, c ∉ a → partsL c (a ++ c :: b) = a :: partsL c b
  | [], _ => by rw [List.nil_append, partsL, if_pos rfl]
  | x :: a, h => by
    simp only [List.mem_cons, not_or] at h
    rw [List.cons_append, partsL, if_neg (Ne.symm h.1), partsL_hit b h.2]; rfl
theorem partsL_split (c : UInt8) : ∀ s : List UInt8, Lib.splitK [c] 0 (Lib.count s [c]) s = partsL c s
  | [] => by rw [Lib.count_miss (by simp [Lib.index])]; rfl
  | b :: l => by
    have ih := partsL_split c l
    by_cases h : b = c
    · subst h
      have hix : Lib.index (b :: l) [b] = 0 := by rw [Lib.index]; simp [List.isPrefixOf]
      rw [Lib.count_cons_eq, Nat.add_comm, Lib.splitK, hix, partsL, if_pos rfl, ← ih]
      rfl
    · have hp : ([c] : List UInt8).isPrefixOf (b :: l) = false := by simp [List.isPrefixOf, Ne.symm h]
      have hix : Lib.index (b :: l) [c] = if Lib.index l [c] == -1 then -1 else Lib.index l [c] + 1 := by rw [Lib.index, hp]; simp
      rw [Lib.count_cons_ne b c l h, partsL, if_neg h, ← ih]
      by_cases hm : Lib.index l [c] = -1
      · rw [Lib.count_miss hm]; rfl
      · have hge := Lib.index_ge l [c]
        obtain ⟨j, hj⟩ : ∃ j : Nat, Lib.index l [c] = j := ⟨(Lib.index l [c]).toNat, by omega⟩
        have hne : (Lib.index l [c] == -1) = false := by rw [beq_eq_false_iff_ne]; exact hm
        have hne2 : (((j : Int) + 1) == -1) = false := by rw [beq_eq_false_iff_ne]; omega
        have hne3 : ((j : Int) == -1) = false := by rw [beq_eq_false_iff_ne]; omega
        rw [Lib.count_hit (by simp) hj, Nat.add_comm, Lib.splitK, Lib.splitK, hix, hne, hj]
        simp only [Bool.false_eq_true, if_false, hne2, List.headD_cons, List.tail_cons, List.length_singleton, Nat.add_zero]
        rw [show ((j : Int) + 1).toNat = j + 1 by omega, show ((j : Int)).toNat = j by omega]
        rfl
theorem tagsL_eq (s : List UInt8) : tagsL s = if (restL s).isEmpty then [] else partsL 44 (restL s) := by
  unfold tagsL
  split
  · rfl
  · rw [Lib.splitB_data, ← partsL_split]; try rfl

set_option maxHeartbeats 1000000 in
theorem rplace_any (w : World) (l : List UInt8) (hm : l.length ≤ 1000000000) :
    Calls Tryz.prog 136 #[.string ⟨l.toArray⟩] w fun e w' => e = .returned (.int .i64 (Lib.index l [59])) ∧ w = w' := by
  go_enter Tryz.func136, Tryz.ntmps136
  go_wp2
  go_loop [3] (fun i => ∃ k : Nat, i = .int .i64 k ∧ k ≤ l.length ∧ Hid (∀ j (hj : j < l.length), j < k → l[j] ≠ 59)) (fun i => l.length - (intOf i).toNat)
  case atStart => exact ⟨0, rfl, Nat.zero_le _, fun j _ h => by omega⟩
  case round =>
    obtain ⟨k, rfl, hk, HK⟩ := hrel
    by_cases hkn : k < l.length
    · have g0 : (⟨l.toArray⟩ : ByteArray)[k]'(by simpa [ByteArray.size] using hkn) = l[k] := rfl
      by_cases h59 : l[k] = 59
      · have HI := Lib.hid (idx_hit k hkn h59 HK.out)
        have b1 : ((l[k].toNat : Int) == 59) = true := by rw [h59]; rfl
        clear h59
        generalize l[k] = x at *
        go_wp2
        go_ret
        exact ⟨ret_int HI.out.symm, rfl⟩
      · have HN := Lib.hid (show ∀ j (hj : j < l.length), j < k + 1 → l[j] ≠ 59 from fun j hj hlt => by
          by_cases e : j = k
          · subst e; exact h59
          · exact HK.out j hj (by omega))
        have b1 : ((l[k].toNat : Int) == 59) = false := by
          rw [beq_eq_false_iff_ne]
          intro e
          exact h59 (UInt8.toNat_inj.1 (by have : l[k].toNat = 59 := by omega
                                           rw [this]; rfl))
        clear h59
        generalize l[k] = x at *
        go_wp2
        go_round
        case rel => exact ⟨k + 1, by go_num, by omega, HN.out⟩
        case measure => simp [intOf]; omega
    · have HI := Lib.hid (idx_miss (c := 59) (s := l) (fun j hj => HK.out j hj (by omega)))
      go_wp2
      go_ret
      exact ⟨ret_int HI.out.symm, rfl⟩

theorem rmaker_any (w : World) (l : List UInt8) (hm : l.length ≤ 1000000000) :
    Calls Tryz.prog 137 #[.string ⟨l.toArray⟩] w fun e w' => e = .returned (.string ⟨(Lib.cut l [59]).1.toArray⟩) ∧ w = w' := by
  have HC := Lib.hid (show Lib.cut l [59] = if 0 ≤ Lib.index l [59] then (l.take (Lib.index l [59]).toNat, l.drop ((Lib.index l [59]).toNat + 1), true) else (l, [], false) from rfl)
  have hroom := Lib.index_room l [59]
  go_enter Tryz.func137, Tryz.ntmps137
  go_wp2_with fail
  refine (rplace_any w l hm).mono ?_
  rintro r w1 ⟨rfl, rfl⟩
  by_cases h0 : 0 ≤ Lib.index l [59]
  · obtain ⟨k, hk⟩ : ∃ k : Nat, Lib.index l [59] = k := ⟨(Lib.index l [59]).toNat, by omega⟩
    have hkl := hroom h0
    have HC' := Lib.hid (show (Lib.cut l [59]).1 = l.take k by rw [HC.out, if_pos h0, hk]; rfl)
    rw [hk] at *
    simp only [List.length_singleton] at hkl
    have hkl' : k < l.length := by omega
    have hsl : ∀ wx, (Instr.slice 9 (.string ⟨l.toArray⟩) none (some (.int .i64 (k : Int))) none).run Tryz.prog wx = .ok (.string ⟨(l.take k).toArray⟩) wx := fun wx => str_to _ Tryz.underlying9 l k k rfl (by omega) wx
    clear hk hroom HC hkl h0
    go_wp2
    go_ret
    rw [HC'.out]
    first | exact ⟨rfl, rfl⟩ | (rw [str_cut]; simp)
  · have HC' := Lib.hid (show (Lib.cut l [59]).1 = l by rw [HC.out, if_neg h0])
    clear hroom HC
    go_wp2
    go_ret
    rw [HC'.out]
    exact ⟨rfl, rfl⟩
end Go.Proofs.YtgbagjpokpchpaaGreatDoor
