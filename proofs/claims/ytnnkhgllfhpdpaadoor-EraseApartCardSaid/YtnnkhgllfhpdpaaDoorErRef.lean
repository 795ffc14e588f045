/-
  Layer 31: the document's Name, Own, Forgets (ciceroneref31, ciceroneref07).
-/
import Derived.Test.YtnnkhgllfhpdpaaDoorEvForget
namespace Go.Proofs.YtnnkhgllfhpdpaaDoor
open Go.RowKit

set_option maxHeartbeats 1000000 in
theorem rname7 (w : World) (l : List UInt8) (hm : l.length ≤ 1000000000) :
    Calls Tryd.prog 68 #[.string ⟨l.toArray⟩] w fun e w' => e = .returned (.bool (nameB l)) ∧ w = w' := by
  go_enter Tryd.func68, Tryd.ntmps68
  go_wp2
  go_loop [3] (fun i => ∃ k : Nat, i = .int .i64 k ∧ k ≤ l.length ∧ Hid (∀ j (hj : j < l.length), j < k → nameC l[j] = true)) (fun i => l.length - (intOf i).toNat)
  case atStart => exact ⟨0, rfl, Nat.zero_le _, fun j _ h => by omega⟩
  case round =>
    obtain ⟨k, rfl, hk, HK⟩ := hrel
    by_cases hkn : k < l.length
    · have g0 : (⟨l.toArray⟩ : ByteArray)[k]'(by simpa [ByteArray.size] using hkn) = l[k] := rfl
      have HC := Lib.hid (show nameC l[k] = ((decide (97 ≤ l[k].toNat) && decide (l[k].toNat ≤ 122)) || (decide (48 ≤ l[k].toNat) && decide (l[k].toNat ≤ 57)) || decide (l[k].toNat = 45)) from rfl)
      have HB := Lib.hid (fun h => nameB_bad (l := l) k hkn h)
      have HN := Lib.hid (show ∀ h : nameC l[k] = true, ∀ j (hj : j < l.length), j < k + 1 → nameC l[j] = true from fun h j hj hlt => by
        by_cases e : j = k
        · subst e; exact h
        · exact HK.out j hj (by omega))
      have hx := l[k].toNat_lt
      generalize hc : nameC l[k] = cc at *
      clear hc
      generalize hxx : l[k] = x at *
      clear hxx
      have hcc : cc = true ∨ cc = false := by cases cc <;> simp
      rcases hcc with hcc | hcc
      · have HCC : Hid (((97 ≤ x.toNat ∧ x.toNat ≤ 122) ∨ (48 ≤ x.toNat ∧ x.toNat ≤ 57)) ∨ x.toNat = 45) := by
          have := HC.out; rw [hcc] at this; unfold Hid; simpa using this.symm
        have HN' := Lib.hid (HN.out hcc)
        clear hcc HC HB HN
        rcases HCC.out with (⟨a1, a2⟩ | ⟨a1, a2⟩) | a1
        · have b1 : decide ((x.toNat : Int) < 97) = false := decide_eq_false (by omega)
          have b2 : decide (122 < (x.toNat : Int)) = false := decide_eq_false (by omega)
          go_wp2
          go_round
          case rel => exact ⟨k + 1, by go_num, by omega, HN'.out⟩
          case measure => simp [intOf]; omega
        · have b1 : decide ((x.toNat : Int) < 97) = true := decide_eq_true (by omega)
          have b2 : decide ((x.toNat : Int) < 48) = false := decide_eq_false (by omega)
          have b3 : decide (57 < (x.toNat : Int)) = false := decide_eq_false (by omega)
          go_wp2
          go_round
          case rel => exact ⟨k + 1, by go_num, by omega, HN'.out⟩
          case measure => simp [intOf]; omega
        · have b1 : decide ((x.toNat : Int) < 97) = true := decide_eq_true (by omega)
          have b2 : decide ((x.toNat : Int) < 48) = true := decide_eq_true (by omega)
          have b3 : ((x.toNat : Int) != 45) = false := by simp; omega
          have A1 := Lib.hid a1; clear a1
          go_wp2
          go_round
          case rel => exact ⟨k + 1, by go_num, by omega, HN'.out⟩
          case measure => simp [intOf]; omega
      · have HCC : Hid (¬ (((97 ≤ x.toNat ∧ x.toNat ≤ 122) ∨ (48 ≤ x.toNat ∧ x.toNat ≤ 57)) ∨ x.toNat = 45)) := by
          have := HC.out; rw [hcc] at this; unfold Hid; intro hh
          have h2 : (decide (97 ≤ x.toNat) && decide (x.toNat ≤ 122) || decide (48 ≤ x.toNat) && decide (x.toNat ≤ 57) || decide (x.toNat = 45)) = true := by simpa using hh
          rw [h2] at this; cases this
        have hB := HB.out hcc
        have HB' := Lib.hid hB
        clear hcc HC HN HB hB
        have b5 : ((x.toNat : Int) != 45) = true := by have := HCC.out; simp; omega
        have hcases : (123 ≤ x.toNat) ∨ (97 > x.toNat ∧ 58 ≤ x.toNat) ∨ (x.toNat < 48) := by have := HCC.out; omega
        rcases hcases with a1 | ⟨a1, a2⟩ | a1
        · have b1 : decide ((x.toNat : Int) < 97) = false := decide_eq_false (by omega)
          have b2 : decide (122 < (x.toNat : Int)) = true := decide_eq_true (by omega)
          have b3 : decide ((x.toNat : Int) < 48) = false := decide_eq_false (by omega)
          have b4 : decide (57 < (x.toNat : Int)) = true := decide_eq_true (by omega)
          go_wp2
          go_ret
          rw [HB'.out]
          exact ⟨rfl, rfl⟩
        · have b1 : decide ((x.toNat : Int) < 97) = true := decide_eq_true (by omega)
          have b3 : decide ((x.toNat : Int) < 48) = false := decide_eq_false (by omega)
          have b4 : decide (57 < (x.toNat : Int)) = true := decide_eq_true (by omega)
          go_wp2
          go_ret
          rw [HB'.out]
          exact ⟨rfl, rfl⟩
        · have b1 : decide ((x.toNat : Int) < 97) = true := decide_eq_true (by omega)
          have b3 : decide ((x.toNat : Int) < 48) = true := decide_eq_true (by omega)
          go_wp2
          go_ret
          rw [HB'.out]
          exact ⟨rfl, rfl⟩
    · by_cases h1 : l.length < 1
      · have hB := nameB_short (l := l) (.inl h1)
        have HB' := Lib.hid hB; clear hB
        have d1 : decide (1 ≤ (l.length : Int)) = false := decide_eq_false (by omega)
        go_wp2
        go_ret
        rw [HB'.out]
        exact ⟨rfl, rfl⟩
      by_cases h24 : 24 < l.length
      · have hB := nameB_short (l := l) (.inr h24)
        have HB' := Lib.hid hB; clear hB
        have d1 : decide (1 ≤ (l.length : Int)) = true := decide_eq_true (by omega)
        have d2 : decide ((l.length : Int) ≤ 24) = false := decide_eq_false (by omega)
        go_wp2
        go_ret
        rw [HB'.out]
        exact ⟨rfl, rfl⟩
      have hB : nameB l = true := nameB_good (by omega) (by omega) (fun j hj => HK.out j hj (by omega))
      have HB' := Lib.hid hB; clear hB
      have d1 : decide (1 ≤ (l.length : Int)) = true := decide_eq_true (by omega)
      have d2 : decide ((l.length : Int) ≤ 24) = true := decide_eq_true (by omega)
      go_wp2
      go_ret
      rw [HB'.out]
      exact ⟨rfl, rfl⟩

theorem rname (w : World) (l : List UInt8) (hm : l.length ≤ 1000000000) :
    Calls Tryd.prog 50 #[.string ⟨l.toArray⟩] w fun e w' => e = .returned (.bool (nameB l)) ∧ w = w' := by
  go_enter Tryd.func50, Tryd.ntmps50
  go_wp2_with fail
  refine (rname7 _ l hm).mono ?_
  rintro r w1 ⟨rfl, rfl⟩
  go_wp2
  go_ret
  exact ⟨rfl, rfl⟩

theorem rown_any (w : World) (p : List UInt8) (e : Ev) (hp : p.length ≤ 1000000000) :
    Calls Tryd.prog 27 #[e.agg, .string ⟨p.toArray⟩] w (Says (ownB p e) w) := by
  unfold Ev.agg
  have HO := Lib.hid (show ownB p e = (nameB p && (e.per == p) && (e.kind != 14)) from rfl)
  go_enter Tryd.func27, Tryd.ntmps27
  go_wp2_with fail
  refine (rname _ p hp).mono ?_
  rintro r w1 ⟨rfl, rfl⟩
  have hb : Below w.heap.size w (w.alloc (evObj e)) := (Below.refl _ _).alloc (Nat.le_refl _) _
  cases h1 : nameB p
  · have HN := Lib.hid h1; clear h1
    go_wp2
    go_ret
    exact ⟨ret_bool (by rw [HO.out, HN.out]; rfl), hb⟩
  · have HN := Lib.hid h1; clear h1
    cases h2 : (e.per == p)
    · have HP := Lib.hid h2
      go_wp2
      go_ret
      exact ⟨ret_bool (by rw [HO.out, HN.out, HP.out]; rfl), hb⟩
    · have HP := Lib.hid h2
      go_wp2
      go_ret
      exact ⟨ret_bool (by rw [HO.out, HN.out, HP.out]; rfl), hb⟩

set_option maxHeartbeats 2000000 in
theorem rforgets_any (w : World) (e : Ev) (hs : e.small) :
    Calls Tryd.prog 47 #[e.agg] w (Says (forgetB e) w) := by
  obtain ⟨s1, s2, s3, s4⟩ := hs
  unfold Ev.agg
  have HO := Lib.hid (show forgetB e = ((e.kind == 14) && (nameB e.src && decide (1 ≤ e.num) && decide (e.num ≤ 1099511627776) && decide (0 ≤ e.at_) && decide (e.at_ ≤ 1099511627776)) && nameB e.per && e.item.isEmpty && (e.val == 0) && e.text.isEmpty) from rfl)
  have hb : Below w.heap.size w (w.alloc (evObj e)) := (Below.refl _ _).alloc (Nat.le_refl _) _
  cases h0 : (e.kind == 14)
  · go_enter Tryd.func47, Tryd.ntmps47
    go_wp2
    go_ret
    exact ⟨by rw [HO.out, h0]; rfl, hb⟩
  go_enter Tryd.func47, Tryd.ntmps47
  go_wp2_with fail
  refine (rname _ e.src s1).mono ?_
  rintro r w1 ⟨rfl, rfl⟩
  rw [h0] at HO
  generalize nameB e.src = ns at *
  cases ns
  · go_wp2
    go_ret
    exact ⟨by rw [HO.out]; rfl, hb⟩
  cases d1 : decide (1 ≤ e.num)
  · go_wp2
    go_ret
    exact ⟨by rw [HO.out, d1]; rfl, hb⟩
  cases d2 : decide (e.num ≤ 1099511627776)
  · go_wp2
    go_ret
    exact ⟨by rw [HO.out, d1, d2]; rfl, hb⟩
  cases d3 : decide (0 ≤ e.at_)
  · go_wp2
    go_ret
    exact ⟨by rw [HO.out, d1, d2, d3]; rfl, hb⟩
  cases d4 : decide (e.at_ ≤ 1099511627776)
  · go_wp2
    go_ret
    exact ⟨by rw [HO.out, d1, d2, d3, d4]; rfl, hb⟩
  rw [d1, d2, d3, d4] at HO
  go_wp2_with fail
  refine (rname _ e.per s2).mono ?_
  rintro r w1 ⟨rfl, rfl⟩
  generalize nameB e.per = np at *
  cases np
  · go_wp2
    go_ret
    exact ⟨by rw [HO.out]; rfl, hb⟩
  cases hi : e.item.isEmpty
  · go_wp2
    go_ret
    exact ⟨by rw [HO.out, hi]; rfl, hb⟩
  cases hv : (e.val == 0)
  · go_wp2
    go_ret
    exact ⟨by rw [HO.out, hi, hv]; rfl, hb⟩
  go_wp2
  go_ret
  exact ⟨by rw [HO.out, hi, hv]; rfl, hb⟩
end Go.Proofs.YtnnkhgllfhpdpaaDoor
