/-
  Layer 2: names.
  Layer 6, plain: a clock.
-/
import Derived.Test.YtgbagjpokpchpaaGreatDoorFEv
import Derived.Test.YtgbagjpokpchpaaGreatDoorFMapS
namespace Go.Proofs.YtgbagjpokpchpaaGreatDoor
open Go.RowKit

def nameC (c : UInt8) : Bool := (decide (97 ≤ c.toNat) && decide (c.toNat ≤ 122)) || (decide (48 ≤ c.toNat) && decide (c.toNat ≤ 57)) || decide (c.toNat = 45)
def nameB (l : List UInt8) : Bool := decide (1 ≤ l.length) && decide (l.length ≤ 24) && l.all nameC

theorem nameB_short {l : List UInt8} (h : l.length < 1 ∨ 24 < l.length) : nameB l = false := by
  unfold nameB; rcases h with h | h <;> simp <;> omega
theorem nameB_bad {l : List UInt8} (k : Nat) (hk : k < l.length) (h : nameC l[k] = false) : nameB l = false := by
  unfold nameB
  have : l.all nameC = false := by
    rw [List.all_eq_false]
    exact ⟨l[k], List.getElem_mem hk, by simp [h]⟩
  simp [this]
theorem nameB_good {l : List UInt8} (h1 : 1 ≤ l.length) (h2 : l.length ≤ 24) (h : ∀ j (hj : j < l.length), nameC l[j] = true) : nameB l = true := by
  unfold nameB
  have : l.all nameC = true := by
    rw [List.all_eq_true]
    intro x hx
    obtain ⟨j, hj, rfl⟩ := List.getElem_of_mem hx
    exact h j hj
  simp [this, h1, h2]

set_option maxHeartbeats 1000000 in
theorem name_any (w : World) (l : List UInt8) (hm : l.length ≤ 1000000000) :
    Calls Tryz.prog 52 #[.string ⟨l.toArray⟩] w fun e w' => e = .returned (.bool (nameB l)) ∧ w = w' := by
  by_cases h0 : l.length < 1
  · go_enter Tryz.func52, Tryz.ntmps52
    go_wp2
    go_ret
    rw [nameB_short (.inl h0)]
    exact ⟨rfl, rfl⟩
  by_cases h24 : 24 < l.length
  · go_enter Tryz.func52, Tryz.ntmps52
    go_wp2
    go_ret
    rw [nameB_short (.inr h24)]
    exact ⟨rfl, rfl⟩
  have d0 : decide ((l.length : Int) < 1) = false := decide_eq_false (by omega)
  have d1 : decide (24 < (l.length : Int)) = false := decide_eq_false (by omega)
  go_enter Tryz.func52, Tryz.ntmps52
  go_wp2
  go_loop [15] (fun i => ∃ k : Nat, i = .int .i64 k ∧ k ≤ l.length ∧ Hid (∀ j (hj : j < l.length), j < k → nameC l[j] = true)) (fun i => l.length - (intOf i).toNat)
  case atStart => exact ⟨0, rfl, Nat.zero_le _, fun j _ h => by omega⟩
  case round =>
    obtain ⟨k, rfl, hk, HK⟩ := hrel
    by_cases hkn : k < l.length
    · have g0 : (⟨l.toArray⟩ : ByteArray)[k]'(by simpa [ByteArray.size] using hkn) = l[k] := rfl
      have HC := Lib.hid (show nameC l[k] = ((decide (97 ≤ l[k].toNat) && decide (l[k].toNat ≤ 122)) || (decide (48 ≤ l[k].toNat) && decide (l[k].toNat ≤ 57)) || decide (l[k].toNat = 45)) from rfl)
      have HB := Lib.hid (fun h => nameB_bad (l := l) k hkn h)
      have HN := Lib.hid (show ∀ h : nameC l[k] = true, ∀ j (hj : j < l.length), j < k + 1 → nameC l[j] = true from fun h j hj hlt => by
        by_cases e : j = k
        · subst e; exact h
        · exact HK.out j hj (by omega))
      have hx := l[k].toNat_lt
      generalize hc : nameC l[k] = cc at *
      clear hc
      generalize hxx : l[k] = x at *
      clear hxx
      have hcc : cc = true ∨ cc = false := by cases cc <;> simp
      rcases hcc with hcc | hcc
      · have HCC : Hid (((97 ≤ x.toNat ∧ x.toNat ≤ 122) ∨ (48 ≤ x.toNat ∧ x.toNat ≤ 57)) ∨ x.toNat = 45) := by
          have := HC.out; rw [hcc] at this; unfold Hid; simpa using this.symm
        have HN' := Lib.hid (HN.out hcc)
        clear hcc HC HB HN
        have e45 : Hid ((x.toNat : Int) = 45 ↔ x.toNat = 45) := by unfold Hid; omega
        rcases HCC.out with (⟨a1, a2⟩ | ⟨a1, a2⟩) | a1
        · have b1 : decide (97 ≤ (x.toNat : Int)) = true := decide_eq_true (by omega)
          have b2 : decide ((x.toNat : Int) ≤ 122) = true := decide_eq_true (by omega)
          go_wp2
          go_round
          case rel => exact ⟨k + 1, by go_num, by omega, HN'.out⟩
          case measure => simp [intOf]; omega
        · have b1 : decide (97 ≤ (x.toNat : Int)) = false := decide_eq_false (by omega)
          have b2 : decide (48 ≤ (x.toNat : Int)) = true := decide_eq_true (by omega)
          have b3 : decide ((x.toNat : Int) ≤ 57) = true := decide_eq_true (by omega)
          go_wp2
          go_round
          case rel => exact ⟨k + 1, by go_num, by omega, HN'.out⟩
          case measure => simp [intOf]; omega
        · have b1 : decide (97 ≤ (x.toNat : Int)) = false := decide_eq_false (by omega)
          have b2 : decide (48 ≤ (x.toNat : Int)) = false := decide_eq_false (by omega)
          have b3 : ((x.toNat : Int) == 45) = true := by simp; omega
          have A1 := Lib.hid a1; clear a1
          go_wp2
          go_round
          case rel => exact ⟨k + 1, by go_num, by omega, HN'.out⟩
          case measure => simp [intOf]; omega
      · have HCC : Hid (¬ (((97 ≤ x.toNat ∧ x.toNat ≤ 122) ∨ (48 ≤ x.toNat ∧ x.toNat ≤ 57)) ∨ x.toNat = 45)) := by
          have := HC.out; rw [hcc] at this; unfold Hid; intro hh
          have h2 : (decide (97 ≤ x.toNat) && decide (x.toNat ≤ 122) || decide (48 ≤ x.toNat) && decide (x.toNat ≤ 57) || decide (x.toNat = 45)) = true := by simpa using hh
          rw [h2] at this; cases this
        have hB := HB.out hcc
        have HB' := Lib.hid hB
        clear hcc HC HN HB hB
        have b5 : ((x.toNat : Int) == 45) = false := by have := HCC.out; simp; omega
        have hcases : (123 ≤ x.toNat) ∨ (97 > x.toNat ∧ 58 ≤ x.toNat) ∨ (x.toNat < 48) := by have := HCC.out; omega
        rcases hcases with a1 | ⟨a1, a2⟩ | a1
        · have b1 : decide (97 ≤ (x.toNat : Int)) = true := decide_eq_true (by omega)
          have b2 : decide ((x.toNat : Int) ≤ 122) = false := decide_eq_false (by omega)
          have b3 : decide (48 ≤ (x.toNat : Int)) = true := decide_eq_true (by omega)
          have b4 : decide ((x.toNat : Int) ≤ 57) = false := decide_eq_false (by omega)
          go_wp2
          go_ret
          rw [HB'.out]
          exact ⟨rfl, rfl⟩
        · have b1 : decide (97 ≤ (x.toNat : Int)) = false := decide_eq_false (by omega)
          have b3 : decide (48 ≤ (x.toNat : Int)) = true := decide_eq_true (by omega)
          have b4 : decide ((x.toNat : Int) ≤ 57) = false := decide_eq_false (by omega)
          go_wp2
          go_ret
          rw [HB'.out]
          exact ⟨rfl, rfl⟩
        · have b1 : decide (97 ≤ (x.toNat : Int)) = false := decide_eq_false (by omega)
          have b3 : decide (48 ≤ (x.toNat : Int)) = false := decide_eq_false (by omega)
          go_wp2
          go_ret
          rw [HB'.out]
          exact ⟨rfl, rfl⟩
    · have hB : nameB l = true := nameB_good (by omega) (by omega) (fun j hj => HK.out j hj (by omega))
      have HB' := Lib.hid hB; clear hB
      go_wp2
      go_ret
      rw [HB'.out]
      exact ⟨rfl, rfl⟩
end Go.Proofs.YtgbagjpokpchpaaGreatDoor
namespace Go.Proofs.YtgbagjpokpchpaaGreatDoor
open Go.RowKit Go.Maps Go.Sort

def boundI (n : Int) : Int := min (max n 0) 1099511627776
theorem boundI_lo (n : Int) : 0 ≤ boundI n := by unfold boundI; omega
theorem boundI_hi (n : Int) : boundI n ≤ 1099511627776 := by unfold boundI; omega

def leastI : List Int → Option Int
  | [] => none
  | x :: r => match leastI r with | none => some x | some y => some (if x ≤ y then x else y)
theorem leastI_none {l : List Int} : leastI l = none ↔ l = [] := by
  cases l with
  | nil => simp [leastI]
  | cons x r => simp only [leastI]; split <;> simp
theorem leastI_some {l : List Int} {m : Int} : leastI l = some m ↔ m ∈ l ∧ ∀ x ∈ l, m ≤ x := by
  induction l generalizing m with
  | nil => simp [leastI]
  | cons x r ih =>
    simp only [leastI]
    cases hr : leastI r with
    | none =>
      have := leastI_none.1 hr
      subst this
      simp
      constructor
      · rintro rfl; exact ⟨rfl, Int.le_refl _⟩
      · exact fun h => h.1.symm
    | some y =>
      obtain ⟨h1, h2⟩ := ih.1 hr
      simp only [Option.some.injEq, List.mem_cons]
      constructor
      · rintro rfl
        split
        · refine ⟨.inl rfl, fun z hz => ?_⟩
          rcases hz with rfl | hz
          · exact Int.le_refl _
          · have := h2 z hz; omega
        · refine ⟨.inr h1, fun z hz => ?_⟩
          rcases hz with rfl | hz
          · omega
          · exact h2 z hz
      · rintro ⟨h3, h4⟩
        have a1 := h4 x (.inl rfl)
        have a2 := h4 y (.inr h1)
        rcases h3 with rfl | h3
        · rw [if_pos a2]
        · have := h2 m h3
          split <;> omega

structure Clk where
  slack : Int
  idle : Int
  now : Int
  mark : Int
  src : Row (Int × Int)

def actB (idle now : Int) (s : Int × Int) : Bool := decide (idle = 0) || decide (now - s.2 ≤ idle)
def Clk.told (c : Clk) : Option Int := leastI ((c.src.filter fun p => actB c.idle c.now p.2).map fun p => p.2.1 - c.slack - 1)
def Clk.rise (c : Clk) : Clk := match c.told with | none => c | some m => { c with mark := max c.mark m }
def Clk.tick (c : Clk) (now : Int) : Clk := ({ c with now := max c.now (boundI now) } : Clk).rise
def Clk.hears (c : Clk) (name : List UInt8) (at_ : Int) : Bool := nameB name && decide (0 ≤ at_) && decide (at_ ≤ 1099511627776) && decide (c.mark < at_)
def Clk.heard (c : Clk) (name : List UInt8) (at_ : Int) : Clk := ({ c with src := putB name (max ((getB c.src name).getD (0, 0)).1 at_, c.now) c.src } : Clk).rise
def Clk.hear (c : Clk) (name : List UInt8) (at_ now : Int) : Clk := if (c.tick now).hears name at_ then (c.tick now).heard name at_ else c.tick now
def Clk.new (slack idle : Int) : Clk := ⟨boundI slack, boundI idle, 0, -1, []⟩

structure ClkOk (c : Clk) : Prop where
  slack : 0 ≤ c.slack ∧ c.slack ≤ 1099511627776
  idle : 0 ≤ c.idle ∧ c.idle ≤ 1099511627776
  now : 0 ≤ c.now ∧ c.now ≤ 1099511627776
  mark : -1 ≤ c.mark ∧ c.mark ≤ 1099511627776
  rising : RowUp c.src
  src : ∀ p ∈ c.src, nameB p.1 = true ∧ 0 ≤ p.2.1 ∧ p.2.1 ≤ 1099511627776 ∧ 0 ≤ p.2.2 ∧ p.2.2 ≤ c.now

theorem told_some {c : Clk} {m : Int} : c.told = some m ↔ (∃ p ∈ c.src, actB c.idle c.now p.2 = true ∧ m = p.2.1 - c.slack - 1) ∧ ∀ p ∈ c.src, actB c.idle c.now p.2 = true → m ≤ p.2.1 - c.slack - 1 := by
  unfold Clk.told
  rw [leastI_some]
  simp only [List.mem_map, List.mem_filter]
  constructor
  · rintro ⟨⟨p, ⟨h1, h2⟩, rfl⟩, h3⟩
    exact ⟨⟨p, h1, h2, rfl⟩, fun q hq ha => h3 _ ⟨q, ⟨hq, ha⟩, rfl⟩⟩
  · rintro ⟨⟨p, h1, h2, rfl⟩, h3⟩
    refine ⟨⟨p, ⟨h1, h2⟩, rfl⟩, ?_⟩
    rintro _ ⟨q, ⟨hq, ha⟩, rfl⟩
    exact h3 q hq ha
theorem told_none {c : Clk} : c.told = none ↔ ∀ p ∈ c.src, actB c.idle c.now p.2 = false := by
  unfold Clk.told
  rw [leastI_none]
  simp only [List.map_eq_nil_iff, List.filter_eq_nil_iff]
  constructor
  · intro h p hp; simpa using h p hp
  · intro h p hp; simp [h p hp]
theorem ClkOk.told {c : Clk} (h : ClkOk c) {m : Int} (ht : c.told = some m) : -1099511627777 ≤ m ∧ m ≤ 1099511627776 := by
  obtain ⟨⟨p, hp, _, rfl⟩, _⟩ := told_some.1 ht
  have := h.src p hp
  have := h.slack
  omega
theorem ClkOk.rise {c : Clk} (h : ClkOk c) : ClkOk c.rise := by
  unfold Clk.rise
  cases ht : c.told with
  | none => exact h
  | some m =>
    have := h.told ht
    have := h.mark
    exact ⟨h.slack, h.idle, h.now, by simp only; omega, h.rising, h.src⟩
theorem ClkOk.tick {c : Clk} (h : ClkOk c) (now : Int) : ClkOk (c.tick now) := by
  have := boundI_lo now
  have := boundI_hi now
  have hn := h.now
  refine ClkOk.rise ⟨h.slack, h.idle, by simp only; omega, h.mark, h.rising, fun p hp => ?_⟩
  have := h.src p hp
  exact ⟨this.1, this.2.1, this.2.2.1, this.2.2.2.1, by simp only; omega⟩
theorem ClkOk.said {c : Clk} (h : ClkOk c) {name : List UInt8} {at_ : Int} (hh : c.hears name at_ = true) : ClkOk { c with src := putB name (max ((getB c.src name).getD (0, 0)).1 at_, c.now) c.src } := by
  unfold Clk.hears at hh
  simp only [Bool.and_eq_true, decide_eq_true_eq] at hh
  obtain ⟨⟨⟨h1, h2⟩, h3⟩, h4⟩ := hh
  have hn := h.now
  refine ⟨h.slack, h.idle, h.now, h.mark, putB_rising h.rising _ _, fun p hp => ?_⟩
  rcases putB_mem.1 hp with rfl | ⟨hp, _⟩
  · refine ⟨h1, ?_⟩
    cases hg : getB c.src name with
    | none => simp only [Option.getD_none]; omega
    | some q =>
      have := h.src _ (getB_mem hg)
      simp only [Option.getD_some] at *
      omega
  · exact h.src p hp
theorem ClkOk.heard {c : Clk} (h : ClkOk c) {name : List UInt8} {at_ : Int} (hh : c.hears name at_ = true) : ClkOk (c.heard name at_) := (h.said hh).rise
theorem ClkOk.hear {c : Clk} (h : ClkOk c) (name : List UInt8) (at_ now : Int) : ClkOk (c.hear name at_ now) := by
  unfold Clk.hear
  split
  · exact (h.tick now).heard (by assumption)
  · exact h.tick now
theorem tick_len (c : Clk) (now : Int) : (c.tick now).src.length = c.src.length := by unfold Clk.tick Clk.rise; split <;> rfl
theorem hear_len (c : Clk) (name : List UInt8) (at_ now : Int) : (c.hear name at_ now).src.length ≤ c.src.length + 1 := by
  unfold Clk.hear
  split
  · have : ((c.tick now).heard name at_).src = putB name (max ((getB (c.tick now).src name).getD (0, 0)).1 at_, (c.tick now).now) (c.tick now).src := by
      unfold Clk.heard Clk.rise; split <;> rfl
    rw [this]
    have := putB_length_le (c.tick now).src name (max ((getB (c.tick now).src name).getD (0, 0)).1 at_, (c.tick now).now)
    rw [tick_len] at this
    exact this
  · rw [tick_len]; omega
theorem ClkOk.new (slack idle : Int) : ClkOk (Clk.new slack idle) :=
  ⟨⟨boundI_lo _, boundI_hi _⟩, ⟨boundI_lo _, boundI_hi _⟩, by simp [Clk.new], by simp [Clk.new], by simp [Clk.new, RowUp], fun p hp => by simp [Clk.new] at hp⟩

theorem rise_mark (c : Clk) : c.mark ≤ c.rise.mark := by
  unfold Clk.rise; split
  · exact Int.le_refl _
  · simp only; omega
theorem tick_mark (c : Clk) (now : Int) : c.mark ≤ (c.tick now).mark := rise_mark ({ c with now := max c.now (boundI now) } : Clk)
theorem rise_rise (c : Clk) : c.rise.rise = c.rise := by
  unfold Clk.rise
  cases ht : c.told with
  | none => simp only [ht]
  | some m =>
    simp only
    have : ({ c with mark := max c.mark m } : Clk).told = some m := ht
    rw [this]
    simp only
    congr 1
    omega
theorem rise_now (c : Clk) : c.rise.now = c.now := by unfold Clk.rise; split <;> rfl
theorem rise_src (c : Clk) : c.rise.src = c.src := by unfold Clk.rise; split <;> rfl
theorem rise_slack (c : Clk) : c.rise.slack = c.slack := by unfold Clk.rise; split <;> rfl
theorem rise_idle (c : Clk) : c.rise.idle = c.idle := by unfold Clk.rise; split <;> rfl
theorem tick_tick (c : Clk) (now : Int) : (c.tick now).tick now = c.tick now := by
  unfold Clk.tick
  have e : max (({ c with now := max c.now (boundI now) } : Clk).rise).now (boundI now) = (({ c with now := max c.now (boundI now) } : Clk).rise).now := by rw [rise_now]; simp only; omega
  rw [e]
  exact rise_rise _
theorem heard_mark (c : Clk) (name : List UInt8) (at_ : Int) : c.mark ≤ (c.heard name at_).mark := rise_mark ({ c with src := putB name (max ((getB c.src name).getD (0, 0)).1 at_, c.now) c.src } : Clk)
theorem hear_mark (c : Clk) (name : List UInt8) (at_ now : Int) : (c.tick now).mark ≤ (c.hear name at_ now).mark := by
  unfold Clk.hear; split
  · exact heard_mark _ _ _
  · exact Int.le_refl _
end Go.Proofs.YtgbagjpokpchpaaGreatDoor
