/-
  Layer 6, plain: a clock.
-/
import Derived.Test.YtoljbbmjbgepiaaGreatDoorDMapS
import Derived.Test.YtoljbbmjbgepiaaGreatDoorDEvForget
namespace Go.Proofs.YtoljbbmjbgepiaaGreatDoor
open Go.RowKit Go.Maps Go.Sort

def boundI (n : Int) : Int := min (max n 0) 1099511627776
theorem boundI_lo (n : Int) : 0 ≤ boundI n := by unfold boundI; omega
theorem boundI_hi (n : Int) : boundI n ≤ 1099511627776 := by unfold boundI; omega

def leastI : List Int → Option Int
  | [] => none
  | x :: r => match leastI r with | none => some x | some y => some (if x ≤ y then x else y)
theorem leastI_none {l : List Int} : leastI l = none ↔ l = [] := by
  cases l with
  | nil => simp [leastI]
  | cons x r => simp only [leastI]; split <;> simp
theorem leastI_some {l : List Int} {m : Int} : leastI l = some m ↔ m ∈ l ∧ ∀ x ∈ l, m ≤ x := by
  induction l generalizing m with
  | nil => simp [leastI]
  | cons x r ih =>
    simp only [leastI]
    cases hr : leastI r with
    | none =>
      have := leastI_none.1 hr
      subst this
      simp
      constructor
      · rintro rfl; exact ⟨rfl, Int.le_refl _⟩
      · exact fun h => h.1.symm
    | some y =>
      obtain ⟨h1, h2⟩ := ih.1 hr
      simp only [Option.some.injEq, List.mem_cons]
      constructor
      · rintro rfl
        split
        · refine ⟨.inl rfl, fun z hz => ?_⟩
          rcases hz with rfl | hz
          · exact Int.le_refl _
          · have := h2 z hz; omega
        · refine ⟨.inr h1, fun z hz => ?_⟩
          rcases hz with rfl | hz
          · omega
          · exact h2 z hz
      · rintro ⟨h3, h4⟩
        have a1 := h4 x (.inl rfl)
        have a2 := h4 y (.inr h1)
        rcases h3 with rfl | h3
        · rw [if_pos a2]
        · have := h2 m h3
          split <;> omega

structure Clk where
  slack : Int
  idle : Int
  now : Int
  mark : Int
  src : Row (Int × Int)

def actB (idle now : Int) (s : Int × Int) : Bool := decide (idle = 0) || decide (now - s.2 ≤ idle)
def Clk.told (c : Clk) : Option Int := leastI ((c.src.filter fun p => actB c.idle c.now p.2).map fun p => p.2.1 - c.slack - 1)
def Clk.rise (c : Clk) : Clk := match c.told with | none => c | some m => { c with mark := max c.mark m }
def Clk.tick (c : Clk) (now : Int) : Clk := ({ c with now := max c.now (boundI now) } : Clk).rise
def Clk.hears (c : Clk) (name : List UInt8) (at_ : Int) : Bool := nameB name && decide (0 ≤ at_) && decide (at_ ≤ 1099511627776) && decide (c.mark < at_)
def Clk.heard (c : Clk) (name : List UInt8) (at_ : Int) : Clk := ({ c with src := putB name (max ((getB c.src name).getD (0, 0)).1 at_, c.now) c.src } : Clk).rise
def Clk.hear (c : Clk) (name : List UInt8) (at_ now : Int) : Clk := if (c.tick now).hears name at_ then (c.tick now).heard name at_ else c.tick now
def Clk.new (slack idle : Int) : Clk := ⟨boundI slack, boundI idle, 0, -1, []⟩

structure ClkOk (c : Clk) : Prop where
  slack : 0 ≤ c.slack ∧ c.slack ≤ 1099511627776
  idle : 0 ≤ c.idle ∧ c.idle ≤ 1099511627776
  now : 0 ≤ c.now ∧ c.now ≤ 1099511627776
  mark : -1 ≤ c.mark ∧ c.mark ≤ 1099511627776
  rising : RowUp c.src
  src : ∀ p ∈ c.src, nameB p.1 = true ∧ 0 ≤ p.2.1 ∧ p.2.1 ≤ 1099511627776 ∧ 0 ≤ p.2.2 ∧ p.2.2 ≤ c.now

theorem told_some {c : Clk} {m : Int} : c.told = some m ↔ (∃ p ∈ c.src, actB c.idle c.now p.2 = true ∧ m = p.2.1 - c.slack - 1) ∧ ∀ p ∈ c.src, actB c.idle c.now p.2 = true → m ≤ p.2.1 - c.slack - 1 := by
  unfold Clk.told
  rw [leastI_some]
  simp only [List.mem_map, List.mem_filter]
  constructor
  · rintro ⟨⟨p, ⟨h1, h2⟩, rfl⟩, h3⟩
    exact ⟨⟨p, h1, h2, rfl⟩, fun q hq ha => h3 _ ⟨q, ⟨hq, ha⟩, rfl⟩⟩
  · rintro ⟨⟨p, h1, h2, rfl⟩, h3⟩
    refine ⟨⟨p, ⟨h1, h2⟩, rfl⟩, ?_⟩
    rintro _ ⟨q, ⟨hq, ha⟩, rfl⟩
    exact h3 q hq ha
theorem told_none {c : Clk} : c.told = none ↔ ∀ p ∈ c.src, actB c.idle c.now p.2 = false := by
  unfold Clk.told
  rw [leastI_none]
  simp only [List.map_eq_nil_iff, List.filter_eq_nil_iff]
  constructor
  · intro h p hp; simpa using h p hp
  · intro h p hp; simp [h p hp]
theorem ClkOk.told {c : Clk} (h : ClkOk c) {m : Int} (ht : c.told = some m) : -1099511627777 ≤ m ∧ m ≤ 1099511627776 := by
  obtain ⟨⟨p, hp, _, rfl⟩, _⟩ := told_some.1 ht
  have := h.src p hp
  have := h.slack
  omega
theorem ClkOk.rise {c : Clk} (h : ClkOk c) : ClkOk c.rise := by
  unfold Clk.rise
  cases ht : c.told with
  | none => exact h
  | some m =>
    have := h.told ht
    have := h.mark
    exact ⟨h.slack, h.idle, h.now, by simp only; omega, h.rising, h.src⟩
theorem ClkOk.tick {c : Clk} (h : ClkOk c) (now : Int) : ClkOk (c.tick now) := by
  have := boundI_lo now
  have := boundI_hi now
  have hn := h.now
  refine ClkOk.rise ⟨h.slack, h.idle, by simp only; omega, h.mark, h.rising, fun p hp => ?_⟩
  have := h.src p hp
  exact ⟨this.1, this.2.1, this.2.2.1, this.2.2.2.1, by simp only; omega⟩
theorem ClkOk.said {c : Clk} (h : ClkOk c) {name : List UInt8} {at_ : Int} (hh : c.hears name at_ = true) : ClkOk { c with src := putB name (max ((getB c.src name).getD (0, 0)).1 at_, c.now) c.src } := by
  unfold Clk.hears at hh
  simp only [Bool.and_eq_true, decide_eq_true_eq] at hh
  obtain ⟨⟨⟨h1, h2⟩, h3⟩, h4⟩ := hh
  have hn := h.now
  refine ⟨h.slack, h.idle, h.now, h.mark, putB_rising h.rising _ _, fun p hp => ?_⟩
  rcases putB_mem.1 hp with rfl | ⟨hp, _⟩
  · refine ⟨h1, ?_⟩
    cases hg : getB c.src name with
    | none => simp only [Option.getD_none]; omega
    | some q =>
      have := h.src _ (getB_mem hg)
      simp only [Option.getD_some] at *
      omega
  · exact h.src p hp
theorem ClkOk.heard {c : Clk} (h : ClkOk c) {name : List UInt8} {at_ : Int} (hh : c.hears name at_ = true) : ClkOk (c.heard name at_) := (h.said hh).rise
theorem ClkOk.hear {c : Clk} (h : ClkOk c) (name : List UInt8) (at_ now : Int) : ClkOk (c.hear name at_ now) := by
  unfold Clk.hear
  split
  · exact (h.tick now).heard (by assumption)
  · exact h.tick now
theorem tick_len (c : Clk) (now : Int) : (c.tick now).src.length = c.src.length := by unfold Clk.tick Clk.rise; split <;> rfl
theorem hear_len (c : Clk) (name : List UInt8) (at_ now : Int) : (c.hear name at_ now).src.length ≤ c.src.length + 1 := by
  unfold Clk.hear
  split
  · have : ((c.tick now).heard name at_).src = putB name (max ((getB (c.tick now).src name).getD (0, 0)).1 at_, (c.tick now).now) (c.tick now).src := by
      unfold Clk.heard Clk.rise; split <;> rfl
    rw [this]
    have := putB_length_le (c.tick now).src name (max ((getB (c.tick now).src name).getD (0, 0)).1 at_, (c.tick now).now)
    rw [tick_len] at this
    exact this
  · rw [tick_len]; omega
theorem ClkOk.new (slack idle : Int) : ClkOk (Clk.new slack idle) :=
  ⟨⟨boundI_lo _, boundI_hi _⟩, ⟨boundI_lo _, boundI_hi _⟩, by simp [Clk.new], by simp [Clk.new], by simp [Clk.new, RowUp], fun p hp => by simp [Clk.new] at hp⟩

theorem rise_mark (c : Clk) : c.mark ≤ c.rise.mark := by
  unfold Clk.rise; split
  · exact Int.le_refl _
  · simp only; omega
theorem tick_mark (c : Clk) (now : Int) : c.mark ≤ (c.tick now).mark := rise_mark ({ c with now := max c.now (boundI now) } : Clk)
theorem rise_rise (c : Clk) : c.rise.rise = c.rise := by
  unfold Clk.rise
  cases ht : c.told with
  | none => simp only [ht]
  | some m =>
    simp only
    have : ({ c with mark := max c.mark m } : Clk).told = some m := ht
    rw [this]
    simp only
    congr 1
    omega
theorem rise_now (c : Clk) : c.rise.now = c.now := by unfold Clk.rise; split <;> rfl
theorem rise_src (c : Clk) : c.rise.src = c.src := by unfold Clk.rise; split <;> rfl
theorem rise_slack (c : Clk) : c.rise.slack = c.slack := by unfold Clk.rise; split <;> rfl
theorem rise_idle (c : Clk) : c.rise.idle = c.idle := by unfold Clk.rise; split <;> rfl
theorem tick_tick (c : Clk) (now : Int) : (c.tick now).tick now = c.tick now := by
  unfold Clk.tick
  have e : max (({ c with now := max c.now (boundI now) } : Clk).rise).now (boundI now) = (({ c with now := max c.now (boundI now) } : Clk).rise).now := by rw [rise_now]; simp only; omega
  rw [e]
  exact rise_rise _
theorem heard_mark (c : Clk) (name : List UInt8) (at_ : Int) : c.mark ≤ (c.heard name at_).mark := rise_mark ({ c with src := putB name (max ((getB c.src name).getD (0, 0)).1 at_, c.now) c.src } : Clk)
theorem hear_mark (c : Clk) (name : List UInt8) (at_ now : Int) : (c.tick now).mark ≤ (c.hear name at_ now).mark := by
  unfold Clk.hear; split
  · exact heard_mark _ _ _
  · exact Int.le_refl _
end Go.Proofs.YtoljbbmjbgepiaaGreatDoor
