/-
  Layer 4, plain: a disk's files.
  Layer 4, plain: a disk whose numbers are right.
-/
import Derived.Test.YtejjfhhppjdcaaaGreatDoorJMapS
namespace Go.Proofs.YtejjfhhppjdcaaaGreatDoor
open Go.RowKit Go.Maps Go.Sort

/-- a file: its bytes, how many of them last, whether it stays -/
structure Fl where
  data : List UInt8
  lasts : Int
  stays : Bool
def Fl.none : Fl := ⟨[], 0, false⟩
structure Dk where
  files : Row Fl
  used : Int
  lit : Bool
  fuse : Int
  down : Bool
def Dk.new : Dk := ⟨[], 0, false, 0, false⟩
def Dk.file (d : Dk) (s : List UInt8) : Fl := (getB d.files s).getD Fl.none
/-- what is wrong with a name -/
def Dk.asked (d : Dk) (s : List UInt8) : Int := if d.down then 8 else if s.length < 1 ∨ 64 < s.length then 1 else 0
def Dk.found (d : Dk) (s : List UInt8) : Int := if d.asked s ≠ 0 then d.asked s else if (getB d.files s).isNone then 6 else 0
def Dk.fullB (d : Dk) (s : List UInt8) (more : Int) : Bool := decide (4194304 < d.used + more) || ((getB d.files s).isNone && decide (4096 ≤ d.files.length))
/-- the fuse burns -/
def Dk.step (d : Dk) : Dk := if d.lit then (if d.fuse = 0 then { d with down := true } else { d with fuse := d.fuse - 1 }) else d
def Dk.stepB (d : Dk) : Bool := !(d.lit && (d.fuse == 0))
def Dk.put (d : Dk) (s : List UInt8) (f : Fl) : Dk := { d with files := putB s f d.files }
def Dk.append (d : Dk) (s : List UInt8) (b : List UInt8) : Dk :=
  if d.asked s ≠ 0 then d else if d.fullB s b.length then d
  else ({ d.put s { d.file s with data := (d.file s).data ++ b } with used := d.used + b.length } : Dk).step
def Dk.appendE (d : Dk) (s : List UInt8) (b : List UInt8) : Int :=
  if d.asked s ≠ 0 then d.asked s else if d.fullB s b.length then 5 else if d.stepB then 0 else 8
def Dk.sync (d : Dk) (s : List UInt8) : Dk :=
  if d.found s ≠ 0 then d else if d.stepB then d.step.put s { d.file s with lasts := (d.file s).data.length, stays := true } else d.step
def Dk.syncE (d : Dk) (s : List UInt8) : Int := if d.found s ≠ 0 then d.found s else if d.stepB then 0 else 8
def Dk.replace (d : Dk) (s : List UInt8) (b : List UInt8) : Dk :=
  if d.asked s ≠ 0 then d else if d.fullB s (b.length - (d.file s).data.length) then d
  else if d.stepB then { d.step.put s ⟨b, b.length, true⟩ with used := d.used + (b.length - (d.file s).data.length) } else d.step
def Dk.replaceE (d : Dk) (s : List UInt8) (b : List UInt8) : Int :=
  if d.asked s ≠ 0 then d.asked s else if d.fullB s (b.length - (d.file s).data.length) then 5 else if d.stepB then 0 else 8
theorem Dk.asked_fine {d : Dk} {s : List UInt8} (h : d.down = false) (h1 : 1 ≤ s.length) (h2 : s.length ≤ 64) : d.asked s = 0 := by
  unfold Dk.asked
  rw [h, if_neg (by simp), if_neg (by omega)]
theorem Dk.step_dark {d : Dk} (h : d.lit = false) : d.step = d ∧ d.stepB = true := by
  unfold Dk.step Dk.stepB
  rw [h]; exact ⟨rfl, rfl⟩
theorem putB_length_here {α : Type} {m : Row α} {k : List UInt8} (v : α) (h : (getB m k).isSome = true) : (putB k v m).length ≤ m.length := by
  unfold putB
  rw [insB_length]
  have ⟨v', hv⟩ := Option.isSome_iff_exists.1 h
  have hm := getB_mem hv
  have : (m.filter fun p => !(p.1 == k)).length < m.length := by
    rw [List.length_filter_lt_length_iff_exists]
    exact ⟨_, hm, by simp⟩
  omega
end Go.Proofs.YtejjfhhppjdcaaaGreatDoor
namespace Go.Proofs.YtejjfhhppjdcaaaGreatDoor
open Go.RowKit Go.Maps Go.Sort

/-- bytes of all files -/
def total : Row Fl → Int
  | [] => 0
  | p :: m => p.2.data.length + total m
theorem total_nonneg : ∀ m : Row Fl, 0 ≤ total m
  | [] => Int.le_refl _
  | p :: m => by unfold total; have := total_nonneg m; omega
theorem total_ins (x : List UInt8 × Fl) : ∀ m : Row Fl, total (insB x m) = x.2.data.length + total m
  | [] => rfl
  | y :: r => by
    unfold insB
    split
    · rfl
    · simp only [total, total_ins x r]; omega
theorem total_filter : ∀ {m : Row Fl}, RowUp m → ∀ k, total (m.filter fun p => !(p.1 == k)) + ((getB m k).getD Fl.none).data.length = total m
  | [], _, k => by simp [total, getB, Fl.none]
  | y :: r, h, k => by
    obtain ⟨h1, h2⟩ := List.pairwise_cons.1 h
    have ih := total_filter h2 k
    by_cases e : y.1 = k
    · have hn : ∀ p ∈ r, p.1 ≠ k := fun p hp e' => by have := h1 p hp; rw [e, e', bb_irrefl] at this; cases this
      have hf : r.filter (fun p => !(p.1 == k)) = r := List.filter_eq_self.2 fun p hp => by simp [hn p hp]
      have hg : getB (y :: r) k = some y.2 := by unfold getB; simp [e]
      rw [hg, List.filter_cons, if_neg (by simp [e]), hf]
      simp only [total, Option.getD_some]; omega
    · have hg : getB (y :: r) k = getB r k := by unfold getB; simp [e]
      rw [hg, List.filter_cons, if_pos (by simp [e])]
      simp only [total]; omega
theorem total_put {m : Row Fl} (h : RowUp m) (k : List UInt8) (f : Fl) : total (putB k f m) = total m - ((getB m k).getD Fl.none).data.length + f.data.length := by
  unfold putB
  rw [total_ins]
  have := total_filter h k
  show (f.data.length : Int) + _ = _
  omega
theorem total_mem : ∀ {m : Row Fl} {p : List UInt8 × Fl}, p ∈ m → (p.2.data.length : Int) ≤ total m
  | y :: r, p, h => by
    unfold total
    rcases List.mem_cons.1 h with rfl | h
    · have := total_nonneg r; omega
    · have := total_mem h; omega
structure Dk.Ok (d : Dk) : Prop where
  up : RowUp d.files
  used : d.used = total d.files
  max : d.used ≤ 4194304
  fuse0 : 0 ≤ d.fuse
  fuse1 : d.fuse ≤ 1000
  num : d.files.length ≤ 4096
  las : ∀ p ∈ d.files, 0 ≤ p.2.lasts ∧ p.2.lasts ≤ p.2.data.length
theorem Dk.ok_new : Dk.new.Ok := ⟨by simp [Dk.new, RowUp], rfl, by simp [Dk.new], by simp [Dk.new], by simp [Dk.new], by simp [Dk.new], by simp [Dk.new]⟩
theorem Dk.Ok.used0 {d : Dk} (h : d.Ok) : 0 ≤ d.used := by rw [h.used]; exact total_nonneg _
theorem Dk.Ok.file_las {d : Dk} (h : d.Ok) (s : List UInt8) : 0 ≤ (d.file s).lasts ∧ (d.file s).lasts ≤ (d.file s).data.length := by
  unfold Dk.file
  cases hg : getB d.files s with
  | none => simp [Fl.none]
  | some f => exact h.las _ (getB_mem hg)
theorem Dk.Ok.file_len {d : Dk} (h : d.Ok) (s : List UInt8) : ((d.file s).data.length : Int) ≤ d.used := by
  unfold Dk.file
  cases hg : getB d.files s with
  | none => simpa [Fl.none] using h.used0
  | some f => rw [h.used]; exact total_mem (getB_mem hg)
theorem Dk.Ok.step {d : Dk} (h : d.Ok) : d.step.Ok := by
  unfold Dk.step
  split
  · split
    · exact ⟨h.up, h.used, h.max, h.fuse0, h.fuse1, h.num, h.las⟩
    · exact ⟨h.up, h.used, h.max, by have := h.fuse0; show 0 ≤ d.fuse - 1; omega, by have := h.fuse1; show d.fuse - 1 ≤ 1000; omega, h.num, h.las⟩
  · exact h
theorem Dk.step_files (d : Dk) : d.step.files = d.files ∧ d.step.used = d.used := by
  unfold Dk.step
  split
  · split <;> exact ⟨rfl, rfl⟩
  · exact ⟨rfl, rfl⟩
/-- a file is put in the place of the one that was there, or a new one, if there is room -/
theorem Dk.Ok.put {d : Dk} (h : d.Ok) (s : List UInt8) (f : Fl) (u : Int) (hu : u = d.used - (d.file s).data.length + f.data.length) (hm : u ≤ 4194304) (hr : (getB d.files s).isSome = true ∨ d.files.length < 4096) (hl : 0 ≤ f.lasts ∧ f.lasts ≤ f.data.length) : ({ d.put s f with used := u } : Dk).Ok := by
  refine ⟨putB_rising h.up _ _, ?_, hm, h.fuse0, h.fuse1, ?_, fun p hp => ?_⟩
  · show u = total (putB s f d.files)
    rw [hu, total_put h.up, ← h.used]; rfl
  · show (putB s f d.files).length ≤ 4096
    rcases hr with hr | hr
    · exact Nat.le_trans (putB_length_here f hr) h.num
    · have := putB_length_le d.files s f; omega
  · rcases putB_mem.1 hp with rfl | ⟨hp, _⟩
    · exact hl
    · exact h.las p hp
theorem Dk.full_no {d : Dk} {s : List UInt8} {m : Int} (h : d.fullB s m = false) : d.used + m ≤ 4194304 ∧ ((getB d.files s).isSome = true ∨ d.files.length < 4096) := by
  unfold Dk.fullB at h
  rw [Bool.or_eq_false_iff, decide_eq_false_iff_not, Bool.and_eq_false_iff] at h
  refine ⟨by omega, ?_⟩
  rcases h.2 with h | h
  · left; cases hg : getB d.files s <;> simp_all
  · right; rw [decide_eq_false_iff_not] at h; omega
theorem Dk.found_zero {d : Dk} {s : List UInt8} (h : d.found s = 0) : d.asked s = 0 ∧ (getB d.files s).isSome = true := by
  unfold Dk.found at h
  by_cases h0 : d.asked s = 0
  · refine ⟨h0, ?_⟩
    rw [if_neg (by simp [h0])] at h
    cases hg : getB d.files s with
    | none => rw [hg] at h; simp at h
    | some f => rfl
  · rw [if_pos h0] at h; exact absurd h h0
theorem Dk.Ok.append {d : Dk} (h : d.Ok) (s b : List UInt8) : (d.append s b).Ok := by
  unfold Dk.append
  split
  · exact h
  · split
    · exact h
    · next hf =>
      obtain ⟨h1, h2⟩ := Dk.full_no (Bool.eq_false_iff.2 hf)
      refine Dk.Ok.step (h.put s _ _ ?_ h1 h2 ?_)
      · show d.used + (b.length : Int) = d.used - (d.file s).data.length + (((d.file s).data ++ b).length : Nat); simp; omega
      · have := h.file_las s; simp; omega
theorem Dk.Ok.sync {d : Dk} (h : d.Ok) (s : List UInt8) : (d.sync s).Ok := by
  unfold Dk.sync
  split
  · exact h
  · next hf =>
    have hf := Dk.found_zero (Decidable.not_not.1 hf)
    split
    · have hs := h.step
      have := hs.put s { d.file s with lasts := (d.file s).data.length, stays := true } d.step.used (by show d.step.used = d.step.used - (d.step.file s).data.length + ((d.file s).data.length : Int); unfold Dk.file; rw [d.step_files.1]; omega) hs.max (.inl (by rw [d.step_files.1]; exact hf.2)) ⟨by simp, by simp⟩
      exact this
    · exact h.step
theorem Dk.Ok.replace {d : Dk} (h : d.Ok) (s b : List UInt8) : (d.replace s b).Ok := by
  unfold Dk.replace
  split
  · exact h
  · split
    · exact h
    · next hf =>
      obtain ⟨h1, h2⟩ := Dk.full_no (Bool.eq_false_iff.2 hf)
      split
      · refine h.step.put s ⟨b, b.length, true⟩ _ ?_ h1 (by rw [d.step_files.1]; exact h2) ⟨by simp, by simp⟩
        unfold Dk.file; rw [d.step_files.1, d.step_files.2]; simp; omega
      · exact h.step
end Go.Proofs.YtejjfhhppjdcaaaGreatDoor
