/-
  Layer 5, plain: lists cut into segments; decimal digits.
  Layer 5, plain: a journal: events on a disk.
-/
import Derived.Lib.ItoaNum
import Derived.Test.YtejjfhhppjdcaaaGreatDoorBEvMay
import Derived.Test.YtejjfhhppjdcaaaGreatDoorBEvBytes
import Derived.Test.YtejjfhhppjdcaaaGreatDoorBFrmLaw
import Derived.Test.YtejjfhhppjdcaaaGreatDoorBDkPlain
namespace Go.Proofs.YtejjfhhppjdcaaaGreatDoor
section
variable {α : Type}
/-- what stands in one segment -/
def segL (per k : Nat) (l : List α) : List α := (l.drop (k * per)).take per
/-- how many segments -/
def nseg (n per : Nat) : Nat := (n + per - 1) / per
theorem segL_length (per k : Nat) (l : List α) : (segL per k l).length = min per (l.length - k * per) := by simp [segL]
theorem segL_le (per k : Nat) (l : List α) : (segL per k l).length ≤ per := by rw [segL_length]; omega
theorem segL_take {per k m : Nat} (l : List α) (h : (k + 1) * per ≤ m) : segL per k (l.take m) = segL per k l := by
  rw [Nat.succ_mul] at h
  unfold segL
  rw [List.drop_take, List.take_take, Nat.min_eq_left (by omega)]
theorem segL_append {per k : Nat} (l r : List α) (h : (k + 1) * per ≤ l.length) : segL per k (l ++ r) = segL per k l := by
  rw [Nat.succ_mul] at h
  unfold segL
  rw [List.drop_append_of_le_length (by omega), List.take_append_of_le_length (by simp; omega)]
theorem segL_snoc {per : Nat} (hp : 1 ≤ per) (l : List α) (x : α) : segL per (l.length / per) (l ++ [x]) = segL per (l.length / per) l ++ [x] := by
  have h1 : l.length / per * per ≤ l.length := Nat.div_mul_le_self _ _
  have h2 : l.length < l.length / per * per + per := by
    have e := Nat.div_add_mod l.length per
    have := Nat.mod_lt l.length (show per > 0 by omega)
    rw [Nat.mul_comm] at e; omega
  unfold segL
  rw [List.drop_append_of_le_length h1]
  rw [List.take_of_length_le (by simp; omega), List.take_of_length_le (by simp; omega)]
theorem segL_nil (per k : Nat) (l : List α) (h : l.length ≤ k * per) : segL per k l = [] := by
  unfold segL; rw [List.drop_eq_nil_of_le h]; simp
theorem segL_last {per k : Nat} (l : List α) (h : l.length ≤ (k + 1) * per) : segL per k l = l.drop (k * per) := by
  rw [Nat.succ_mul] at h
  unfold segL; rw [List.take_of_length_le (by simp; omega)]
theorem segL_map {β : Type} (per k : Nat) (f : α → β) (l : List α) : segL per k (l.map f) = (segL per k l).map f := by
  unfold segL; rw [← List.map_drop, ← List.map_take]
theorem segL_succ (per k : Nat) (l : List α) : l.drop (k * per) = segL per k l ++ l.drop ((k + 1) * per) := by
  unfold segL
  rw [Nat.succ_mul, ← List.drop_drop, List.take_append_drop]
theorem segL_all (per : Nat) (l : List α) : ∀ k, (List.range k).flatMap (fun i => segL per i l) = l.take (k * per)
  | 0 => by simp
  | k + 1 => by
    rw [List.range_succ, List.flatMap_append, segL_all per l k, List.flatMap_singleton, segL]
    rw [Nat.succ_mul, List.take_add]
theorem nseg_le {n per : Nat} (hp : 1 ≤ per) : n ≤ nseg n per * per := by
  unfold nseg
  have e := Nat.div_add_mod (n + per - 1) per
  have := Nat.mod_lt (n + per - 1) (show per > 0 by omega)
  rw [Nat.mul_comm] at e; omega
theorem nseg_lt {n per : Nat} : nseg n per * per ≤ n + per - 1 := by
  unfold nseg; exact Nat.div_mul_le_self _ _
theorem nseg_snoc {n per : Nat} (hp : 1 ≤ per) : nseg (n + 1) per = n / per + 1 := by
  unfold nseg
  rw [show n + 1 + per - 1 = n + per by omega, Nat.add_div_right _ (by omega)]
theorem nseg_le_succ {n per : Nat} (hp : 1 ≤ per) : nseg n per ≤ n / per + 1 := by
  unfold nseg
  rw [← Nat.add_div_right _ (by omega : 0 < per)]
  exact Nat.div_le_div_right (by omega)
end
/-! ### decimal digits -/
open Lib
def decVal (l : List UInt8) : Nat := l.foldl (fun a c => a * 10 + (c.toNat - 48)) 0
theorem decVal_digits (k : Nat) : decVal (decDigits k) = k := by
  induction k using Nat.strongRecOn with
  | _ k ih =>
    by_cases h : k < 10
    · rw [decDigits, dif_pos h]; simp [decVal]; omega
    · have := ih (k / 10) (by omega)
      rw [decDigits, dif_neg h]
      unfold decVal at *
      rw [List.foldl_append, this]
      simp; omega
theorem decDigits_inj {k k' : Nat} (h : decDigits k = decDigits k') : k = k' := by rw [← decVal_digits k, h, decVal_digits]
theorem decDigits_ne (k : Nat) : decDigits k ≠ [] := by
  rw [decDigits]; split <;> simp
theorem decDigits_byte (k : Nat) : ∀ c ∈ decDigits k, 48 ≤ c.toNat ∧ c.toNat ≤ 57 := by
  induction k using Nat.strongRecOn with
  | _ k ih =>
    intro c hc
    by_cases h : k < 10
    · rw [decDigits, dif_pos h] at hc; simp at hc; subst hc; simp; omega
    · rw [decDigits, dif_neg h] at hc
      rcases List.mem_append.1 hc with hc | hc
      · exact ih (k / 10) (by omega) c hc
      · simp at hc; subst hc; simp; omega
/-- the name of a segment's file -/
def segF (s : List UInt8) (k : Nat) : List UInt8 := s ++ 46 :: decDigits k
theorem segF_inj {s : List UInt8} {k k' : Nat} (h : segF s k = segF s k') : k = k' := by
  unfold segF at h
  have := List.append_cancel_left h
  simp at this
  exact decDigits_inj this
theorem digits_two {k : Nat} (h : k < 100) : 1 ≤ (decDigits k).length ∧ (decDigits k).length ≤ 2 := by
  by_cases h1 : k < 10
  · rw [decDigits, dif_pos h1]; simp
  · rw [decDigits, dif_neg h1, decDigits, dif_pos (by omega)]; simp
theorem segF_len (s : List UInt8) {k : Nat} (h : k < 100) : 1 ≤ (segF s k).length ∧ (segF s k).length ≤ s.length + 3 := by
  have := digits_two h
  unfold segF; simp; omega
end Go.Proofs.YtejjfhhppjdcaaaGreatDoor
namespace Go.Proofs.YtejjfhhppjdcaaaGreatDoor
open Go.RowKit Go.Maps Go.Sort

def bytesE : Option Ev → List UInt8
  | none => []
  | some e => encE e
/-- an entry's frame -/
def sealE (x : Option Ev) : List UInt8 := Frm.sealB (bytesE x)
structure Jl where
  dk : Dk
  name : List UInt8
  per : Nat
  files : Nat
  es : List (Option Ev)
  lasts : Nat
  stuck : Int
def Jl.new (d : Dk) (s : List UInt8) (per : Nat) : Jl := ⟨d, s, per, 0, [], 0, 0⟩
def Jl.last (j : Jl) : List UInt8 := segF j.name (j.files - 1)
/-- all entries last, if there is a file -/
def Jl.sync (j : Jl) : Jl :=
  if j.files = 0 then j
  else if j.dk.syncE j.last ≠ 0 then { j with dk := j.dk.sync j.last, stuck := j.dk.syncE j.last }
  else { j with dk := j.dk.sync j.last, lasts := j.es.length }
def Jl.syncE (j : Jl) : Int := if j.files = 0 then 0 else j.dk.syncE j.last
/-- ahead of a new segment all entries last -/
def Jl.pre (j : Jl) : Jl := if j.es.length % j.per = 0 then j.sync else j
def Jl.preE (j : Jl) : Int := if j.es.length % j.per = 0 then j.syncE else 0
def Jl.seg (j : Jl) : List UInt8 := segF j.name (j.es.length / j.per)
def Jl.put (j : Jl) (x : Option Ev) : Jl :=
  if j.preE ≠ 0 then j.pre
  else if j.pre.dk.appendE j.seg (sealE x) ≠ 0 then { j.pre with dk := j.pre.dk.append j.seg (sealE x), stuck := j.pre.dk.appendE j.seg (sealE x) }
  else { j.pre with dk := j.pre.dk.append j.seg (sealE x), files := j.es.length / j.per + 1, es := j.es ++ [x] }
def Jl.putE (j : Jl) (x : Option Ev) : Int := if j.preE ≠ 0 then j.preE else j.pre.dk.appendE j.seg (sealE x)
/-- events, one behind another, up to the first error -/
def Jl.puts : Jl → List Ev → Jl
  | j, [] => j
  | j, e :: l => if j.putE (some e) ≠ 0 then j.put (some e) else (j.put (some e)).puts l
def Jl.putsE : Jl → List Ev → Int
  | _, [] => 0
  | j, e :: l => if j.putE (some e) ≠ 0 then j.putE (some e) else (j.put (some e)).putsE l
theorem Jl.puts_append (b : List Ev) : ∀ (a : List Ev) (j : Jl), j.putsE a = 0 → j.puts (a ++ b) = (j.puts a).puts b ∧ j.putsE (a ++ b) = (j.puts a).putsE b
  | [], _, _ => ⟨rfl, rfl⟩
  | e :: a, j, h => by
    unfold Jl.putsE at h
    by_cases h0 : j.putE (some e) ≠ 0
    · rw [if_pos h0] at h; exact absurd h h0
    · rw [if_neg h0] at h
      have ih := Jl.puts_append b a (j.put (some e)) h
      simp only [List.cons_append, Jl.puts, Jl.putsE, if_neg h0]
      exact ih
theorem Jl.puts_snoc (j : Jl) (a : List Ev) (e : Ev) (h : j.putsE a = 0) : j.puts (a ++ [e]) = (j.puts a).put (some e) ∧ j.putsE (a ++ [e]) = (j.puts a).putE (some e) := by
  have := Jl.puts_append [e] a j h
  refine ⟨this.1.trans ?_, this.2.trans ?_⟩
  · simp only [Jl.puts]; split <;> rfl
  · simp only [Jl.putsE]; split
    · rfl
    · next h0 => exact (Decidable.not_not.1 h0).symm
/-- a journal at which nothing goes wrong -/
structure Jl.Fine (j : Jl) : Prop where
  dark : j.dk.lit = false
  up : j.dk.down = false
  free : j.stuck = 0
  per1 : 1 ≤ j.per
  nm : j.name.length ≤ 24
  used0 : 0 ≤ j.dk.used
  used : j.dk.used ≤ 1300 * j.es.length
  fl : j.dk.files.length ≤ j.es.length + 1
  here : j.files ≠ 0 → (getB j.dk.files j.last).isSome = true
  small : j.files ≤ j.es.length + 1
theorem Jl.Fine.sync {j : Jl} (h : j.Fine) (hn : j.es.length < 100) : j.sync.Fine ∧ j.syncE = 0 ∧ j.sync.es = j.es ∧ j.sync.name = j.name ∧ j.sync.per = j.per ∧ j.sync.files = j.files ∧ j.sync.dk.used = j.dk.used := by
  unfold Jl.sync Jl.syncE
  by_cases h0 : j.files = 0
  · simp only [if_pos h0]; exact ⟨h, trivial, trivial, trivial, trivial, trivial, trivial⟩
  · have hs := h.small
    have hl := segF_len j.name (k := j.files - 1) (by omega)
    have ha : j.dk.asked j.last = 0 := Dk.asked_fine h.up hl.1 (by have := h.nm; unfold Jl.last; omega)
    have hf : j.dk.found j.last = 0 := by
      unfold Dk.found
      rw [ha, if_neg (by simp)]
      have := h.here h0
      rw [if_neg (by cases hg : getB j.dk.files j.last with | none => rw [hg] at this; cases this | some _ => simp)]
    have ⟨e1, e2⟩ := Dk.step_dark h.dark
    have hE : j.dk.syncE j.last = 0 := by unfold Dk.syncE; rw [if_neg (by simp [hf]), e2]; rfl
    simp only [if_neg h0]
    rw [if_neg (by simp [hE])]
    have hd : j.dk.sync j.last = j.dk.put j.last { j.dk.file j.last with lasts := (j.dk.file j.last).data.length, stays := true } := by
      unfold Dk.sync; rw [if_neg (by simp [hf]), e2, e1]; rfl
    refine ⟨⟨?_, ?_, h.free, h.per1, h.nm, ?_, ?_, ?_, ?_, h.small⟩, hE, rfl, rfl, rfl, rfl, ?_⟩
    · rw [hd]; exact h.dark
    · rw [hd]; exact h.up
    · rw [hd]; exact h.used0
    · rw [hd]; exact h.used
    · rw [hd]
      show (putB j.last _ j.dk.files).length ≤ j.es.length + 1
      exact Nat.le_trans (putB_length_here _ (h.here h0)) h.fl
    · intro _
      rw [hd]
      show (getB (putB j.last _ j.dk.files) j.last).isSome = true
      rw [getB_put_same]; rfl
    · rw [hd]; rfl
theorem Jl.Fine.pre {j : Jl} (h : j.Fine) (hn : j.es.length < 100) : j.pre.Fine ∧ j.preE = 0 ∧ j.pre.es = j.es ∧ j.pre.name = j.name ∧ j.pre.per = j.per ∧ j.pre.files = j.files ∧ j.pre.dk.used = j.dk.used := by
  unfold Jl.pre Jl.preE
  split
  · exact h.sync hn
  · exact ⟨h, rfl, rfl, rfl, rfl, rfl, rfl⟩
theorem Jl.Fine.put {j : Jl} (h : j.Fine) (hn : j.es.length < 100) (x : Option Ev) (hx : (bytesE x).length ≤ 1229) :
    (j.put x).Fine ∧ j.putE x = 0 ∧ (j.put x).es = j.es ++ [x] ∧ (j.put x).name = j.name ∧ (j.put x).per = j.per := by
  obtain ⟨hp, e0, e1, e2, e3, e4, e5⟩ := h.pre hn
  have hk : j.es.length / j.per ≤ j.es.length := Nat.div_le_self _ _
  have hl := segF_len j.name (k := j.es.length / j.per) (by omega)
  have hnm := h.nm
  have ha : j.pre.dk.asked j.seg = 0 := Dk.asked_fine hp.up hl.1 (by unfold Jl.seg; omega)
  have hsl : (sealE x).length ≤ 1239 := by unfold sealE; rw [Frm.sealB_length]; omega
  have hu := h.used
  have hfl := hp.fl
  rw [e1] at hfl
  have hfull : j.pre.dk.fullB j.seg (sealE x).length = false := by
    unfold Dk.fullB
    rw [Bool.or_eq_false_iff]
    refine ⟨?_, ?_⟩
    · rw [decide_eq_false_iff_not, e5]; omega
    · rw [Bool.and_eq_false_iff]; right; rw [decide_eq_false_iff_not]; omega
  have hE : j.pre.dk.appendE j.seg (sealE x) = 0 := by
    unfold Dk.appendE
    rw [if_neg (by simp [ha]), hfull, (Dk.step_dark hp.dark).2]; rfl
  have hd : j.pre.dk.append j.seg (sealE x) = { j.pre.dk.put j.seg { j.pre.dk.file j.seg with data := (j.pre.dk.file j.seg).data ++ sealE x } with used := j.pre.dk.used + (sealE x).length } := by
    unfold Dk.append
    rw [if_neg (by simp [ha]), hfull]
    exact (Dk.step_dark (d := { j.pre.dk.put j.seg { j.pre.dk.file j.seg with data := (j.pre.dk.file j.seg).data ++ sealE x } with used := j.pre.dk.used + (sealE x).length }) hp.dark).1
  have hput : j.put x = { j.pre with dk := j.pre.dk.append j.seg (sealE x), files := j.es.length / j.per + 1, es := j.es ++ [x] } := by
    unfold Jl.put
    rw [if_neg (by simp [e0]), if_neg (by simp [hE])]
  have hputE : j.putE x = 0 := by unfold Jl.putE; rw [if_neg (by simp [e0])]; exact hE
  refine ⟨?_, hputE, ?_, ?_, ?_⟩
  · rw [hput, hd]
    refine ⟨hp.dark, hp.up, hp.free, hp.per1, ?_, ?_, ?_, ?_, ?_, ?_⟩
    · show j.pre.name.length ≤ 24
      exact hp.nm
    · show 0 ≤ j.pre.dk.used + _
      have := hp.used0
      omega
    · show j.pre.dk.used + _ ≤ 1300 * _
      rw [e5]; simp only [List.length_append, List.length_cons, List.length_nil]; omega
    · show (putB j.seg _ j.pre.dk.files).length ≤ (j.es ++ [x]).length + 1
      refine Nat.le_trans (putB_length_le j.pre.dk.files j.seg _) ?_
      simp only [List.length_append, List.length_cons, List.length_nil]; omega
    · intro _
      show (getB (putB j.seg _ j.pre.dk.files) (segF j.pre.name (j.es.length / j.per + 1 - 1))).isSome = true
      have : segF j.pre.name (j.es.length / j.per + 1 - 1) = j.seg := by unfold Jl.seg; rw [e2]; rfl
      rw [this, getB_put_same]; rfl
    · show j.es.length / j.per + 1 ≤ (j.es ++ [x]).length + 1
      simp only [List.length_append, List.length_cons, List.length_nil]; omega
  · rw [hput]
  · rw [hput]; exact e2
  · rw [hput]; exact e3
theorem Jl.Fine.puts (l : List Ev) : ∀ {j : Jl}, j.Fine → j.es.length + l.length ≤ 100 → (∀ e ∈ l, (encE e).length ≤ 1229) → (j.puts l).Fine ∧ j.putsE l = 0 ∧ (j.puts l).es = j.es ++ l.map some ∧ (j.puts l).name = j.name ∧ (j.puts l).per = j.per := by
  induction l with
  | nil => intro j h _ _; exact ⟨h, rfl, by simp [Jl.puts], rfl, rfl⟩
  | cons e l ih =>
    intro j h hn hl
    simp only [List.length_cons] at hn
    obtain ⟨h1, h2, h3, h4, h5⟩ := h.put (by omega) (some e) (hl e (by simp))
    obtain ⟨a, b, c, d, f⟩ := ih h1 (by rw [h3]; simp; omega) (fun x hx => hl x (by simp [hx]))
    have h0 : ¬ j.putE (some e) ≠ 0 := by simp [h2]
    simp only [Jl.puts, Jl.putsE, if_neg h0]
    refine ⟨a, b, ?_, d.trans h4, f.trans h5⟩
    rw [c, h3]; simp
theorem Jl.fine_new (s : List UInt8) (per : Nat) (h : s.length ≤ 24) (hp : 1 ≤ per) : (Jl.new Dk.new s per).Fine :=
  ⟨rfl, rfl, rfl, hp, h, by simp [Jl.new, Dk.new], by simp [Jl.new, Dk.new], by simp [Jl.new, Dk.new], fun h => absurd rfl h, by simp [Jl.new]⟩
end Go.Proofs.YtejjfhhppjdcaaaGreatDoor
