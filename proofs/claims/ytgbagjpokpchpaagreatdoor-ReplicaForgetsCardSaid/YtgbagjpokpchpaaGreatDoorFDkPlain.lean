/-
  Layer 4, plain: a disk's files.
-/
import Derived.Test.YtgbagjpokpchpaaGreatDoorFMapS
namespace Go.Proofs.YtgbagjpokpchpaaGreatDoor
open Go.RowKit Go.Maps Go.Sort

/-- a file: its bytes, how many of them last, whether it stays -/
structure Fl where
  data : List UInt8
  lasts : Int
  stays : Bool
def Fl.none : Fl := ⟨[], 0, false⟩
structure Dk where
  files : Row Fl
  used : Int
  lit : Bool
  fuse : Int
  down : Bool
def Dk.new : Dk := ⟨[], 0, false, 0, false⟩
def Dk.file (d : Dk) (s : List UInt8) : Fl := (getB d.files s).getD Fl.none
/-- what is wrong with a name -/
def Dk.asked (d : Dk) (s : List UInt8) : Int := if d.down then 8 else if s.length < 1 ∨ 64 < s.length then 1 else 0
def Dk.found (d : Dk) (s : List UInt8) : Int := if d.asked s ≠ 0 then d.asked s else if (getB d.files s).isNone then 6 else 0
def Dk.fullB (d : Dk) (s : List UInt8) (more : Int) : Bool := decide (4194304 < d.used + more) || ((getB d.files s).isNone && decide (4096 ≤ d.files.length))
/-- the fuse burns -/
def Dk.step (d : Dk) : Dk := if d.lit then (if d.fuse = 0 then { d with down := true } else { d with fuse := d.fuse - 1 }) else d
def Dk.stepB (d : Dk) : Bool := !(d.lit && (d.fuse == 0))
def Dk.put (d : Dk) (s : List UInt8) (f : Fl) : Dk := { d with files := putB s f d.files }
def Dk.append (d : Dk) (s : List UInt8) (b : List UInt8) : Dk :=
  if d.asked s ≠ 0 then d else if d.fullB s b.length then d
  else ({ d.put s { d.file s with data := (d.file s).data ++ b } with used := d.used + b.length } : Dk).step
def Dk.appendE (d : Dk) (s : List UInt8) (b : List UInt8) : Int :=
  if d.asked s ≠ 0 then d.asked s else if d.fullB s b.length then 5 else if d.stepB then 0 else 8
def Dk.sync (d : Dk) (s : List UInt8) : Dk :=
  if d.found s ≠ 0 then d else if d.stepB then d.step.put s { d.file s with lasts := (d.file s).data.length, stays := true } else d.step
def Dk.syncE (d : Dk) (s : List UInt8) : Int := if d.found s ≠ 0 then d.found s else if d.stepB then 0 else 8
def Dk.replace (d : Dk) (s : List UInt8) (b : List UInt8) : Dk :=
  if d.asked s ≠ 0 then d else if d.fullB s (b.length - (d.file s).data.length) then d
  else if d.stepB then { d.step.put s ⟨b, b.length, true⟩ with used := d.used + (b.length - (d.file s).data.length) } else d.step
def Dk.replaceE (d : Dk) (s : List UInt8) (b : List UInt8) : Int :=
  if d.asked s ≠ 0 then d.asked s else if d.fullB s (b.length - (d.file s).data.length) then 5 else if d.stepB then 0 else 8
theorem Dk.asked_fine {d : Dk} {s : List UInt8} (h : d.down = false) (h1 : 1 ≤ s.length) (h2 : s.length ≤ 64) : d.asked s = 0 := by
  unfold Dk.asked
  rw [h, if_neg (by simp), if_neg (by omega)]
theorem Dk.step_dark {d : Dk} (h : d.lit = false) : d.step = d ∧ d.stepB = true := by
  unfold Dk.step Dk.stepB
  rw [h]; exact ⟨rfl, rfl⟩
theorem putB_length_here {α : Type} {m : Row α} {k : List UInt8} (v : α) (h : (getB m k).isSome = true) : (putB k v m).length ≤ m.length := by
  unfold putB
  rw [insB_length]
  have ⟨v', hv⟩ := Option.isSome_iff_exists.1 h
  have hm := getB_mem hv
  have : (m.filter fun p => !(p.1 == k)).length < m.length := by
    rw [List.length_filter_lt_length_iff_exists]
    exact ⟨_, hm, by simp⟩
  omega
end Go.Proofs.YtgbagjpokpchpaaGreatDoor
