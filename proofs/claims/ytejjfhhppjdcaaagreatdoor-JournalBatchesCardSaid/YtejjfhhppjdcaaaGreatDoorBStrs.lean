/-
  Slices of texts in memory.
-/
import Derived.Test.YtejjfhhppjdcaaaGreatDoorBSets
namespace Go.Proofs.YtejjfhhppjdcaaaGreatDoor
open Go.RowKit Go.Maps Go.Sort

theorem str_info : (Tryz.prog.info? 9).map (fun i => (i.zero, i.size, i.bytes)) = some (some (.string ByteArray.empty), 1, 16) := by kernel_rfl

/-- the slice value 'A, n, c' reads as these texts -/
def Strs (w : World) (B : Nat) (A : Option Addr) (n c : Nat) (ss : List (List UInt8)) : Prop := Cel w B 1 A n c (ss.map encStr)
theorem Strs.len {w : World} {B n c : Nat} {A : Option Addr} {ss : List (List UInt8)} (h : Strs w B A n c ss) : ss.length = n := by
  have := Cel.len h; simpa using this
theorem Strs.at_ {w : World} {B n c : Nat} {A : Option Addr} {ss : List (List UInt8)} (h : Strs w B A n c ss) (k : Nat) (hk : k < ss.length) :
    ∃ b off, A = some ⟨b, off, none⟩ ∧ b < B ∧ w.cell? ⟨b, off + k, none⟩ = some (.string ⟨ss[k].toArray⟩) := by
  have hl := h.len
  obtain ⟨b, off, e, hb, hc⟩ := Cel.cell h (by omega)
  exact ⟨b, off, e, hb, hc k _ (by simp [hk, encStr])⟩

end Go.Proofs.YtejjfhhppjdcaaaGreatDoor
