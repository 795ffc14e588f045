/-
  Layer 5, plain: how many entries a crash leaves that leaves one number of bytes of each file.
-/
import Derived.Test.YtejjfhhppjdcaaaGreatDoorOCrPlain
namespace Go.Proofs.YtejjfhhppjdcaaaGreatDoor
open Go.RowKit Go.Maps Go.Sort

/-- bytes that are sure, and those that may be lost, of the last segment -/
def sureN (L : List (Option Ev)) (b m : Nat) : Nat := (bytesL ((L.take m).drop b)).length
def looseN (L : List (Option Ev)) (b m : Nat) : Nat := (bytesL (L.drop b)).length - sureN L b m
theorem sureN_le (L : List (Option Ev)) (b m : Nat) : sureN L b m ≤ (bytesL (L.drop b)).length := by
  unfold sureN
  rw [List.drop_take]; exact bytesL_take_le _ _
theorem sureN_none {L : List (Option Ev)} {b m : Nat} (h : m ≤ b) : sureN L b m = 0 := by
  unfold sureN; rw [List.drop_eq_nil_of_le (by rw [List.length_take]; omega)]; rfl
/-- how many are left -/
def keepN (L : List (Option Ev)) (b m : Nat) (keep : Int) : Nat := b + wholeB (L.drop b) (sureN L b m + (min (max keep 0) (looseN L b m : Int)).toNat)
theorem leftN_keep {j : Jl} (h : j.Good) (keep : Int) : leftN j.dk.files j.name j.per j.files j.lasts j.es (List.replicate j.dk.files.length keep) = keepN j.es (autoN j.es.length j.per) j.lasts keep := by
  have hi : DInv j.dk.files j.name j.per j.files j.es j.lasts := h.inv
  have hp := hi.per1
  have ha : (j.files - 1) * j.per = autoN j.es.length j.per := by rw [h.fc]; exact nseg_auto hp
  unfold leftN keepN
  by_cases h0 : j.files = 0
  · have hl := hi.last
    rw [h0] at hl
    have he : j.es = [] := List.eq_nil_of_length_eq_zero (by omega)
    rw [if_pos h0, he]
    rfl
  · obtain ⟨st, hg, _⟩ := hi.here (j.files - 1) (by omega)
    have hk := kOf_same keep j.dk.files j.dk.files.length (segF j.name (j.files - 1)) (Nat.le_refl _) ⟨_, getB_mem hg, rfl⟩
    have hs1 : segL j.per (j.files - 1) j.es = j.es.drop (autoN j.es.length j.per) := by
      rw [segL_last _ (by rw [show j.files - 1 + 1 = j.files by omega]; exact hi.last), ha]
    have hs2 : segL j.per (j.files - 1) (j.es.take j.lasts) = (j.es.take j.lasts).drop (autoN j.es.length j.per) := by
      rw [segL_last _ (by rw [show j.files - 1 + 1 = j.files by omega]; exact Nat.le_trans (by rw [List.length_take]; omega) hi.last), ha]
    have hle := sureN_le j.es (autoN j.es.length j.per) j.lasts
    have hq : keptB j.dk.files j.name j.per j.files j.lasts j.es (List.replicate j.dk.files.length keep) = sureN j.es (autoN j.es.length j.per) j.lasts + (min (max keep 0) (looseN j.es (autoN j.es.length j.per) j.lasts : Int)).toNat := by
      unfold keptB Fl.kept
      rw [hk, hs1, hs2]
      show (((sureN j.es (autoN j.es.length j.per) j.lasts : Nat) : Int) + min (max keep 0) (((bytesL (j.es.drop (autoN j.es.length j.per))).length : Int) - (sureN j.es (autoN j.es.length j.per) j.lasts : Nat))).toNat = _
      unfold looseN
      omega
    rw [if_neg h0, hq, ha, hs1]
end Go.Proofs.YtejjfhhppjdcaaaGreatDoor
