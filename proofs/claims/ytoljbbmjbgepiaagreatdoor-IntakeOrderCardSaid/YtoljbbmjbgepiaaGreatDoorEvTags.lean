/-
  Layer 2: event.Tags.
-/
import Derived.Test.YtoljbbmjbgepiaaGreatDoorEvForget
import Derived.Test.YtoljbbmjbgepiaaGreatDoorShelf
import Derived.Test.YtoljbbmjbgepiaaGreatDoorStrs
namespace Go.Proofs.YtoljbbmjbgepiaaGreatDoor
open Go.RowKit Go.Maps Go.Sort

/-- the variable of internal/bytealg that strings.Index looks at holds a number -/
def MaxAt (w : World) : Prop := ∃ m, w.cell? ⟨0, 0, none⟩ = some (.int .i64 m)
theorem MaxAt.lt {w : World} (h : MaxAt w) : 0 < w.heap.size := by
  obtain ⟨m, h⟩ := h; exact World.block_lt_of_cell? w ⟨0, 0, none⟩ h
theorem MaxAt.below {w w' : World} {B : Nat} (h : MaxAt w) (hb : Below B w w') (hB : 0 < B) : MaxAt w' := by
  obtain ⟨m, h⟩ := h; exact ⟨m, (hb.cell (p := ⟨0, 0, none⟩) hB).trans h⟩
theorem MaxAt.up {w w' : World} (h : MaxAt w) (hb : Below w.heap.size w w') : MaxAt w' := h.below hb h.lt

def restL (s : List UInt8) : List UInt8 := (Lib.cut s [59]).2.1
def tagsL (s : List UInt8) : List (List UInt8) :=
  if (restL s).isEmpty then [] else (Lib.splitB ⟨#[44]⟩ 0 (Lib.countB ⟨(restL s).toArray⟩ ⟨#[44]⟩) ⟨(restL s).toArray⟩).map (fun b => b.data.toList)

theorem restL_length (s : List UInt8) : (restL s).length ≤ s.length := by
  unfold restL Lib.cut; split
  · simp
  · simp

theorem str_of (b : ByteArray) : (⟨b.data.toList.toArray⟩ : ByteArray) = b := by cases b; simp

theorem tags_any (w : World) (s : List UInt8) (hs : s.length ≤ 1000000000) (hm : MaxAt w) :
    Calls Tryz.prog 136 #[.string ⟨s.toArray⟩] w fun e w' => ∃ A c, e = .returned (.slice A (tagsL s).length c) ∧ Strs w' w'.heap.size A (tagsL s).length c (tagsL s) ∧ Below w.heap.size w w' := by
  obtain ⟨m, hmc⟩ := hm
  have HM := Lib.hid hmc; clear hmc
  have HR := Lib.hid (show (Lib.cut s [59]).2.1 = restL s from rfl)
  have hrl := restL_length s
  have HT := Lib.hid (show tagsL s = if (restL s).isEmpty then [] else (Lib.splitB ⟨#[44]⟩ 0 (Lib.countB ⟨(restL s).toArray⟩ ⟨#[44]⟩) ⟨(restL s).toArray⟩).map (fun b => b.data.toList) from rfl)
  go_enter Tryz.func136, Tryz.ntmps136
  go_wp2_with fail
  refine (Tryz.strings_Cut ⟨s.toArray⟩ ⟨#[59]⟩ m w (by simp [ByteArray.size]; omega) HM.out).mono ?_
  rintro q w1 ⟨rfl, n1, rfl⟩
  simp only
  rw [HR.out]
  generalize restL s = rest at *
  generalize (Lib.cut s [59]).1 = mk at *
  generalize (Lib.cut s [59]).2.2 = ok at *
  cases he : rest.isEmpty
  · go_wp2_with fail
    refine (Tryz.strings_Split ⟨rest.toArray⟩ ⟨#[44]⟩ m (w.drewN n1) (by simp [ByteArray.size]; omega) HM.out (by simp [ByteArray.size])).mono ?_
    rintro q w2 ⟨rfl, rfl⟩
    have hT := HT.out
    rw [he] at hT
    simp only [Bool.false_eq_true, if_false] at hT
    have hl : (tagsL s).length = Lib.countB ⟨rest.toArray⟩ ⟨#[44]⟩ + 1 := by
      rw [hT, List.length_map]
      exact (Lib.splitB_all ⟨#[44]⟩ (by simp [ByteArray.size]) 0 _ ⟨rest.toArray⟩ rfl)
    have hE : (Lib.splitB ⟨#[44]⟩ 0 (Lib.countB ⟨rest.toArray⟩ ⟨#[44]⟩) ⟨rest.toArray⟩).map Value.string = (tagsL s).map encStr := by
      rw [hT, List.map_map]
      refine List.map_congr_left fun b _ => ?_
      show Value.string b = .string ⟨b.data.toList.toArray⟩
      rw [str_of]
    have HL := Lib.hid hl; have HE := Lib.hid hE; clear hl hE hT
    have hcb : Lib.countB ⟨rest.toArray⟩ ⟨#[44]⟩ ≤ 1000000000 := by
      have := Lib.countB_le ⟨#[44]⟩ (by simp [ByteArray.size]) _ ⟨rest.toArray⟩ (Nat.le_refl _)
      simp [ByteArray.size] at this
      omega
    go_wp2
    go_ret
    refine ⟨some ⟨w.heap.size, 0, none⟩, Lib.countB ⟨rest.toArray⟩ ⟨#[44]⟩ + 1, by rw [HL.out]; rfl, ?_, ((below_drewN (Below.refl _ _) n1).alloc (by simp) _)⟩
    rw [HE.out, ← HL.out]
    have h := Cel.new (w.drewN n1) ((tagsL s).map encStr).toArray 9 (n := (tagsL s).length) (size := 1) (by rw [HL.out]; unfold maxLen; omega) (by simp)
    unfold Strs
    simpa using h
  · have hT := HT.out
    rw [he] at hT
    simp only [if_true] at hT
    have HTE := Lib.hid hT; clear hT
    go_wp2
    go_ret
    exact ⟨none, 0, by rw [HTE.out]; rfl, by rw [HTE.out]; exact Cel.nil _ _ _ _ _ (by unfold maxLen; omega), below_drewN (Below.refl _ _) n1⟩
end Go.Proofs.YtoljbbmjbgepiaaGreatDoor
