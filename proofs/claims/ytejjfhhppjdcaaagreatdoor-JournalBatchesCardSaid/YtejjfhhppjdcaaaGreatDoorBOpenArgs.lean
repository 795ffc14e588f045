/-
  What a slice of bytes that came in reads as.
-/
import Derived.Test.YtejjfhhppjdcaaaGreatDoorBBase
import Derived.ProofKit
import Derived.OpenShut
import Derived.ShutString
import Derived.ChangeOld
namespace Go.Proofs.YtejjfhhppjdcaaaGreatDoor
open Go.RowKit Go.ChangeShapes Go.WideShapes Go.ChangeAt

theorem own : ownKnob Tryz.prog.godebug = none := by kernel_rfl
theorem laidOut : laidOutB Tryz.prog = true := by kernel_rfl

theorem byt_of_trod {H : Type} {enc : TypeId × Value → H} {W : World} {T E : TypeId} (hT : Tryz.prog.underlying T = some (.slice E)) (hE : Tryz.prog.underlying E = some (.int .u8)) (hc : Tryz.prog.cellsOf E = 1)
    {A : Option Addr} {n c : Nat} {x : DataW H × List MemPlace}
    (h : ∃ fuel, DataW.trod enc Tryz.prog W 0 (fun _ => true) true fuel T (Value.slice A n c).cells.toList = some x) : ∃ l, Byt W W.heap.size A n c l := by
  obtain ⟨fuel, hf⟩ := h
  rcases open_ints hT hE hc hf with ⟨hcs, _⟩ | ⟨x, l, c', zs, hcs, _, hl, hm, hz, _, hcell, hwz⟩
  · simp [Value.cells] at hcs
    obtain ⟨rfl, rfl, rfl⟩ := hcs
    exact ⟨[], Byt.nil _ _ _ _ (by unfold maxLen; omega)⟩
  · simp [Value.cells] at hcs
    obtain ⟨rfl, rfl, rfl⟩ := hcs
    have hz' : zs.length = c := by simpa using hz
    have hw8 : ∀ i, 0 ≤ zs.getD i 0 ∧ zs.getD i 0 < 256 := fun i => by
      by_cases hi : i < zs.length
      · have := hwz (zs[i]) (List.getElem_mem hi)
        have e : zs.getD i 0 = zs[i] := by simp [List.getD, hi]
        rw [e]
        have hb := this
        simp [Lit.wf, IntKind.min, IntKind.max, IntKind.signed, IntKind.bits] at hb
        omega
      · have e : zs.getD i 0 = 0 := by simp [List.getD, List.getElem?_eq_none (Nat.le_of_not_lt hi)]
        rw [e]; decide
    refine ⟨(zs.take n).map fun z => UInt8.ofNat z.toNat, by simp; omega, hl, hm, fun h0 => ?_⟩
    obtain ⟨b, off, spot⟩ := x
    have hc0 := hcell 0 (by omega)
    have hspot : spot = none := by simpa [Addr.add] using World.cell?_spot hc0
    subst hspot
    refine ⟨b, off, rfl, World.block_lt_of_cell? W ⟨b, off, none⟩ (by simpa [Addr.add] using hc0), fun i hi => ?_⟩
    have hi' : i < n := by simp at hi; omega
    have := hcell i (by omega)
    have hadd : (⟨b, off, none⟩ : Addr).add i = ⟨b, off + i, none⟩ := by unfold Addr.add; split <;> simp_all
    rw [hadd] at this
    rw [this]
    have h8 := hw8 i
    have e : zs.getD i 0 = zs[i]'(by omega) := by simp [List.getD, List.getElem?_eq_getElem (show i < zs.length by omega)]
    rw [e] at h8 ⊢
    simp
    omega
end Go.Proofs.YtejjfhhppjdcaaaGreatDoor
