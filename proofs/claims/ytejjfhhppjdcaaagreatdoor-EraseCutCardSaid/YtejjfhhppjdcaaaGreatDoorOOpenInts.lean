/-
  What a slice of ints that came in reads as.
-/
import Derived.Test.YtejjfhhppjdcaaaGreatDoorOOpenDjs
import Derived.Test.YtejjfhhppjdcaaaGreatDoorORJl1
namespace Go.Proofs.YtejjfhhppjdcaaaGreatDoor
open Go.RowKit Go.ChangeShapes Go.WideShapes Go.ChangeAt

theorem ints_of_trod {H : Type} {enc : TypeId × Value → H} {W : World} {T E : TypeId} (hT : Tryz.prog.underlying T = some (.slice E)) (hE : Tryz.prog.underlying E = some (.int .i64)) (hc : Tryz.prog.cellsOf E = 1)
    {A : Option Addr} {n c : Nat} {x : DataW H × List MemPlace}
    (h : ∃ fuel, DataW.trod enc Tryz.prog W 0 (fun _ => true) true fuel T (Value.slice A n c).cells.toList = some x) : ∃ l, Ints W W.heap.size A n c l := by
  obtain ⟨fuel, hf⟩ := h
  rcases open_ints hT hE hc hf with ⟨hcs, _⟩ | ⟨x, l, c', zs, hcs, _, hl, hm, hz, _, hcell, hwz⟩
  · simp [Value.cells] at hcs
    obtain ⟨rfl, rfl, rfl⟩ := hcs
    exact ⟨[], Cel.nil _ _ _ _ _ (by unfold maxLen; omega)⟩
  · simp [Value.cells] at hcs
    obtain ⟨rfl, rfl, rfl⟩ := hcs
    have hz' : zs.length = c := by simpa using hz
    refine ⟨zs.take n, ⟨by unfold intVs; rw [List.length_map, List.length_take]; omega, hl, hm, fun h0 => ?_⟩⟩
    obtain ⟨b, off, spot⟩ := x
    have hc0 := hcell 0 (by omega)
    have hspot : spot = none := by simpa [Addr.add] using World.cell?_spot hc0
    subst hspot
    refine ⟨b, off, rfl, World.block_lt_of_cell? W ⟨b, off, none⟩ (by simpa [Addr.add] using hc0), fun i u hi => ?_⟩
    unfold intVs at hi
    rw [List.getElem?_map] at hi
    have hi' : i < n := by
      refine Decidable.byContradiction fun hc => ?_
      rw [List.getElem?_eq_none (by rw [List.length_take]; omega)] at hi
      cases hi
    have := hcell i (by omega)
    have hadd : (⟨b, off, none⟩ : Addr).add i = ⟨b, off + i, none⟩ := by unfold Addr.add; split <;> simp_all
    rw [hadd] at this
    rw [this]
    have e : zs.getD i 0 = zs[i]'(by omega) := by simp [List.getD, List.getElem?_eq_getElem (show i < zs.length by omega)]
    rw [List.getElem?_take_of_lt hi', List.getElem?_eq_getElem (by omega)] at hi
    rw [e]
    exact hi
end Go.Proofs.YtejjfhhppjdcaaaGreatDoor
