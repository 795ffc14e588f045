/-
  What a slice of slices of bytes that came in reads as.
-/
import Derived.Test.YtdnbejhaocpacaaOpenArgs
import Derived.Test.YtdnbejhaocpacaaFrmRows
import Derived.Deep.Slices
namespace Go.Proofs.Ytdnbejhaocpacaa
open Go.RowKit Go.ChangeShapes Go.WideShapes Go.ChangeAt

theorem byts_of_trod {H : Type} {enc : TypeId × Value → H} {W : World} {A : Option Addr} {n c : Nat} {x : DataW H × List MemPlace}
    (h : ∃ fuel, DataW.trod enc Try.prog W 0 (fun _ => true) true fuel 37 (Value.slice A n c).cells.toList = some x) : ∃ ls, Byts W W.heap.size A n c ls := by
  obtain ⟨fuel, hf⟩ := h
  rcases Deep.open_slice1 Try.underlying37 (by kernel_rfl) hf with ⟨hcs, _⟩ | ⟨a, len, cap, m, fl, V, D, Pl, hcs, _, hl, hm, hmm, _, hV⟩
  · simp [Value.cells] at hcs
    obtain ⟨rfl, rfl, rfl⟩ := hcs
    exact ⟨[], rfl, Nat.le_refl _, by unfold maxLen; omega, fun h => absurd h (by omega)⟩
  · simp [Value.cells] at hcs
    obtain ⟨rfl, rfl, rfl⟩ := hcs
    have hmc : m = c := by simpa using hmm
    have key : ∀ i, i < n → ∃ l : List UInt8, ∃ A' c', V i = .slice A' l.length c' ∧ Byt W W.heap.size A' l.length c' l := fun i hi => by
      obtain ⟨_, h2⟩ := hV i (by omega)
      have hform : ∃ A' n' c', V i = .slice A' n' c' := by
        rcases DataW.trod_slice Try.underlying22 h2 with ⟨e, _⟩ | ⟨a', l', c', _, _, _, _, e, _⟩
        · injection e with e; exact ⟨_, _, _, e⟩
        · injection e with e; exact ⟨_, _, _, e⟩
      obtain ⟨A', n', c', e⟩ := hform
      rw [e] at h2
      obtain ⟨l, hb⟩ := byt_of_trod Try.underlying22 Try.underlying5 (by kernel_rfl) (A := A') (n := n') (c := c') ⟨fl, by simpa [Value.cells] using h2⟩
      have := hb.len
      subst this
      exact ⟨l, A', c', e, hb⟩
    obtain ⟨f, hfk⟩ := Deep.choose_lt (α := List UInt8) (p := fun i l => ∃ A' c', V i = .slice A' l.length c' ∧ Byt W W.heap.size A' l.length c' l) key
    refine ⟨(List.range n).map f, by simp, hl, hm, fun h0 => ?_⟩
    obtain ⟨b, off, spot⟩ := a
    have hc0 := (hV 0 (by omega)).1
    have hspot : spot = none := by simpa [Addr.add] using World.cell?_spot hc0
    subst hspot
    refine ⟨b, off, rfl, World.block_lt_of_cell? W ⟨b, off, none⟩ (by simpa [Addr.add] using hc0), fun i hi => ?_⟩
    have hi' : i < n := by simpa using hi
    have hci := (hV i (by omega)).1
    have hadd : (⟨b, off, none⟩ : Addr).add i = ⟨b, off + i, none⟩ := by unfold Addr.add; split <;> simp_all
    rw [hadd] at hci
    obtain ⟨A', c', e, hb⟩ := hfk i hi'
    refine ⟨A', c', ?_, ?_⟩
    · rw [hci, e]; simp
    · simpa using hb
end Go.Proofs.Ytdnbejhaocpacaa
