/-
  What a slice of deeds that came in reads as.
-/
import Derived.Test.YtnnkhgllfhpdpaaDoorOpenEvs
import Derived.Test.YtnnkhgllfhpdpaaDoorRefDd
namespace Go.Proofs.YtnnkhgllfhpdpaaDoor
open Go.RowKit Go.ChangeShapes Go.WideShapes Go.ChangeAt

theorem dd_cells : Tryd.prog.cellsOf 32 = 11 := by kernel_rfl
theorem dd_cu8 : Tryd.prog.cellsOf 5 = 1 := by kernel_rfl
instance : Inhabited Dd := ⟨⟨0, default, 0, []⟩⟩

set_option maxRecDepth 100000 in
theorem dd_of_trod {H : Type} {enc : TypeId × Value → H} {W : World} {base fuel : Nat} {sp : Nat → Bool} {held : Bool} {cs : List Value} {d : DataW H} {ps : List MemPlace}
    (h : DataW.trod enc Tryd.prog W base sp held fuel 32 cs = some (d, ps)) : ∃ e : Dd, cs = e.cells ∧ 0 ≤ e.kind ∧ e.kind ≤ 255 := by
  obtain ⟨xs, n, _, hx, hl, hlen, hf⟩ := DataW.trod_struct Tryd.underlying32 h
  rw [dd_cells] at hl
  match cs, hl with
  | [c0, c1, c2, c3, c4, c5, c6, c7, c8, c9, c10], _ =>
  match xs, hlen with
  | [x0, x1, x2, x3], _ =>
  have h0 := hf 0 _ rfl
  have h1 := hf 1 _ rfl
  have h2 := hf 2 _ rfl
  have h3 := hf 3 _ rfl
  set_option linter.unusedSimpArgs false in
  simp only [dd_cu8, ev_cells, ev_cstr, ev_cint, List.drop_succ_cons, List.drop_zero, List.take_succ_cons, List.take_zero, List.getElem?_cons_zero, List.getElem?_cons_succ] at h0 h1 h2 h3
  obtain ⟨n0, e0, rfl, w0⟩ := DataW.trod_int Tryd.underlying5 h0
  obtain ⟨ev, e1, _⟩ := ev_of_trod h1
  have e1' : [c1, c2, c3, c4, c5, c6, c7, c8] = ev.cells := e1
  obtain ⟨n2, e2, rfl, _⟩ := DataW.trod_int Tryd.underlying3 h2
  obtain ⟨s3, e3, rfl, _⟩ := DataW.trod_string Tryd.underlying9 h3
  injection e0 with e0; injection e2 with e2; injection e3 with e3
  subst e0 e2 e3
  refine ⟨⟨n0, ev, n2, s3.data.toList⟩, ?_, ?_⟩
  · unfold Dd.cells; rw [← e1']; simp
  · exact bounds_u8 w0

/-- the deeds of a slice that came in -/
theorem dds_of_trod {H : Type} {enc : TypeId × Value → H} {W : World} {A : Option Addr} {n c : Nat} {d : DataW H} {ps : List MemPlace}
    (h : DataW.Trod enc Tryd.prog W 0 (fun _ => true) true 22 (Value.slice A n c) d ps) (hz : ∀ m ∈ d.weights Tryd.prog 22, m ≤ reachBytes) :
    ∃ es, Dds W W.heap.size A n c es ∧ n ≤ 140737488355328 ∧ ∀ e ∈ es, 0 ≤ e.kind ∧ e.kind ≤ 255 := by
  obtain ⟨fuel, hf⟩ := h
  have hr : reachBytes ≤ 140737488355328 := by decide
  rcases Deep.open_slice Tryd.underlying22 hf with ⟨hcs, _⟩ | ⟨a, len, cap, m, fl, D, Pl, hcs, _, hl, hm, hmm, hx, hV⟩
  · simp [Value.cells] at hcs
    obtain ⟨rfl, rfl, rfl⟩ := hcs
    exact ⟨[], Cel.nil _ _ _ _ _ (by unfold maxLen; omega), by omega, fun e he => by cases he⟩
  · simp [Value.cells] at hcs
    obtain ⟨rfl, rfl, rfl⟩ := hcs
    have hmc : m = c := by simpa using hmm
    subst hmc
    injection hx with hd _
    rw [dd_cells] at hV
    have key : ∀ i, i < n → ∃ e : Dd, (∀ j, j < 11 → W.cell? ((a.add (i * 11)).add j) = e.cells[j]?) ∧ 0 ≤ e.kind ∧ e.kind ≤ 255 := fun i hi => by
      obtain ⟨cs, h1, h2⟩ := hV i (by omega)
      obtain ⟨_, _, h3⟩ := World.cells?_some h1
      obtain ⟨e, rfl, he⟩ := dd_of_trod h2
      exact ⟨e, h3, he⟩
    obtain ⟨f, hfk⟩ := Deep.choose_lt (α := Dd) (p := fun i e => (∀ j, j < 11 → W.cell? ((a.add (i * 11)).add j) = e.cells[j]?) ∧ 0 ≤ e.kind ∧ e.kind ≤ 255) key
    have hnn : n ≤ 140737488355328 := by
      have := hz ((((List.range n).map D).length + ((List.range (m - n)).map fun j => D (n + j)).length) * Tryd.prog.bytesOf 32) (by
        rw [hd, DataW.weights, Tryd.underlying22]
        exact List.mem_cons_self ..)
      have hb : Tryd.prog.bytesOf 32 = 128 := by kernel_rfl
      rw [hb] at this
      simp at this
      omega
    refine ⟨(List.range n).map f, ⟨by rw [ddCells_length]; simp, hl, hm, fun h0 => ?_⟩, hnn, fun e he => ?_⟩
    · obtain ⟨b, off, spot⟩ := a
      have hc0 := (hfk 0 h0).1 0 (by omega)
      have hspot : spot = none := by
        have := World.cell?_spot (hc0.trans (show (f 0).cells[0]? = some _ from rfl))
        simpa [Addr.add] using this
      subst hspot
      refine ⟨b, off, rfl, World.block_lt_of_cell? W ⟨b, off, none⟩ (u := .int .u8 (f 0).kind) ?_, fun i u hi => ?_⟩
      · simpa [add_none] using hc0.trans (show (f 0).cells[0]? = some _ from rfl)
      · have hil : i < n * 11 := by
          have := (List.getElem?_eq_some_iff.1 hi).1
          rw [ddCells_length] at this; simpa using this
        have e1 : i = (i / 11) * 11 + i % 11 := by omega
        have hq : i / 11 < ((List.range n).map f).length := by simp; omega
        rw [e1, ddCells_get _ (i / 11) (i % 11) hq (by omega)] at hi
        have hq' : i / 11 < n := by omega
        have := (hfk (i / 11) hq').1 (i % 11) (by omega)
        rw [add_none, add_none] at this
        have e2 : off + i = off + i / 11 * 11 + i % 11 := by omega
        rw [e2, this]
        simpa using hi
    · obtain ⟨i, hi, rfl⟩ := List.mem_map.1 he
      exact (hfk i (by simpa using hi)).2
end Go.Proofs.YtnnkhgllfhpdpaaDoor
