/-
  Layer 8: Tick, Settled.
  Layer 8: deeds in memory; the laws' Heavy.
-/
import Derived.Test.YtgbagjpokpchpaaGreatDoorFItkNew
import Derived.Test.YtgbagjpokpchpaaGreatDoorFPplB
namespace Go.Proofs.YtgbagjpokpchpaaGreatDoor
open Go.RowKit Go.Maps Go.Sort

theorem itick_any (w : World) (F : Nat → Prop) (bi N : Nat) (x : Itk) (h : ItkAt w F bi N x) (now : Int) : Calls Tryz.prog 25 #[.pointer (some ⟨bi, 0, none⟩), .int .i64 now] w (OfferPost w F bi N (x.tick now) (x.tick now).clk.mark) := by
  obtain ⟨A, hM, hO, hnl, hng, hfoot, hFlt⟩ := h
  have HM := Lib.hid hM; have HO := Lib.hid hO; have HFO := Lib.hid hfoot; have HFL := Lib.hid hFlt
  obtain ⟨c0, c1, c2, c3, c4, c5, f2, f3, f4⟩ := hM.cells
  clear hM hO hfoot hFlt
  go_enter Tryz.func25, Tryz.ntmps25
  go_wp2_with fail
  refine (tick_any w A.bc A.bm x.clk HM.out.clk now).mono ?_
  rintro r w1 ⟨rfl, hc1, hk1⟩
  obtain ⟨hI1, _, hK1⟩ := ItkAt.setClk (N := N) (M := N) HM.out hnl hng (Nat.le_refl _) HFO.out HFL.out hc1 (hk1.mono (F := fun b => b = A.bc ∨ b = A.bm) (fun _ _ h => .inl h)) (HO.out.tick now)
  have HD := Lib.hid (show Deeds w F bi N (x.tick now) w1 from ⟨F, hI1, hK1, fun b hb => .inl hb⟩)
  clear hc1 hk1 hI1 hK1 c0 c1 c2 c3 c4 c5 f2 f3 f4
  go_wp2
  go_ret
  exact ⟨rfl, HD.out⟩

theorem settled1_any (w : World) (b1 b2 bi g off n c : Nat) (a : Ev) (m : Int) (k : Nat) (hk : k < n) (hc1 : w.cell? ⟨b1, 0, none⟩ = some (.pointer (some ⟨bi, 0, none⟩))) (hc2 : w.cell? ⟨bi, 2, none⟩ = some (.slice (some ⟨g, off, none⟩) n c))
    (ha : EvAt w g (off + k * 8) a) (hm : w.cell? ⟨b2, 0, none⟩ = some (.int .i64 m)) :
    Calls Tryz.prog 50 (#[.int .i64 k] ++ #[.pointer (some ⟨b1, 0, none⟩), .pointer (some ⟨b2, 0, none⟩)]) w (Says (decide (m < a.at_)) w) := by
  show Calls Tryz.prog 50 #[.int .i64 k, .pointer (some ⟨b1, 0, none⟩), .pointer (some ⟨b2, 0, none⟩)] w (Says (decide (m < a.at_)) w)
  obtain ⟨a0, a1, a2, a3, a4, a5, a6, a7⟩ := ha
  have hk' : (k : Int) < n := by omega
  go_enter Tryz.func50, Tryz.ntmps50
  go_wp2
  go_quiet (fail)
  go_wp2
  go_ret
  exact ⟨rfl, below_drewN (Below.refl _ _) _⟩

theorem evs_take {w : World} {B n c k : Nat} {A : Option Addr} {es : List Ev} (h : Evs w B A n c es) (hk : k ≤ n) : Evs w B A k c (es.take k) := by
  have hl := h.len
  refine ⟨by rw [evCells_length, List.length_take]; omega, Nat.le_trans hk (Cel.cap h), Cel.max h, fun h0 => ?_⟩
  obtain ⟨b, off, e, hb, hc⟩ := Cel.cell h (by omega)
  refine ⟨b, off, e, hb, fun i u hi => hc i u ?_⟩
  rw [← evCells_take, List.getElem?_take] at hi
  split at hi
  · exact hi
  · cases hi
theorem OwnE.down {w : World} {base base' : Nat} {v : Value} {l : List Ev} (h : OwnE w base v l) (hb : base' ≤ base) : OwnE w base' v l := by
  refine ⟨h.1, ?_⟩
  rcases h.2 with h' | ⟨g, cap, cur, e, hg, r⟩
  · exact .inl h'
  · exact .inr ⟨g, cap, cur, e, Nat.le_trans hb hg, r⟩
/-- k of them stand at most at the mark, and no other -/
def SetAt (l : List Ev) (m : Int) (k : Nat) : Prop := k ≤ l.length ∧ (∀ i (h : i < l.length), i < k → l[i].at_ ≤ m) ∧ ∀ i (h : i < l.length), k ≤ i → m < l[i].at_
def SettledPost (w : World) (x : Itk) (r : Ending) (w' : World) : Prop := ∃ k v, SetAt x.taken x.clk.mark k ∧ r = .returned v ∧ OwnE w' w.heap.size v (x.taken.take k) ∧ Below w.heap.size w w'

set_option maxRecDepth 100000 in
set_option maxHeartbeats 2000000 in
theorem settled_any (w : World) (F : Nat → Prop) (bi N : Nat) (x : Itk) (h : ItkAt w F bi N x) (hN : N ≤ 100000) : Calls Tryz.prog 26 #[.pointer (some ⟨bi, 0, none⟩)] w (SettledPost w x) := by
  obtain ⟨A, hM, hO, hnl, hng, hfoot, hFlt⟩ := h
  have HM := Lib.hid hM; have HO := Lib.hid hO
  have hlt : bi < w.heap.size := hM.lt (.inl rfl)
  have htl := hO.taken
  obtain ⟨B, cp, hvt, hcm⟩ := hM.taken.form
  unfold maxLen at hcm
  have hbA : Below w.heap.size w (w.alloc (.cells #[.pointer (some ⟨bi, 0, none⟩)] 31)) := (Below.refl _ _).alloc (Nat.le_refl _) _
  obtain ⟨c0, c1, c2, c3, c4, c5, f2, f3, f4⟩ := (hM.up hbA).cells
  rw [hvt] at c2
  clear hM hO hfoot hFlt
  go_enter Tryz.func26, Tryz.ntmps26
  go_wp2_with fail
  have hB1 : (w.alloc (.cells #[.pointer (some ⟨bi, 0, none⟩)] 31)).cell? ⟨w.heap.size, 0, none⟩ = some (.pointer (some ⟨bi, 0, none⟩)) := cell_of_row _ w.heap.size 0 _ _ (0, 0) (heap_alloc_new w _)
  have hsA : (w.alloc (.cells #[.pointer (some ⟨bi, 0, none⟩)] 31)).heap.size = w.heap.size + 1 := by simp
  have HM1 := Lib.hid (HM.out.up hbA)
  generalize w.alloc (.cells #[.pointer (some ⟨bi, 0, none⟩)] 31) = w1 at *
  refine (mark_any w1 A.bc A.bm x.clk HM1.out.clk).mono ?_
  rintro r w1' ⟨rfl, rfl⟩
  have hbi1 : bi < w1.heap.size := by omega
  have hw1 : w.heap.size < w1.heap.size := by omega
  go_wp2_with fail
  have hbB : Below w1.heap.size w1 (w1.alloc (.cells #[.int .i64 x.clk.mark] 3)) := (Below.refl _ _).alloc (Nat.le_refl _) _
  have HB2 := Lib.hid (show (w1.alloc (.cells #[.int .i64 x.clk.mark] 3)).cell? ⟨w.heap.size + 1, 0, none⟩ = some (.int .i64 x.clk.mark) by rw [← hsA]; exact cell_of_row _ w1.heap.size 0 _ _ (0, 0) (heap_alloc_new w1 _))
  have HB1 := Lib.hid ((hbB.cell (p := ⟨w.heap.size, 0, none⟩) hw1).trans hB1)
  have hsB : (w1.alloc (.cells #[.int .i64 x.clk.mark] 3)).heap.size = w1.heap.size + 1 := by simp
  have HM2 := Lib.hid (HM1.out.up hbB)
  have hbw2 : Below w.heap.size w (w1.alloc (.cells #[.int .i64 x.clk.mark] 3)) := hbA.trans (hbB.mono hbA.size)
  clear hbB c0 c1 c2 c3 c4 c5 f2 f3 f4 hB1 hbA
  generalize w1.alloc (.cells #[.int .i64 x.clk.mark] 3) = w2 at *
  have HEV := Lib.hid (show Evs w2 w2.heap.size B x.taken.length cp x.taken by have := HM2.out.taken; rw [hvt] at this; exact Cel.of_own this)
  have hc22 : w2.cell? ⟨bi, 2, none⟩ = some (.slice B x.taken.length cp) := by rw [← hvt]; exact HM2.out.cells.c2
  have HC22 := Lib.hid hc22
  clear hc22
  refine (search_any w2 50 #[.pointer (some ⟨w.heap.size, 0, none⟩), .pointer (some ⟨w.heap.size + 1, 0, none⟩)] x.taken.length (fun i => decide (x.clk.mark < (x.taken.getD i ⟨[], 0, 0, 0, [], [], 0, []⟩).at_)) (by omega) (fun _ _ => by kernel_rfl) ?_ ?_).mono ?_
  · intro w4 i hb4 hi
    obtain ⟨g, off, rfl, hg, hev⟩ := HEV.out.ev i hi
    have e' : x.taken.getD i ⟨[], 0, 0, 0, [], [], 0, []⟩ = x.taken[i] := by simp [List.getD, List.getElem?_eq_getElem hi]
    simp only [e']
    exact settled1_any w4 _ _ bi g off _ cp _ _ i hi ((hb4.cell (p := ⟨w.heap.size, 0, none⟩) (by show w.heap.size < _; omega)).trans HB1.out) ((hb4.cell (p := ⟨bi, 2, none⟩) (by show bi < _; omega)).trans HC22.out) (hev.below hb4 hg) ((hb4.cell (p := ⟨w.heap.size + 1, 0, none⟩) (by show w.heap.size + 1 < _; omega)).trans HB2.out)
  · intro i j hij hj hp
    simp only [List.getD, List.getElem?_eq_getElem hj, List.getElem?_eq_getElem (show i < x.taken.length by omega), Option.getD_some, decide_eq_true_eq] at *
    rcases Nat.lt_or_ge i j with hlt' | hge
    · have := (List.pairwise_iff_getElem.1 HO.out.sorted i j (by omega) hj hlt').at_; omega
    · have : i = j := by omega
      subst this; exact hp
  rintro r w3 ⟨k, rfl, hkl, h1, h2, hb3⟩
  have HP := Lib.hid (show SetAt x.taken x.clk.mark k from ⟨hkl, fun i hi hlt' => by
    have := h1 i hlt'
    simp only [List.getD, List.getElem?_eq_getElem hi, Option.getD_some, decide_eq_false_iff_not] at this
    omega, fun i hi hge => by
    have := h2 i hge hi
    simpa only [List.getD, List.getElem?_eq_getElem hi, Option.getD_some, decide_eq_true_eq] using this⟩)
  have hbw3 : Below w.heap.size w w3 := hbw2.trans (hb3.mono hbw2.size)
  have HM3 := Lib.hid (HM.out.up hbw3)
  have hb31 := (hb3.cell (p := ⟨w.heap.size, 0, none⟩) (by show w.heap.size < _; omega)).trans HB1.out
  have hc32 : w3.cell? ⟨bi, 2, none⟩ = some (.slice B x.taken.length cp) := by rw [← hvt]; exact HM3.out.cells.c2
  have HE3 := Lib.hid (show Evs w3 w3.heap.size B x.taken.length cp x.taken by have := HM3.out.taken; rw [hvt] at this; exact Cel.of_own this)
  clear h1 h2 hb3 hbw2
  have hkc : k ≤ cp := by have := Cel.cap HE3.out; omega
  have hBf : B = none ∨ ∃ g, B = some ⟨g, 0, none⟩ := by
    have := HM.out.taken
    rw [hvt] at this
    rcases this.2 with ⟨q, _⟩ | ⟨g, _, _, q, _⟩
    · left; injection q
    · right; exact ⟨g, by injection q⟩
  have HET := Lib.hid (show Evs w3 w3.heap.size B k cp (x.taken.take k) from evs_take HE3.out hkl)
  rcases hBf with rfl | ⟨g, rfl⟩
  · go_wp2_with fail
    refine (clone_any w3 none k cp (x.taken.take k) HET.out (by omega)).mono ?_
    rintro r w5 ⟨v, rfl, ho5, hb5⟩
    have HO5 := Lib.hid ho5
    have hbw5 : Below w.heap.size w w5 := hbw3.trans (hb5.mono hbw3.size)
    have hs3 := hbw3.size
    clear ho5 hb5 hb31 hc32
    go_wp2
    go_ret
    exact ⟨k, v, HP.out, rfl, HO5.out.down hs3, hbw5⟩
  · go_wp2_with fail
    refine (clone_any w3 (some ⟨g, 0, none⟩) k cp (x.taken.take k) HET.out (by omega)).mono ?_
    rintro r w5 ⟨v, rfl, ho5, hb5⟩
    have HO5 := Lib.hid ho5
    have hbw5 : Below w.heap.size w w5 := hbw3.trans (hb5.mono hbw3.size)
    have hs3 := hbw3.size
    clear ho5 hb5 hb31 hc32
    go_wp2
    go_ret
    exact ⟨k, v, HP.out, rfl, HO5.out.down hs3, hbw5⟩
end Go.Proofs.YtgbagjpokpchpaaGreatDoor
namespace Go.Proofs.YtgbagjpokpchpaaGreatDoor
open Go.RowKit Go.Maps Go.Sort

structure Dd where
  kind : Int
  e : Ev
  now : Int
  per : List UInt8
def Dd.cells (d : Dd) : List Value := .int .u8 d.kind :: (d.e.cells ++ [.int .i64 d.now, .string ⟨d.per.toArray⟩])
def ddCells (ds : List Dd) : List Value := ds.flatMap Dd.cells
theorem ddCells_length (ds : List Dd) : (ddCells ds).length = ds.length * 11 := by
  induction ds with
  | nil => rfl
  | cons e es ih => simp only [ddCells, List.flatMap_cons, List.length_append, List.length_cons] at *; rw [ih]; simp [Dd.cells, Ev.cells]; omega
theorem ddCells_get (ds : List Dd) (k j : Nat) (hk : k < ds.length) (hj : j < 11) : (ddCells ds)[k * 11 + j]? = ds[k].cells[j]? := by
  induction ds generalizing k with
  | nil => simp at hk
  | cons e es ih =>
    have hc : e.cells.length = 11 := rfl
    simp only [ddCells, List.flatMap_cons]
    cases k with
    | zero => rw [Nat.zero_mul, Nat.zero_add, List.getElem?_append_left (by omega)]; rfl
    | succ k =>
      rw [List.getElem?_append_right (by omega), hc, show (k + 1) * 11 + j - 11 = k * 11 + j by omega]
      exact ih k (by simpa using hk)
/-- the slice value 'A, n, c' reads as these deeds -/
def Dds (w : World) (B : Nat) (A : Option Addr) (n c : Nat) (ds : List Dd) : Prop := Cel w B 11 A n c (ddCells ds)
theorem Dds.len {w : World} {B n c : Nat} {A : Option Addr} {ds : List Dd} (h : Dds w B A n c ds) : ds.length = n := by
  have := Cel.len h; rw [ddCells_length] at this; omega
/-- a deed lies at this place -/
def DdAt (w : World) (b o : Nat) (d : Dd) : Prop := w.cell? ⟨b, o, none⟩ = some (.int .u8 d.kind) ∧ EvAt w b (o + 1) d.e ∧ w.cell? ⟨b, o + 9, none⟩ = some (.int .i64 d.now)
theorem Dds.at_ {w : World} {B n c : Nat} {A : Option Addr} {ds : List Dd} (h : Dds w B A n c ds) (k : Nat) (hk : k < ds.length) : ∃ b off, A = some ⟨b, off, none⟩ ∧ b < B ∧ DdAt w b (off + k * 11) ds[k] := by
  have hl := h.len
  obtain ⟨b, off, e, hb, hc⟩ := Cel.cell h (by omega)
  have key : ∀ j u, j < 11 → ds[k].cells[j]? = some u → w.cell? ⟨b, off + k * 11 + j, none⟩ = some u := fun j u hj hu => by
    rw [Nat.add_assoc]; exact hc _ u (by rw [ddCells_get ds k j hk hj, hu])
  have ev : ∀ j u, j < 8 → ds[k].e.cells[j]? = some u → w.cell? ⟨b, off + k * 11 + 1 + j, none⟩ = some u := fun j u hj hu => by
    rw [show off + k * 11 + 1 + j = off + k * 11 + (1 + j) by omega]
    refine key (1 + j) u (by omega) ?_
    unfold Dd.cells
    rw [show 1 + j = j + 1 by omega, List.getElem?_cons_succ, List.getElem?_append_left (by show j < 8; exact hj)]
    exact hu
  exact ⟨b, off, e, hb, key 0 _ (by omega) rfl, ⟨ev 0 _ (by omega) rfl, ev 1 _ (by omega) rfl, ev 2 _ (by omega) rfl, ev 3 _ (by omega) rfl, ev 4 _ (by omega) rfl, ev 5 _ (by omega) rfl, ev 6 _ (by omega) rfl, ev 7 _ (by omega) rfl⟩, key 9 _ (by omega) rfl⟩
theorem DdAt.below {w w' : World} {b o B : Nat} {d : Dd} (h : DdAt w b o d) (hb : Below B w w') (hB : b < B) : DdAt w' b o d :=
  ⟨(hb.cell (p := ⟨b, o, none⟩) hB).trans h.1, h.2.1.below hb hB, (hb.cell (p := ⟨b, o + 9, none⟩) hB).trans h.2.2⟩

def heavyB (ds : List Dd) (m : Int) : Bool := decide (m < ds.length) || ds.any (fun d => bigB d.e 300)
end Go.Proofs.YtgbagjpokpchpaaGreatDoor
