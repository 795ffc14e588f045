/-
  Layer 8: New, Tick, Mark, Taken.
  Layer 8: Tick, Settled.
  Layer 8: deeds in memory; the laws' Heavy.
  Layer 8: the laws' lives.
-/
import Derived.Test.YtoljbbmjbgepiaaGreatDoorMItkOffer
import Derived.WalkSpells
import Derived.Test.YtoljbbmjbgepiaaGreatDoorMRef02
namespace Go.Proofs.YtoljbbmjbgepiaaGreatDoor
open Go.RowKit Go.Maps Go.Sort

def ItkNewPost (w : World) (x : Itk) (r : Ending) (w' : World) : Prop := ∃ bi F, r = .returned (.pointer (some ⟨bi, 0, none⟩)) ∧ ItkAt w' F bi 0 x ∧ Below w.heap.size w w' ∧ ∀ b, F b → w.heap.size ≤ b

set_option maxRecDepth 100000 in
set_option maxHeartbeats 1000000 in
theorem itknew_any (w : World) (slack idle : Int) : Calls Tryz.prog 20 #[.int .i64 slack, .int .i64 idle] w (ItkNewPost w (Itk.new slack idle)) := by
  have hmm := @run_makeMap Tryz.prog
  go_enter Tryz.func20, Tryz.ntmps20
  go_wp2_with fail
  refine (clknew_any w slack idle).mono ?_
  rintro r w1 ⟨bc, bm, rfl, hc1, hbc, hbm, hb1⟩
  have HC1 := Lib.hid hc1
  have hs1 := hb1.size
  clear hc1
  go_wp2_with fail
  refine (hadnew_any w1).mono ?_
  rintro r w2 ⟨bs, bh, rfl, hh2, hbs, hbh, hb2⟩
  have HH2 := Lib.hid hh2
  have HC2 := Lib.hid (HC1.out.up hb2)
  have hs2 := hb2.size
  have hbw : Below w.heap.size w w2 := hb1.trans (hb2.mono hs1)
  have hcl := HC2.out.lt
  have hml := HC2.out.map.lt
  have hcl1 := HC1.out.lt
  have hml1 := HC1.out.map.lt
  have hsl := hh2.lt bs (.inl rfl)
  have hhl := hh2.lt bh (.inr rfl)
  clear hh2 hb1 hb2
  go_wp2
  go_ret
  have hbl : Below w2.heap.size w2 (((w2.alloc (.map #[] 0)).alloc (.map #[] 0)).alloc (itkObj ⟨bc, bm, bs, bh, fun b => b = bs ∨ b = bh, fun _ => .slice none 0 0, .slice none 0 0, .slice none 0 0, w2.heap.size, 0, w2.heap.size + 1, 0⟩)) := (((Below.refl _ _).alloc (Nat.le_refl _) _).alloc (by simp) _).alloc (by simp; omega) _
  have hsz : (((w2.alloc (.map #[] 0)).alloc (.map #[] 0)).alloc (itkObj ⟨bc, bm, bs, bh, fun b => b = bs ∨ b = bh, fun _ => .slice none 0 0, .slice none 0 0, .slice none 0 0, w2.heap.size, 0, w2.heap.size + 1, 0⟩)).heap.size = w2.heap.size + 3 := by simp
  refine ⟨w2.heap.size + 2, fun b => w.heap.size ≤ b ∧ b < w2.heap.size + 3, rfl, ⟨⟨bc, bm, bs, bh, fun b => b = bs ∨ b = bh, fun _ => .slice none 0 0, .slice none 0 0, .slice none 0 0, w2.heap.size, 0, w2.heap.size + 1, 0⟩, ⟨?_, HC2.out.up hbl, HH2.out.up hbl, World.ownsRow_nil _ _ _ _, World.ownsRow_nil _ _ _ _, ?_, ?_, ?_, ?_, ?_, ?_, ?_, ?_, ?_⟩, ItkOk.new slack idle, Nat.le_refl _, Nat.le_refl _, ?_, ?_⟩, hbw.trans (hbl.mono hbw.size), fun b hb => hb.1⟩
  · have := heap_alloc_new ((w2.alloc (.map #[] 0)).alloc (.map #[] 0)) (itkObj ⟨bc, bm, bs, bh, fun b => b = bs ∨ b = bh, fun _ => .slice none 0 0, .slice none 0 0, .slice none 0 0, w2.heap.size, 0, w2.heap.size + 1, 0⟩)
    simpa using this
  · refine (SetI.made w2).block ?_
    show (((w2.alloc (.map #[] 0)).alloc (.map #[] 0)).alloc _).heap[w2.heap.size]? = _
    rw [Below.heap_alloc _ _ _ (by simp; omega), Below.heap_alloc _ _ _ (by simp)]
  · have := SetB.made (w2.alloc (.map #[] 0))
    have e : (w2.alloc (.map #[] 0)).heap.size = w2.heap.size + 1 := by simp
    rw [e] at this
    exact this.block (Below.heap_alloc _ _ _ (by simp))
  · show bm ≠ w2.heap.size; omega
  · show bm ≠ w2.heap.size + 1; omega
  · show w2.heap.size ≠ w2.heap.size + 1; omega
  · show ¬ (bm = bs ∨ bm = bh); omega
  · show ¬ (w2.heap.size = bs ∨ w2.heap.size = bh); omega
  · show ¬ (w2.heap.size + 1 = bs ∨ w2.heap.size + 1 = bh); omega
  · intro b hb; cases hb
  · intro b hb
    rcases hb with hb | hb | hb | hb | hb | hb | hb | hb
    · exact ⟨by omega, by omega⟩
    · have hb' : b = bc := hb
      exact ⟨by omega, by omega⟩
    · have hb' : b = bm := hb
      exact ⟨by omega, by omega⟩
    · have hb' : b = bs ∨ b = bh := hb
      exact ⟨by omega, by omega⟩
    · cases hb
    · cases hb
    · have hb' : b = w2.heap.size := hb
      exact ⟨by omega, by omega⟩
    · have hb' : b = w2.heap.size + 1 := hb
      exact ⟨by omega, by omega⟩
  · intro b hb; rw [hsz]; exact hb.2

theorem imark_any (w : World) (F : Nat → Prop) (bi N : Nat) (x : Itk) (h : ItkAt w F bi N x) : Calls Tryz.prog 45 #[.pointer (some ⟨bi, 0, none⟩)] w fun r w' => r = .returned (.int .i64 x.clk.mark) ∧ w = w' := by
  obtain ⟨A, hM, _⟩ := h
  have HM := Lib.hid hM
  obtain ⟨c0, c1, c2, c3, c4, c5, f2, f3, f4⟩ := hM.cells
  clear hM
  go_enter Tryz.func45, Tryz.ntmps45
  go_wp2_with fail
  refine (mark_any w A.bc A.bm x.clk HM.out.clk).mono ?_
  rintro r w1 ⟨rfl, rfl⟩
  go_wp2
  go_ret
  exact ⟨rfl, rfl⟩

/-- a new slice of the call's own that holds just these events -/
def OwnPost (w : World) (l : List Ev) (r : Ending) (w' : World) : Prop := ∃ v, r = .returned v ∧ OwnE w' w.heap.size v l ∧ Below w.heap.size w w'
set_option maxRecDepth 100000 in
theorem clone_any (w : World) (B : Option Addr) (n c : Nat) (es : List Ev) (h : Evs w w.heap.size B n c es) (hn : n ≤ 200000) : Calls Tryz.prog 46 #[.slice B n c] w (OwnPost w es) := by
  have q22 : ∀ (w : World) (a : Option Addr) (n c n' c' : Nat), (binOp .eql 22 (.slice a n c) (.slice none n' c')).run Tryz.prog w = .ok (.bool a.isNone) w := fun w a n c n' c' => Lib.run_eql_slice_nil w _ _ a n c n' c' Tryz.underlying22
  have HH := Lib.hid h; clear h
  have hlen := HH.out.len
  obtain ⟨i0, hi0, hz0, hzs, hzb⟩ := info_parts ev_info
  have HI := Lib.hid hi0; have HZ0 := Lib.hid hz0; have HZ1 := Lib.hid hzs; have HZ2 := Lib.hid hzb; have HLE := Lib.hid hlen
  clear hi0 hz0 hzs hzb hlen
  cases B with
  | none =>
    have h0 : n = 0 := by
      rcases Nat.eq_zero_or_pos n with h | h
      · exact h
      · obtain ⟨b, off, q, _⟩ := Cel.cell HH.out h; cases q
    have HE := Lib.hid (show es = [] from List.eq_nil_of_length_eq_zero (by rw [HLE.out, h0]))
    subst h0
    go_enter Tryz.func46, Tryz.ntmps46
    go_wp2
    go_ret
    exact ⟨_, rfl, by rw [HE.out]; exact World.ownsRow_nil _ _ _ _, Below.refl _ _⟩
  | some a =>
    have hb0 : Below w.heap.size w (w.alloc (.cells #[] 28)) := (Below.refl _ _).alloc (Nat.le_refl _) _
    go_enter Tryz.func46, Tryz.ntmps46
    go_wp2_with (at_builtin; refine wpList_app (P := Tryz.prog) rfl (.tmp 5) (.tmp 6) 22 rfl 28 i0 _ 8 96 Tryz.underlying22 HI.out HZ0.out HZ1.out HZ2.out rfl (by decide) w.heap.size _ 0 [] rfl ?c1 w.heap.size _ n c (evCells es) rfl ?c2 ?c3 ?c4 ?c5 ?c6 ?_)
    case c1 => exact ⟨rfl, .inr ⟨w.heap.size, 0, #[], rfl, Nat.le_refl _, heap_alloc_new w _, Nat.le_refl _, Nat.zero_le _, rfl, rfl⟩⟩
    case c2 => exact Cel.below HH.out hb0
    case c3 =>
      intro u hu
      simp only [evCells, List.mem_flatMap] at hu
      obtain ⟨y, _, hy⟩ := hu
      exact cells_one y u hy
    case c4 => unfold maxLen; omega
    case c5 => omega
    case c6 => simp
    intro v' w2 ho2 hg2 _
    have HO2 := Lib.hid ho2
    have hbl : Below w.heap.size w w2 := hb0.grown hg2 (by simp) (fun k hk => by simp [Value.ownBlock] at hk; omega)
    clear ho2 hg2
    go_wp2
    go_ret
    refine ⟨v', rfl, ?_, hbl⟩
    unfold OwnE
    rw [HLE.out]
    have := HO2.out
    simpa using this
end Go.Proofs.YtoljbbmjbgepiaaGreatDoor
namespace Go.Proofs.YtoljbbmjbgepiaaGreatDoor
open Go.RowKit Go.Maps Go.Sort

theorem itick_any (w : World) (F : Nat → Prop) (bi N : Nat) (x : Itk) (h : ItkAt w F bi N x) (now : Int) : Calls Tryz.prog 106 #[.pointer (some ⟨bi, 0, none⟩), .int .i64 now] w (OfferPost w F bi N (x.tick now) (x.tick now).clk.mark) := by
  obtain ⟨A, hM, hO, hnl, hng, hfoot, hFlt⟩ := h
  have HM := Lib.hid hM; have HO := Lib.hid hO; have HFO := Lib.hid hfoot; have HFL := Lib.hid hFlt
  obtain ⟨c0, c1, c2, c3, c4, c5, f2, f3, f4⟩ := hM.cells
  clear hM hO hfoot hFlt
  go_enter Tryz.func106, Tryz.ntmps106
  go_wp2_with fail
  refine (tick_any w A.bc A.bm x.clk HM.out.clk now).mono ?_
  rintro r w1 ⟨rfl, hc1, hk1⟩
  obtain ⟨hI1, _, hK1⟩ := ItkAt.setClk (N := N) (M := N) HM.out hnl hng (Nat.le_refl _) HFO.out HFL.out hc1 (hk1.mono (F := fun b => b = A.bc ∨ b = A.bm) (fun _ _ h => .inl h)) (HO.out.tick now)
  have HD := Lib.hid (show Deeds w F bi N (x.tick now) w1 from ⟨F, hI1, hK1, fun b hb => .inl hb⟩)
  clear hc1 hk1 hI1 hK1 c0 c1 c2 c3 c4 c5 f2 f3 f4
  go_wp2
  go_ret
  exact ⟨rfl, HD.out⟩

theorem settled1_any (w : World) (b1 b2 bi g off n c : Nat) (a : Ev) (m : Int) (k : Nat) (hk : k < n) (hc1 : w.cell? ⟨b1, 0, none⟩ = some (.pointer (some ⟨bi, 0, none⟩))) (hc2 : w.cell? ⟨bi, 2, none⟩ = some (.slice (some ⟨g, off, none⟩) n c))
    (ha : EvAt w g (off + k * 8) a) (hm : w.cell? ⟨b2, 0, none⟩ = some (.int .i64 m)) :
    Calls Tryz.prog 110 (#[.int .i64 k] ++ #[.pointer (some ⟨b1, 0, none⟩), .pointer (some ⟨b2, 0, none⟩)]) w (Says (decide (m < a.at_)) w) := by
  show Calls Tryz.prog 110 #[.int .i64 k, .pointer (some ⟨b1, 0, none⟩), .pointer (some ⟨b2, 0, none⟩)] w (Says (decide (m < a.at_)) w)
  obtain ⟨a0, a1, a2, a3, a4, a5, a6, a7⟩ := ha
  have hk' : (k : Int) < n := by omega
  go_enter Tryz.func110, Tryz.ntmps110
  go_wp2
  go_quiet (fail)
  go_wp2
  go_ret
  exact ⟨rfl, below_drewN (Below.refl _ _) _⟩

theorem evs_take {w : World} {B n c k : Nat} {A : Option Addr} {es : List Ev} (h : Evs w B A n c es) (hk : k ≤ n) : Evs w B A k c (es.take k) := by
  have hl := h.len
  refine ⟨by rw [evCells_length, List.length_take]; omega, Nat.le_trans hk (Cel.cap h), Cel.max h, fun h0 => ?_⟩
  obtain ⟨b, off, e, hb, hc⟩ := Cel.cell h (by omega)
  refine ⟨b, off, e, hb, fun i u hi => hc i u ?_⟩
  rw [← evCells_take, List.getElem?_take] at hi
  split at hi
  · exact hi
  · cases hi
theorem OwnE.down {w : World} {base base' : Nat} {v : Value} {l : List Ev} (h : OwnE w base v l) (hb : base' ≤ base) : OwnE w base' v l := by
  refine ⟨h.1, ?_⟩
  rcases h.2 with h' | ⟨g, cap, cur, e, hg, r⟩
  · exact .inl h'
  · exact .inr ⟨g, cap, cur, e, Nat.le_trans hb hg, r⟩
/-- k of them stand at most at the mark, and no other -/
def SetAt (l : List Ev) (m : Int) (k : Nat) : Prop := k ≤ l.length ∧ (∀ i (h : i < l.length), i < k → l[i].at_ ≤ m) ∧ ∀ i (h : i < l.length), k ≤ i → m < l[i].at_
def SettledPost (w : World) (x : Itk) (r : Ending) (w' : World) : Prop := ∃ k v, SetAt x.taken x.clk.mark k ∧ r = .returned v ∧ OwnE w' w.heap.size v (x.taken.take k) ∧ Below w.heap.size w w'

set_option maxRecDepth 100000 in
set_option maxHeartbeats 2000000 in
theorem settled_any (w : World) (F : Nat → Prop) (bi N : Nat) (x : Itk) (h : ItkAt w F bi N x) (hN : N ≤ 100000) : Calls Tryz.prog 70 #[.pointer (some ⟨bi, 0, none⟩)] w (SettledPost w x) := by
  obtain ⟨A, hM, hO, hnl, hng, hfoot, hFlt⟩ := h
  have HM := Lib.hid hM; have HO := Lib.hid hO
  have hlt : bi < w.heap.size := hM.lt (.inl rfl)
  have htl := hO.taken
  obtain ⟨B, cp, hvt, hcm⟩ := hM.taken.form
  unfold maxLen at hcm
  have hbA : Below w.heap.size w (w.alloc (.cells #[.pointer (some ⟨bi, 0, none⟩)] 29)) := (Below.refl _ _).alloc (Nat.le_refl _) _
  obtain ⟨c0, c1, c2, c3, c4, c5, f2, f3, f4⟩ := (hM.up hbA).cells
  rw [hvt] at c2
  clear hM hO hfoot hFlt
  go_enter Tryz.func70, Tryz.ntmps70
  go_wp2_with fail
  have hB1 : (w.alloc (.cells #[.pointer (some ⟨bi, 0, none⟩)] 29)).cell? ⟨w.heap.size, 0, none⟩ = some (.pointer (some ⟨bi, 0, none⟩)) := cell_of_row _ w.heap.size 0 _ _ (0, 0) (heap_alloc_new w _)
  have hsA : (w.alloc (.cells #[.pointer (some ⟨bi, 0, none⟩)] 29)).heap.size = w.heap.size + 1 := by simp
  have HM1 := Lib.hid (HM.out.up hbA)
  generalize w.alloc (.cells #[.pointer (some ⟨bi, 0, none⟩)] 29) = w1 at *
  refine (mark_any w1 A.bc A.bm x.clk HM1.out.clk).mono ?_
  rintro r w1' ⟨rfl, rfl⟩
  have hbi1 : bi < w1.heap.size := by omega
  have hw1 : w.heap.size < w1.heap.size := by omega
  go_wp2_with fail
  have hbB : Below w1.heap.size w1 (w1.alloc (.cells #[.int .i64 x.clk.mark] 3)) := (Below.refl _ _).alloc (Nat.le_refl _) _
  have HB2 := Lib.hid (show (w1.alloc (.cells #[.int .i64 x.clk.mark] 3)).cell? ⟨w.heap.size + 1, 0, none⟩ = some (.int .i64 x.clk.mark) by rw [← hsA]; exact cell_of_row _ w1.heap.size 0 _ _ (0, 0) (heap_alloc_new w1 _))
  have HB1 := Lib.hid ((hbB.cell (p := ⟨w.heap.size, 0, none⟩) hw1).trans hB1)
  have hsB : (w1.alloc (.cells #[.int .i64 x.clk.mark] 3)).heap.size = w1.heap.size + 1 := by simp
  have HM2 := Lib.hid (HM1.out.up hbB)
  have hbw2 : Below w.heap.size w (w1.alloc (.cells #[.int .i64 x.clk.mark] 3)) := hbA.trans (hbB.mono hbA.size)
  clear hbB c0 c1 c2 c3 c4 c5 f2 f3 f4 hB1 hbA
  generalize w1.alloc (.cells #[.int .i64 x.clk.mark] 3) = w2 at *
  have HEV := Lib.hid (show Evs w2 w2.heap.size B x.taken.length cp x.taken by have := HM2.out.taken; rw [hvt] at this; exact Cel.of_own this)
  have hc22 : w2.cell? ⟨bi, 2, none⟩ = some (.slice B x.taken.length cp) := by rw [← hvt]; exact HM2.out.cells.c2
  have HC22 := Lib.hid hc22
  clear hc22
  refine (search_any w2 110 #[.pointer (some ⟨w.heap.size, 0, none⟩), .pointer (some ⟨w.heap.size + 1, 0, none⟩)] x.taken.length (fun i => decide (x.clk.mark < (x.taken.getD i ⟨[], 0, 0, 0, [], [], 0, []⟩).at_)) (by omega) (fun _ _ => by kernel_rfl) ?_ ?_).mono ?_
  · intro w4 i hb4 hi
    obtain ⟨g, off, rfl, hg, hev⟩ := HEV.out.ev i hi
    have e' : x.taken.getD i ⟨[], 0, 0, 0, [], [], 0, []⟩ = x.taken[i] := by simp [List.getD, List.getElem?_eq_getElem hi]
    simp only [e']
    exact settled1_any w4 _ _ bi g off _ cp _ _ i hi ((hb4.cell (p := ⟨w.heap.size, 0, none⟩) (by show w.heap.size < _; omega)).trans HB1.out) ((hb4.cell (p := ⟨bi, 2, none⟩) (by show bi < _; omega)).trans HC22.out) (hev.below hb4 hg) ((hb4.cell (p := ⟨w.heap.size + 1, 0, none⟩) (by show w.heap.size + 1 < _; omega)).trans HB2.out)
  · intro i j hij hj hp
    simp only [List.getD, List.getElem?_eq_getElem hj, List.getElem?_eq_getElem (show i < x.taken.length by omega), Option.getD_some, decide_eq_true_eq] at *
    rcases Nat.lt_or_ge i j with hlt' | hge
    · have := (List.pairwise_iff_getElem.1 HO.out.sorted i j (by omega) hj hlt').at_; omega
    · have : i = j := by omega
      subst this; exact hp
  rintro r w3 ⟨k, rfl, hkl, h1, h2, hb3⟩
  have HP := Lib.hid (show SetAt x.taken x.clk.mark k from ⟨hkl, fun i hi hlt' => by
    have := h1 i hlt'
    simp only [List.getD, List.getElem?_eq_getElem hi, Option.getD_some, decide_eq_false_iff_not] at this
    omega, fun i hi hge => by
    have := h2 i hge hi
    simpa only [List.getD, List.getElem?_eq_getElem hi, Option.getD_some, decide_eq_true_eq] using this⟩)
  have hbw3 : Below w.heap.size w w3 := hbw2.trans (hb3.mono hbw2.size)
  have HM3 := Lib.hid (HM.out.up hbw3)
  have hb31 := (hb3.cell (p := ⟨w.heap.size, 0, none⟩) (by show w.heap.size < _; omega)).trans HB1.out
  have hc32 : w3.cell? ⟨bi, 2, none⟩ = some (.slice B x.taken.length cp) := by rw [← hvt]; exact HM3.out.cells.c2
  have HE3 := Lib.hid (show Evs w3 w3.heap.size B x.taken.length cp x.taken by have := HM3.out.taken; rw [hvt] at this; exact Cel.of_own this)
  clear h1 h2 hb3 hbw2
  have hkc : k ≤ cp := by have := Cel.cap HE3.out; omega
  have hBf : B = none ∨ ∃ g, B = some ⟨g, 0, none⟩ := by
    have := HM.out.taken
    rw [hvt] at this
    rcases this.2 with ⟨q, _⟩ | ⟨g, _, _, q, _⟩
    · left; injection q
    · right; exact ⟨g, by injection q⟩
  have HET := Lib.hid (show Evs w3 w3.heap.size B k cp (x.taken.take k) from evs_take HE3.out hkl)
  rcases hBf with rfl | ⟨g, rfl⟩
  · go_wp2_with fail
    refine (clone_any w3 none k cp (x.taken.take k) HET.out (by omega)).mono ?_
    rintro r w5 ⟨v, rfl, ho5, hb5⟩
    have HO5 := Lib.hid ho5
    have hbw5 : Below w.heap.size w w5 := hbw3.trans (hb5.mono hbw3.size)
    have hs3 := hbw3.size
    clear ho5 hb5 hb31 hc32
    go_wp2
    go_ret
    exact ⟨k, v, HP.out, rfl, HO5.out.down hs3, hbw5⟩
  · go_wp2_with fail
    refine (clone_any w3 (some ⟨g, 0, none⟩) k cp (x.taken.take k) HET.out (by omega)).mono ?_
    rintro r w5 ⟨v, rfl, ho5, hb5⟩
    have HO5 := Lib.hid ho5
    have hbw5 : Below w.heap.size w w5 := hbw3.trans (hb5.mono hbw3.size)
    have hs3 := hbw3.size
    clear ho5 hb5 hb31 hc32
    go_wp2
    go_ret
    exact ⟨k, v, HP.out, rfl, HO5.out.down hs3, hbw5⟩
end Go.Proofs.YtoljbbmjbgepiaaGreatDoor
namespace Go.Proofs.YtoljbbmjbgepiaaGreatDoor
open Go.RowKit Go.Maps Go.Sort

structure Dd where
  kind : Int
  e : Ev
  now : Int
  per : List UInt8
def Dd.cells (d : Dd) : List Value := .int .u8 d.kind :: (d.e.cells ++ [.int .i64 d.now, .string ⟨d.per.toArray⟩])
def ddCells (ds : List Dd) : List Value := ds.flatMap Dd.cells
theorem ddCells_length (ds : List Dd) : (ddCells ds).length = ds.length * 11 := by
  induction ds with
  | nil => rfl
  | cons e es ih => simp only [ddCells, List.flatMap_cons, List.length_append, List.length_cons] at *; rw [ih]; simp [Dd.cells, Ev.cells]; omega
theorem ddCells_get (ds : List Dd) (k j : Nat) (hk : k < ds.length) (hj : j < 11) : (ddCells ds)[k * 11 + j]? = ds[k].cells[j]? := by
  induction ds generalizing k with
  | nil => simp at hk
  | cons e es ih =>
    have hc : e.cells.length = 11 := rfl
    simp only [ddCells, List.flatMap_cons]
    cases k with
    | zero => rw [Nat.zero_mul, Nat.zero_add, List.getElem?_append_left (by omega)]; rfl
    | succ k =>
      rw [List.getElem?_append_right (by omega), hc, show (k + 1) * 11 + j - 11 = k * 11 + j by omega]
      exact ih k (by simpa using hk)
/-- the slice value 'A, n, c' reads as these deeds -/
def Dds (w : World) (B : Nat) (A : Option Addr) (n c : Nat) (ds : List Dd) : Prop := Cel w B 11 A n c (ddCells ds)
theorem Dds.len {w : World} {B n c : Nat} {A : Option Addr} {ds : List Dd} (h : Dds w B A n c ds) : ds.length = n := by
  have := Cel.len h; rw [ddCells_length] at this; omega
/-- a deed lies at this place -/
def DdAt (w : World) (b o : Nat) (d : Dd) : Prop := w.cell? ⟨b, o, none⟩ = some (.int .u8 d.kind) ∧ EvAt w b (o + 1) d.e ∧ w.cell? ⟨b, o + 9, none⟩ = some (.int .i64 d.now)
theorem Dds.at_ {w : World} {B n c : Nat} {A : Option Addr} {ds : List Dd} (h : Dds w B A n c ds) (k : Nat) (hk : k < ds.length) : ∃ b off, A = some ⟨b, off, none⟩ ∧ b < B ∧ DdAt w b (off + k * 11) ds[k] := by
  have hl := h.len
  obtain ⟨b, off, e, hb, hc⟩ := Cel.cell h (by omega)
  have key : ∀ j u, j < 11 → ds[k].cells[j]? = some u → w.cell? ⟨b, off + k * 11 + j, none⟩ = some u := fun j u hj hu => by
    rw [Nat.add_assoc]; exact hc _ u (by rw [ddCells_get ds k j hk hj, hu])
  have ev : ∀ j u, j < 8 → ds[k].e.cells[j]? = some u → w.cell? ⟨b, off + k * 11 + 1 + j, none⟩ = some u := fun j u hj hu => by
    rw [show off + k * 11 + 1 + j = off + k * 11 + (1 + j) by omega]
    refine key (1 + j) u (by omega) ?_
    unfold Dd.cells
    rw [show 1 + j = j + 1 by omega, List.getElem?_cons_succ, List.getElem?_append_left (by show j < 8; exact hj)]
    exact hu
  exact ⟨b, off, e, hb, key 0 _ (by omega) rfl, ⟨ev 0 _ (by omega) rfl, ev 1 _ (by omega) rfl, ev 2 _ (by omega) rfl, ev 3 _ (by omega) rfl, ev 4 _ (by omega) rfl, ev 5 _ (by omega) rfl, ev 6 _ (by omega) rfl, ev 7 _ (by omega) rfl⟩, key 9 _ (by omega) rfl⟩
theorem DdAt.below {w w' : World} {b o B : Nat} {d : Dd} (h : DdAt w b o d) (hb : Below B w w') (hB : b < B) : DdAt w' b o d :=
  ⟨(hb.cell (p := ⟨b, o, none⟩) hB).trans h.1, h.2.1.below hb hB, (hb.cell (p := ⟨b, o + 9, none⟩) hB).trans h.2.2⟩

def heavyB (ds : List Dd) (m : Int) : Bool := decide (m < ds.length) || ds.any (fun d => bigB d.e 300)
def HvRel (w : World) (ds : List Dd) (i : Value) (wr : World) : Prop := ∃ k : Nat, i = .int .i64 k ∧ k ≤ ds.length ∧ (∀ d ∈ ds.take k, bigB d.e 300 = false) ∧ Below w.heap.size w wr
set_option maxRecDepth 100000 in
set_option maxHeartbeats 2000000 in
theorem heavy_any (w : World) (A : Option Addr) (n c : Nat) (ds : List Dd) (h : Dds w w.heap.size A n c ds) (hn : n ≤ 140737488355328) (m : Int) :
    Calls Tryz.prog 27 #[.slice A n c, .int .i64 m] w (Says (heavyB ds m) w) := by
  have HH := Lib.hid h; clear h
  have hl := HH.out.len
  have HL := Lib.hid hl; clear hl
  have HB := Lib.hid (show heavyB ds m = (decide (m < (n : Int)) || ds.any (fun d => bigB d.e 300)) by unfold heavyB; rw [HL.out])
  by_cases hm : m < (n : Int)
  · have HX := Lib.hid (show heavyB ds m = true by rw [HB.out, decide_eq_true hm]; rfl)
    go_enter Tryz.func27, Tryz.ntmps27
    go_wp2
    go_ret
    exact ⟨ret_bool HX.out.symm, Below.refl _ _⟩
  have HX := Lib.hid (show heavyB ds m = ds.any (fun d => bigB d.e 300) by rw [HB.out, decide_eq_false hm]; rfl)
  clear HB
  go_enter Tryz.func27, Tryz.ntmps27
  go_wp2
  go_loopw [5] (fun i wr => HvRel w ds i wr) (fun i _ => n - (intOf i).toNat)
  case atStart => exact ⟨0, rfl, Nat.zero_le _, fun d hd => by simp at hd, Below.refl _ _⟩
  case round =>
    obtain ⟨k, rfl, hk, hno, hbel⟩ := hrel
    have HNO := Lib.hid hno; clear hno
    have hkL : k ≤ n := by rw [← HL.out]; exact hk
    by_cases hkn : k < n
    · have hkl : k < ds.length := by rw [HL.out]; exact hkn
      obtain ⟨b, off, rfl, hb, hd⟩ := HH.out.at_ k hkl
      obtain ⟨d0, ⟨e0, e1, e2, e3, e4, e5, e6, e7⟩, d9⟩ := hd.below hbel hb
      have HT := Lib.hid (show bigB ds[k].e 300 = false → ∀ d ∈ ds.take (k + 1), bigB d.e 300 = false from fun h d hd => by
        rw [List.take_add_one, List.getElem?_eq_getElem hkl, Option.toList_some] at hd
        rcases List.mem_append.1 hd with hd | hd
        · exact HNO.out d hd
        · simp at hd; subst hd; exact h)
      have HY := Lib.hid (show bigB ds[k].e 300 = true → ds.any (fun d => bigB d.e 300) = true from fun h => List.any_eq_true.2 ⟨_, List.getElem_mem hkl, h⟩)
      generalize ds[k] = d at *
      have t1 : (k : Int) < n := by omega
      go_wp2_with fail
      refine (big_any wr d.e 300).mono ?_
      rintro r w2 ⟨rfl, hb2⟩
      have hbw2 : Below w.heap.size w w2 := hbel.trans (hb2.mono hbel.size)
      clear hb2 d0 e0 e1 e2 e3 e4 e5 e6 e7 d9 hd
      cases hbg : bigB d.e 300
      · have HT' := Lib.hid (HT.out hbg)
        clear hbg
        go_wp2
        go_roundw
        case rel => exact ⟨k + 1, by go_num, by omega, HT'.out, hbw2⟩
        case measure => simp [intOf]; omega
      · have HY' := Lib.hid (HY.out hbg)
        clear hbg
        go_wp2
        go_ret
        exact ⟨ret_bool (by rw [HX.out, HY'.out]), hbw2⟩
    · have HZ := Lib.hid (show ds.any (fun d => bigB d.e 300) = false by
        rw [List.any_eq_false]
        intro d hd
        have := HNO.out d (by rw [List.take_of_length_le (by rw [HL.out]; omega)]; exact hd)
        simp [this])
      have t1 : ¬ (k : Int) < n := by omega
      go_wp2
      go_ret
      exact ⟨ret_bool (by rw [HX.out, HZ.out]), hbel⟩
end Go.Proofs.YtoljbbmjbgepiaaGreatDoor
namespace Go.Proofs.YtoljbbmjbgepiaaGreatDoor
open Go.RowKit Go.Maps Go.Sort

def lvE (n at_ : Int) : Ev := ⟨[97], n, at_, 14, [112], [], 0, []⟩
def lv0 : Itk := Itk.new 0 0
def lv1 : Itk := lv0.offer (lvE 1 5) 0
def lv2 : Itk := lv1.offer (lvE 2 4) 0
theorem lv_a : lv0.offered (lvE 1 5) 0 = 0 := by decide +kernel
theorem lv_b : lv1.clk.mark = 4 := by decide +kernel
theorem lv_c : lv1.offered (lvE 2 4) 0 = 2 := by decide +kernel
theorem lv_d : lv2.offered (lvE 1 9) 0 = 1 := by decide +kernel
theorem lv_small (n at_ : Int) : (lvE n at_).small := ⟨by simp [lvE], by simp [lvE], by simp [lvE], by simp [lvE]⟩

theorem lvof_any (w : World) (n at_ : Int) : Calls Tryz.prog 44 #[.int .i64 n, .int .i64 at_] w fun r w' => r = .returned (lvE n at_).agg ∧ Below w.heap.size w w' := by
  have HA := Lib.hid (show (lvE n at_).agg = .agg #[.string ⟨#[97]⟩, .int .i64 n, .int .i64 at_, .int .i64 14, .string ⟨#[112]⟩, .string ⟨#[]⟩, .int .i64 0, .string ⟨#[]⟩] from rfl)
  go_enter Tryz.func44, Tryz.ntmps44
  go_wp2
  exact bodyPost_ret (v := .agg #[.string ⟨#[97]⟩, .int .i64 n, .int .i64 at_, .int .i64 14, .string ⟨#[112]⟩, .string ⟨#[]⟩, .int .i64 0, .string ⟨#[]⟩]) (by simp [results, Tryz.results44, go_sem]) rfl ⟨by rw [HA.out], (Below.refl _ _).alloc (Nat.le_refl _) _⟩

set_option maxRecDepth 100000 in
set_option maxHeartbeats 2000000 in
theorem lives_any (w : World) (hmx : MaxAt w) : Calls Tryz.prog 10 #[] w (Says true w) := by
  have HMX := Lib.hid hmx
  have hmlt := hmx.lt
  clear hmx
  go_enter Tryz.func10, Tryz.ntmps10
  go_wp2_with fail
  refine (itknew_any w 0 0).mono ?_
  rintro r w1 ⟨bi, F1, rfl, hI1, hb1, hF1⟩
  have HI1 := Lib.hid (show ItkAt w1 F1 bi 0 lv0 from hI1); have HF1 := Lib.hid hF1
  have hs1 := hb1.size
  have HMX1 := Lib.hid (HMX.out.up hb1)
  clear hI1 hF1
  go_wp2_with fail
  refine (lvof_any w1 1 5).mono ?_
  rintro r w2 ⟨rfl, hb2⟩
  have hbw2 : Below w.heap.size w w2 := hb1.trans (hb2.mono hs1)
  have HI2 := Lib.hid (HI1.out.up hb2)
  have HMX2 := Lib.hid (HMX1.out.up hb2)
  have hs2 := hb2.size
  clear hb2 hb1
  go_wp2_with fail
  refine (offer_any w2 F1 bi 0 lv0 HI2.out (by omega) (lvE 1 5) (lv_small _ _) 0 HMX2.out (fun hf => by have := HF1.out _ hf; omega)).mono ?_
  rintro r w3 ⟨rfl, F3, hI3, hK3, hF3⟩
  rw [lv_a]
  have HI3 := Lib.hid (show ItkAt w3 F3 bi 2 lv1 from hI3)
  have HF3 := Lib.hid (show ∀ b, F3 b → w.heap.size ≤ b from fun b hb => (hF3 b hb).elim (HF1.out b) (fun h => by omega))
  have hbw3 : Below w.heap.size w w3 := hbw2.trans (hK3.below hbw2.size (fun b hb hf => by have := HF1.out b hf; omega))
  have HMX3 := Lib.hid (HMX2.out.out hK3 (fun hf => by have := HF1.out _ hf; omega))
  clear hI3 hK3 hF3
  go_wp2_with fail
  refine (imark_any w3 F3 bi 2 lv1 HI3.out).mono ?_
  rintro r w3' ⟨rfl, rfl⟩
  rw [lv_b]
  go_wp2_with fail
  refine (lvof_any w3 2 4).mono ?_
  rintro r w4 ⟨rfl, hb4⟩
  have hbw4 : Below w.heap.size w w4 := hbw3.trans (hb4.mono hbw3.size)
  have HI4 := Lib.hid (HI3.out.up hb4)
  have HMX4 := Lib.hid (HMX3.out.up hb4)
  clear hb4
  go_wp2_with fail
  refine (offer_any w4 F3 bi 2 lv1 HI4.out (by omega) (lvE 2 4) (lv_small _ _) 0 HMX4.out (fun hf => by have := HF3.out _ hf; omega)).mono ?_
  rintro r w5 ⟨rfl, F5, hI5, hK5, hF5⟩
  rw [lv_c]
  have HI5 := Lib.hid (show ItkAt w5 F5 bi 4 lv2 from hI5)
  have HF5 := Lib.hid (show ∀ b, F5 b → w.heap.size ≤ b from fun b hb => (hF5 b hb).elim (HF3.out b) (fun h => by have := hbw4.size; omega))
  have hbw5 : Below w.heap.size w w5 := hbw4.trans (hK5.below hbw4.size (fun b hb hf => by have := HF3.out b hf; omega))
  have HMX5 := Lib.hid (HMX4.out.out hK5 (fun hf => by have := HF3.out _ hf; omega))
  clear hI5 hK5 hF5
  go_wp2_with fail
  refine (lvof_any w5 1 9).mono ?_
  rintro r w6 ⟨rfl, hb6⟩
  have hbw6 : Below w.heap.size w w6 := hbw5.trans (hb6.mono hbw5.size)
  have HI6 := Lib.hid (HI5.out.up hb6)
  have HMX6 := Lib.hid (HMX5.out.up hb6)
  clear hb6
  go_wp2_with fail
  refine (offer_any w6 F5 bi 4 lv2 HI6.out (by omega) (lvE 1 9) (lv_small _ _) 0 HMX6.out (fun hf => by have := HF5.out _ hf; omega)).mono ?_
  rintro r w7 ⟨rfl, F7, hI7, hK7, hF7⟩
  rw [lv_d]
  have hbw7 : Below w.heap.size w w7 := hbw6.trans (hK7.below hbw6.size (fun b hb hf => by have := HF5.out b hf; omega))
  clear hI7 hK7 hF7
  go_wp2
  go_ret
  exact ⟨rfl, hbw7⟩
end Go.Proofs.YtoljbbmjbgepiaaGreatDoor
