/-
  Layer 8, plain: what isn't refused.
  Layer 31, plain: who is gone, what is left.
  Layer 8, plain: nobody who is gone has an event but Forgotten ones.
  Layer 8, plain: what an intake has of events, whatever their order.
  Layer 8: New, Tick, Mark, Taken.
  Layer 8: Tick, Settled.
  Layer 8: deeds in memory; the laws' Heavy.
  Layer 8, plain: what stands behind any deeds.
  Layer 8: Taken.
  Layer 8: Gone, Late, Taken; layer 31: erase.Intake.
  Layer 8, plain: what the laws say of an intake behind any deeds.
  Layer 8: what an intake has that Admits events; event.Same.
-/
import Derived.Test.YtgbagjpokpchpaaGreatDoorRItkPlain
import Derived.Test.YtgbagjpokpchpaaGreatDoorREvListing
import Derived.Test.YtgbagjpokpchpaaGreatDoorRSets
import Derived.CallsIn
import Derived.Test.YtgbagjpokpchpaaGreatDoorRItkOff0
import Derived.WalkSpells
import Derived.Test.YtgbagjpokpchpaaGreatDoorRSearch
namespace Go.Proofs.YtgbagjpokpchpaaGreatDoor
open Go.RowKit Go.Maps Go.Sort

theorem not_refused {x : Itk} {e : Ev} (h : x.refuses e = false) : mayB e = true ∧ (e.per ∈ x.gone → e.kind = 14) ∧ hadB x.had e.src e.num = false := by
  unfold Itk.refuses Itk.wrong at h
  simp only [Bool.or_eq_false_iff, Bool.not_eq_false', Bool.and_eq_false_iff, decide_eq_false_iff_not] at h
  refine ⟨h.1.1.1, fun hg => ?_, h.2⟩
  rcases h.1.1.2 with h' | h'
  · exact absurd hg h'
  · simpa using h'
end Go.Proofs.YtgbagjpokpchpaaGreatDoor
namespace Go.Proofs.YtgbagjpokpchpaaGreatDoor
open Go.RowKit Go.Maps

theorem SetB.congr {w : World} {b n : Nat} {ks ks' : List (List UInt8)} (h : SetB w b n ks) (hk : ∀ x, x ∈ ks ↔ x ∈ ks') : SetB w b n ks' := by
  obtain ⟨D, h1, h2, h3⟩ := h
  refine ⟨D, h1, h2, fun k => ?_⟩
  have : decide (k ∈ ks') = decide (k ∈ ks) := by simp [hk]
  rw [this]
  exact h3 k

end Go.Proofs.YtgbagjpokpchpaaGreatDoor
namespace Go.Proofs.YtgbagjpokpchpaaGreatDoor
open Go.RowKit Go.Maps Go.Sort

structure ItkInv (P : Ev → Prop) (x : Itk) : Prop where
  taken : ∀ e ∈ x.taken, P e
  late : ∀ e ∈ x.late, P e
  gone : ∀ p ∈ x.gone, ∃ e, P e ∧ e.per = p
  stay : ∀ e, e ∈ x.taken ∨ e ∈ x.late → e.per ∈ x.gone → e.kind = 14
  forg : ∀ e ∈ x.taken, e.kind = 14 → e.per ∈ x.gone
theorem ItkInv.new (P : Ev → Prop) (slack idle : Int) : ItkInv P (Itk.new slack idle) :=
  ⟨fun e he => by simp [Itk.new] at he, fun e he => by simp [Itk.new] at he, fun e he => by simp [Itk.new] at he, fun e he => by simp [Itk.new] at he, fun e he => by simp [Itk.new] at he⟩
theorem ItkInv.took {P : Ev → Prop} {x : Itk} (h : ItkInv P x) {e : Ev} (he : P e) (hw : e.per ∈ x.gone → e.kind = 14) : ItkInv P (x.took e) := by
  unfold Itk.took
  split
  · rename_i hk
    refine ⟨fun a ha => ?_, fun a ha => ?_, fun p hp => ?_, fun a ha hg => ?_, fun a ha _ => ?_⟩
    · rcases insE_mem.1 (List.mem_filter.1 ha).1 with rfl | ha
      · exact he
      · exact h.taken a ha
    · exact h.late a (List.mem_filter.1 ha).1
    · have hp' : p ∈ e.per :: x.gone := hp
      rcases List.mem_cons.1 hp' with rfl | hp'
      · exact ⟨e, he, rfl⟩
      · exact h.gone p hp'
    · have hg' : a.per ∈ e.per :: x.gone := hg
      have hkeep : keepB e.per a = true := by rcases ha with ha | ha <;> exact (List.mem_filter.1 ha).2
      by_cases hp : a.per = e.per
      · unfold keepB at hkeep; simpa [hp] using hkeep
      · have hg2 : a.per ∈ x.gone := by rcases List.mem_cons.1 hg' with h' | h'; exact absurd h' hp; exact h'
        rcases ha with ha | ha
        · rcases insE_mem.1 (List.mem_filter.1 ha).1 with rfl | ha
          · exact hk
          · exact h.stay a (.inl ha) hg2
        · exact h.stay a (.inr (List.mem_filter.1 ha).1) hg2
    · show a.per ∈ e.per :: x.gone
      rcases insE_mem.1 (List.mem_filter.1 ha).1 with rfl | ha'
      · simp
      · exact List.mem_cons_of_mem _ (h.forg a ha' (by assumption))
  · rename_i hk
    refine ⟨fun a ha => ?_, h.late, h.gone, fun a ha hg => ?_, fun a ha hk' => ?_⟩
    · rcases insE_mem.1 ha with rfl | ha
      · exact he
      · exact h.taken a ha
    · rcases ha with ha | ha
      · rcases insE_mem.1 ha with rfl | ha
        · exact hw hg
        · exact h.stay a (.inl ha) hg
      · exact h.stay a (.inr ha) hg
    · rcases insE_mem.1 ha with rfl | ha
      · exact absurd hk' hk
      · exact h.forg a ha hk'
end Go.Proofs.YtgbagjpokpchpaaGreatDoor
namespace Go.Proofs.YtgbagjpokpchpaaGreatDoor
open Go.RowKit Go.Maps Go.Sort

theorem insE_perm (e : Ev) (l : List Ev) : (insE e l).Perm (e :: l) := by
  have h : l.takeWhile (fun a => !decide (LtE e a)) ++ l.dropWhile (fun a => !decide (LtE e a)) = l := List.takeWhile_append_dropWhile
  unfold insE
  conv => rhs; rw [← h]
  exact List.perm_middle
end Go.Proofs.YtgbagjpokpchpaaGreatDoor
namespace Go.Proofs.YtgbagjpokpchpaaGreatDoor
open Go.RowKit Go.Maps Go.Sort

def ItkNewPost (w : World) (x : Itk) (r : Ending) (w' : World) : Prop := ∃ bi F, r = .returned (.pointer (some ⟨bi, 0, none⟩)) ∧ ItkAt w' F bi 0 x ∧ Below w.heap.size w w' ∧ ∀ b, F b → w.heap.size ≤ b

set_option maxRecDepth 100000 in
set_option maxHeartbeats 1000000 in
theorem itknew_any (w : World) (slack idle : Int) : Calls Tryz.prog 35 #[.int .i64 slack, .int .i64 idle] w (ItkNewPost w (Itk.new slack idle)) := by
  have hmm := @run_makeMap Tryz.prog
  go_enter Tryz.func35, Tryz.ntmps35
  go_wp2_with fail
  refine (clknew_any w slack idle).mono ?_
  rintro r w1 ⟨bc, bm, rfl, hc1, hbc, hbm, hb1⟩
  have HC1 := Lib.hid hc1
  have hs1 := hb1.size
  clear hc1
  go_wp2_with fail
  refine (hadnew_any w1).mono ?_
  rintro r w2 ⟨bs, bh, rfl, hh2, hbs, hbh, hb2⟩
  have HH2 := Lib.hid hh2
  have HC2 := Lib.hid (HC1.out.up hb2)
  have hs2 := hb2.size
  have hbw : Below w.heap.size w w2 := hb1.trans (hb2.mono hs1)
  have hcl := HC2.out.lt
  have hml := HC2.out.map.lt
  have hcl1 := HC1.out.lt
  have hml1 := HC1.out.map.lt
  have hsl := hh2.lt bs (.inl rfl)
  have hhl := hh2.lt bh (.inr rfl)
  clear hh2 hb1 hb2
  go_wp2
  go_ret
  have hbl : Below w2.heap.size w2 (((w2.alloc (.map #[] 0)).alloc (.map #[] 0)).alloc (itkObj ⟨bc, bm, bs, bh, fun b => b = bs ∨ b = bh, fun _ => .slice none 0 0, .slice none 0 0, .slice none 0 0, w2.heap.size, 0, w2.heap.size + 1, 0⟩)) := (((Below.refl _ _).alloc (Nat.le_refl _) _).alloc (by simp) _).alloc (by simp; omega) _
  have hsz : (((w2.alloc (.map #[] 0)).alloc (.map #[] 0)).alloc (itkObj ⟨bc, bm, bs, bh, fun b => b = bs ∨ b = bh, fun _ => .slice none 0 0, .slice none 0 0, .slice none 0 0, w2.heap.size, 0, w2.heap.size + 1, 0⟩)).heap.size = w2.heap.size + 3 := by simp
  refine ⟨w2.heap.size + 2, fun b => w.heap.size ≤ b ∧ b < w2.heap.size + 3, rfl, ⟨⟨bc, bm, bs, bh, fun b => b = bs ∨ b = bh, fun _ => .slice none 0 0, .slice none 0 0, .slice none 0 0, w2.heap.size, 0, w2.heap.size + 1, 0⟩, ⟨?_, HC2.out.up hbl, HH2.out.up hbl, World.ownsRow_nil _ _ _ _, World.ownsRow_nil _ _ _ _, ?_, ?_, ?_, ?_, ?_, ?_, ?_, ?_, ?_⟩, ItkOk.new slack idle, Nat.le_refl _, Nat.le_refl _, ?_, ?_⟩, hbw.trans (hbl.mono hbw.size), fun b hb => hb.1⟩
  · have := heap_alloc_new ((w2.alloc (.map #[] 0)).alloc (.map #[] 0)) (itkObj ⟨bc, bm, bs, bh, fun b => b = bs ∨ b = bh, fun _ => .slice none 0 0, .slice none 0 0, .slice none 0 0, w2.heap.size, 0, w2.heap.size + 1, 0⟩)
    simpa using this
  · refine (SetI.made w2).block ?_
    show (((w2.alloc (.map #[] 0)).alloc (.map #[] 0)).alloc _).heap[w2.heap.size]? = _
    rw [Below.heap_alloc _ _ _ (by simp; omega), Below.heap_alloc _ _ _ (by simp)]
  · have := SetB.made (w2.alloc (.map #[] 0))
    have e : (w2.alloc (.map #[] 0)).heap.size = w2.heap.size + 1 := by simp
    rw [e] at this
    exact this.block (Below.heap_alloc _ _ _ (by simp))
  · show bm ≠ w2.heap.size; omega
  · show bm ≠ w2.heap.size + 1; omega
  · show w2.heap.size ≠ w2.heap.size + 1; omega
  · show ¬ (bm = bs ∨ bm = bh); omega
  · show ¬ (w2.heap.size = bs ∨ w2.heap.size = bh); omega
  · show ¬ (w2.heap.size + 1 = bs ∨ w2.heap.size + 1 = bh); omega
  · intro b hb; cases hb
  · intro b hb
    rcases hb with hb | hb | hb | hb | hb | hb | hb | hb
    · exact ⟨by omega, by omega⟩
    · have hb' : b = bc := hb
      exact ⟨by omega, by omega⟩
    · have hb' : b = bm := hb
      exact ⟨by omega, by omega⟩
    · have hb' : b = bs ∨ b = bh := hb
      exact ⟨by omega, by omega⟩
    · cases hb
    · cases hb
    · have hb' : b = w2.heap.size := hb
      exact ⟨by omega, by omega⟩
    · have hb' : b = w2.heap.size + 1 := hb
      exact ⟨by omega, by omega⟩
  · intro b hb; rw [hsz]; exact hb.2

theorem imark_any (w : World) (F : Nat → Prop) (bi N : Nat) (x : Itk) (h : ItkAt w F bi N x) : Calls Tryz.prog 22 #[.pointer (some ⟨bi, 0, none⟩)] w fun r w' => r = .returned (.int .i64 x.clk.mark) ∧ w = w' := by
  obtain ⟨A, hM, _⟩ := h
  have HM := Lib.hid hM
  obtain ⟨c0, c1, c2, c3, c4, c5, f2, f3, f4⟩ := hM.cells
  clear hM
  go_enter Tryz.func22, Tryz.ntmps22
  go_wp2_with fail
  refine (mark_any w A.bc A.bm x.clk HM.out.clk).mono ?_
  rintro r w1 ⟨rfl, rfl⟩
  go_wp2
  go_ret
  exact ⟨rfl, rfl⟩

/-- a new slice of the call's own that holds just these events -/
def OwnPost (w : World) (l : List Ev) (r : Ending) (w' : World) : Prop := ∃ v, r = .returned v ∧ OwnE w' w.heap.size v l ∧ Below w.heap.size w w'
set_option maxRecDepth 100000 in
theorem clone_any (w : World) (B : Option Addr) (n c : Nat) (es : List Ev) (h : Evs w w.heap.size B n c es) (hn : n ≤ 200000) : Calls Tryz.prog 32 #[.slice B n c] w (OwnPost w es) := by
  have q22 : ∀ (w : World) (a : Option Addr) (n c n' c' : Nat), (binOp .eql 22 (.slice a n c) (.slice none n' c')).run Tryz.prog w = .ok (.bool a.isNone) w := fun w a n c n' c' => Lib.run_eql_slice_nil w _ _ a n c n' c' Tryz.underlying22
  have HH := Lib.hid h; clear h
  have hlen := HH.out.len
  obtain ⟨i0, hi0, hz0, hzs, hzb⟩ := info_parts ev_info
  have HI := Lib.hid hi0; have HZ0 := Lib.hid hz0; have HZ1 := Lib.hid hzs; have HZ2 := Lib.hid hzb; have HLE := Lib.hid hlen
  clear hi0 hz0 hzs hzb hlen
  cases B with
  | none =>
    have h0 : n = 0 := by
      rcases Nat.eq_zero_or_pos n with h | h
      · exact h
      · obtain ⟨b, off, q, _⟩ := Cel.cell HH.out h; cases q
    have HE := Lib.hid (show es = [] from List.eq_nil_of_length_eq_zero (by rw [HLE.out, h0]))
    subst h0
    go_enter Tryz.func32, Tryz.ntmps32
    go_wp2
    go_ret
    exact ⟨_, rfl, by rw [HE.out]; exact World.ownsRow_nil _ _ _ _, Below.refl _ _⟩
  | some a =>
    have hb0 : Below w.heap.size w (w.alloc (.cells #[] 28)) := (Below.refl _ _).alloc (Nat.le_refl _) _
    go_enter Tryz.func32, Tryz.ntmps32
    go_wp2_with (at_builtin; refine wpList_app (P := Tryz.prog) rfl (.tmp 5) (.tmp 6) 22 rfl 28 i0 _ 8 96 Tryz.underlying22 HI.out HZ0.out HZ1.out HZ2.out rfl (by decide) w.heap.size _ 0 [] rfl ?c1 w.heap.size _ n c (evCells es) rfl ?c2 ?c3 ?c4 ?c5 ?c6 ?_)
    case c1 => exact ⟨rfl, .inr ⟨w.heap.size, 0, #[], rfl, Nat.le_refl _, heap_alloc_new w _, Nat.le_refl _, Nat.zero_le _, rfl, rfl⟩⟩
    case c2 => exact Cel.below HH.out hb0
    case c3 =>
      intro u hu
      simp only [evCells, List.mem_flatMap] at hu
      obtain ⟨y, _, hy⟩ := hu
      exact cells_one y u hy
    case c4 => unfold maxLen; omega
    case c5 => omega
    case c6 => simp
    intro v' w2 ho2 hg2 _
    have HO2 := Lib.hid ho2
    have hbl : Below w.heap.size w w2 := hb0.grown hg2 (by simp) (fun k hk => by simp [Value.ownBlock] at hk; omega)
    clear ho2 hg2
    go_wp2
    go_ret
    refine ⟨v', rfl, ?_, hbl⟩
    unfold OwnE
    rw [HLE.out]
    have := HO2.out
    simpa using this
end Go.Proofs.YtgbagjpokpchpaaGreatDoor
namespace Go.Proofs.YtgbagjpokpchpaaGreatDoor
open Go.RowKit Go.Maps Go.Sort

theorem itick_any (w : World) (F : Nat → Prop) (bi N : Nat) (x : Itk) (h : ItkAt w F bi N x) (now : Int) : Calls Tryz.prog 25 #[.pointer (some ⟨bi, 0, none⟩), .int .i64 now] w (OfferPost w F bi N (x.tick now) (x.tick now).clk.mark) := by
  obtain ⟨A, hM, hO, hnl, hng, hfoot, hFlt⟩ := h
  have HM := Lib.hid hM; have HO := Lib.hid hO; have HFO := Lib.hid hfoot; have HFL := Lib.hid hFlt
  obtain ⟨c0, c1, c2, c3, c4, c5, f2, f3, f4⟩ := hM.cells
  clear hM hO hfoot hFlt
  go_enter Tryz.func25, Tryz.ntmps25
  go_wp2_with fail
  refine (tick_any w A.bc A.bm x.clk HM.out.clk now).mono ?_
  rintro r w1 ⟨rfl, hc1, hk1⟩
  obtain ⟨hI1, _, hK1⟩ := ItkAt.setClk (N := N) (M := N) HM.out hnl hng (Nat.le_refl _) HFO.out HFL.out hc1 (hk1.mono (F := fun b => b = A.bc ∨ b = A.bm) (fun _ _ h => .inl h)) (HO.out.tick now)
  have HD := Lib.hid (show Deeds w F bi N (x.tick now) w1 from ⟨F, hI1, hK1, fun b hb => .inl hb⟩)
  clear hc1 hk1 hI1 hK1 c0 c1 c2 c3 c4 c5 f2 f3 f4
  go_wp2
  go_ret
  exact ⟨rfl, HD.out⟩

theorem settled1_any (w : World) (b1 b2 bi g off n c : Nat) (a : Ev) (m : Int) (k : Nat) (hk : k < n) (hc1 : w.cell? ⟨b1, 0, none⟩ = some (.pointer (some ⟨bi, 0, none⟩))) (hc2 : w.cell? ⟨bi, 2, none⟩ = some (.slice (some ⟨g, off, none⟩) n c))
    (ha : EvAt w g (off + k * 8) a) (hm : w.cell? ⟨b2, 0, none⟩ = some (.int .i64 m)) :
    Calls Tryz.prog 50 (#[.int .i64 k] ++ #[.pointer (some ⟨b1, 0, none⟩), .pointer (some ⟨b2, 0, none⟩)]) w (Says (decide (m < a.at_)) w) := by
  show Calls Tryz.prog 50 #[.int .i64 k, .pointer (some ⟨b1, 0, none⟩), .pointer (some ⟨b2, 0, none⟩)] w (Says (decide (m < a.at_)) w)
  obtain ⟨a0, a1, a2, a3, a4, a5, a6, a7⟩ := ha
  have hk' : (k : Int) < n := by omega
  go_enter Tryz.func50, Tryz.ntmps50
  go_wp2
  go_quiet (fail)
  go_wp2
  go_ret
  exact ⟨rfl, below_drewN (Below.refl _ _) _⟩

theorem evs_take {w : World} {B n c k : Nat} {A : Option Addr} {es : List Ev} (h : Evs w B A n c es) (hk : k ≤ n) : Evs w B A k c (es.take k) := by
  have hl := h.len
  refine ⟨by rw [evCells_length, List.length_take]; omega, Nat.le_trans hk (Cel.cap h), Cel.max h, fun h0 => ?_⟩
  obtain ⟨b, off, e, hb, hc⟩ := Cel.cell h (by omega)
  refine ⟨b, off, e, hb, fun i u hi => hc i u ?_⟩
  rw [← evCells_take, List.getElem?_take] at hi
  split at hi
  · exact hi
  · cases hi
theorem OwnE.down {w : World} {base base' : Nat} {v : Value} {l : List Ev} (h : OwnE w base v l) (hb : base' ≤ base) : OwnE w base' v l := by
  refine ⟨h.1, ?_⟩
  rcases h.2 with h' | ⟨g, cap, cur, e, hg, r⟩
  · exact .inl h'
  · exact .inr ⟨g, cap, cur, e, Nat.le_trans hb hg, r⟩
/-- k of them stand at most at the mark, and no other -/
def SetAt (l : List Ev) (m : Int) (k : Nat) : Prop := k ≤ l.length ∧ (∀ i (h : i < l.length), i < k → l[i].at_ ≤ m) ∧ ∀ i (h : i < l.length), k ≤ i → m < l[i].at_
def SettledPost (w : World) (x : Itk) (r : Ending) (w' : World) : Prop := ∃ k v, SetAt x.taken x.clk.mark k ∧ r = .returned v ∧ OwnE w' w.heap.size v (x.taken.take k) ∧ Below w.heap.size w w'

set_option maxRecDepth 100000 in
set_option maxHeartbeats 2000000 in
theorem settled_any (w : World) (F : Nat → Prop) (bi N : Nat) (x : Itk) (h : ItkAt w F bi N x) (hN : N ≤ 100000) : Calls Tryz.prog 26 #[.pointer (some ⟨bi, 0, none⟩)] w (SettledPost w x) := by
  obtain ⟨A, hM, hO, hnl, hng, hfoot, hFlt⟩ := h
  have HM := Lib.hid hM; have HO := Lib.hid hO
  have hlt : bi < w.heap.size := hM.lt (.inl rfl)
  have htl := hO.taken
  obtain ⟨B, cp, hvt, hcm⟩ := hM.taken.form
  unfold maxLen at hcm
  have hbA : Below w.heap.size w (w.alloc (.cells #[.pointer (some ⟨bi, 0, none⟩)] 31)) := (Below.refl _ _).alloc (Nat.le_refl _) _
  obtain ⟨c0, c1, c2, c3, c4, c5, f2, f3, f4⟩ := (hM.up hbA).cells
  rw [hvt] at c2
  clear hM hO hfoot hFlt
  go_enter Tryz.func26, Tryz.ntmps26
  go_wp2_with fail
  have hB1 : (w.alloc (.cells #[.pointer (some ⟨bi, 0, none⟩)] 31)).cell? ⟨w.heap.size, 0, none⟩ = some (.pointer (some ⟨bi, 0, none⟩)) := cell_of_row _ w.heap.size 0 _ _ (0, 0) (heap_alloc_new w _)
  have hsA : (w.alloc (.cells #[.pointer (some ⟨bi, 0, none⟩)] 31)).heap.size = w.heap.size + 1 := by simp
  have HM1 := Lib.hid (HM.out.up hbA)
  generalize w.alloc (.cells #[.pointer (some ⟨bi, 0, none⟩)] 31) = w1 at *
  refine (mark_any w1 A.bc A.bm x.clk HM1.out.clk).mono ?_
  rintro r w1' ⟨rfl, rfl⟩
  have hbi1 : bi < w1.heap.size := by omega
  have hw1 : w.heap.size < w1.heap.size := by omega
  go_wp2_with fail
  have hbB : Below w1.heap.size w1 (w1.alloc (.cells #[.int .i64 x.clk.mark] 3)) := (Below.refl _ _).alloc (Nat.le_refl _) _
  have HB2 := Lib.hid (show (w1.alloc (.cells #[.int .i64 x.clk.mark] 3)).cell? ⟨w.heap.size + 1, 0, none⟩ = some (.int .i64 x.clk.mark) by rw [← hsA]; exact cell_of_row _ w1.heap.size 0 _ _ (0, 0) (heap_alloc_new w1 _))
  have HB1 := Lib.hid ((hbB.cell (p := ⟨w.heap.size, 0, none⟩) hw1).trans hB1)
  have hsB : (w1.alloc (.cells #[.int .i64 x.clk.mark] 3)).heap.size = w1.heap.size + 1 := by simp
  have HM2 := Lib.hid (HM1.out.up hbB)
  have hbw2 : Below w.heap.size w (w1.alloc (.cells #[.int .i64 x.clk.mark] 3)) := hbA.trans (hbB.mono hbA.size)
  clear hbB c0 c1 c2 c3 c4 c5 f2 f3 f4 hB1 hbA
  generalize w1.alloc (.cells #[.int .i64 x.clk.mark] 3) = w2 at *
  have HEV := Lib.hid (show Evs w2 w2.heap.size B x.taken.length cp x.taken by have := HM2.out.taken; rw [hvt] at this; exact Cel.of_own this)
  have hc22 : w2.cell? ⟨bi, 2, none⟩ = some (.slice B x.taken.length cp) := by rw [← hvt]; exact HM2.out.cells.c2
  have HC22 := Lib.hid hc22
  clear hc22
  refine (search_any w2 50 #[.pointer (some ⟨w.heap.size, 0, none⟩), .pointer (some ⟨w.heap.size + 1, 0, none⟩)] x.taken.length (fun i => decide (x.clk.mark < (x.taken.getD i ⟨[], 0, 0, 0, [], [], 0, []⟩).at_)) (by omega) (fun _ _ => by kernel_rfl) ?_ ?_).mono ?_
  · intro w4 i hb4 hi
    obtain ⟨g, off, rfl, hg, hev⟩ := HEV.out.ev i hi
    have e' : x.taken.getD i ⟨[], 0, 0, 0, [], [], 0, []⟩ = x.taken[i] := by simp [List.getD, List.getElem?_eq_getElem hi]
    simp only [e']
    exact settled1_any w4 _ _ bi g off _ cp _ _ i hi ((hb4.cell (p := ⟨w.heap.size, 0, none⟩) (by show w.heap.size < _; omega)).trans HB1.out) ((hb4.cell (p := ⟨bi, 2, none⟩) (by show bi < _; omega)).trans HC22.out) (hev.below hb4 hg) ((hb4.cell (p := ⟨w.heap.size + 1, 0, none⟩) (by show w.heap.size + 1 < _; omega)).trans HB2.out)
  · intro i j hij hj hp
    simp only [List.getD, List.getElem?_eq_getElem hj, List.getElem?_eq_getElem (show i < x.taken.length by omega), Option.getD_some, decide_eq_true_eq] at *
    rcases Nat.lt_or_ge i j with hlt' | hge
    · have := (List.pairwise_iff_getElem.1 HO.out.sorted i j (by omega) hj hlt').at_; omega
    · have : i = j := by omega
      subst this; exact hp
  rintro r w3 ⟨k, rfl, hkl, h1, h2, hb3⟩
  have HP := Lib.hid (show SetAt x.taken x.clk.mark k from ⟨hkl, fun i hi hlt' => by
    have := h1 i hlt'
    simp only [List.getD, List.getElem?_eq_getElem hi, Option.getD_some, decide_eq_false_iff_not] at this
    omega, fun i hi hge => by
    have := h2 i hge hi
    simpa only [List.getD, List.getElem?_eq_getElem hi, Option.getD_some, decide_eq_true_eq] using this⟩)
  have hbw3 : Below w.heap.size w w3 := hbw2.trans (hb3.mono hbw2.size)
  have HM3 := Lib.hid (HM.out.up hbw3)
  have hb31 := (hb3.cell (p := ⟨w.heap.size, 0, none⟩) (by show w.heap.size < _; omega)).trans HB1.out
  have hc32 : w3.cell? ⟨bi, 2, none⟩ = some (.slice B x.taken.length cp) := by rw [← hvt]; exact HM3.out.cells.c2
  have HE3 := Lib.hid (show Evs w3 w3.heap.size B x.taken.length cp x.taken by have := HM3.out.taken; rw [hvt] at this; exact Cel.of_own this)
  clear h1 h2 hb3 hbw2
  have hkc : k ≤ cp := by have := Cel.cap HE3.out; omega
  have hBf : B = none ∨ ∃ g, B = some ⟨g, 0, none⟩ := by
    have := HM.out.taken
    rw [hvt] at this
    rcases this.2 with ⟨q, _⟩ | ⟨g, _, _, q, _⟩
    · left; injection q
    · right; exact ⟨g, by injection q⟩
  have HET := Lib.hid (show Evs w3 w3.heap.size B k cp (x.taken.take k) from evs_take HE3.out hkl)
  rcases hBf with rfl | ⟨g, rfl⟩
  · go_wp2_with fail
    refine (clone_any w3 none k cp (x.taken.take k) HET.out (by omega)).mono ?_
    rintro r w5 ⟨v, rfl, ho5, hb5⟩
    have HO5 := Lib.hid ho5
    have hbw5 : Below w.heap.size w w5 := hbw3.trans (hb5.mono hbw3.size)
    have hs3 := hbw3.size
    clear ho5 hb5 hb31 hc32
    go_wp2
    go_ret
    exact ⟨k, v, HP.out, rfl, HO5.out.down hs3, hbw5⟩
  · go_wp2_with fail
    refine (clone_any w3 (some ⟨g, 0, none⟩) k cp (x.taken.take k) HET.out (by omega)).mono ?_
    rintro r w5 ⟨v, rfl, ho5, hb5⟩
    have HO5 := Lib.hid ho5
    have hbw5 : Below w.heap.size w w5 := hbw3.trans (hb5.mono hbw3.size)
    have hs3 := hbw3.size
    clear ho5 hb5 hb31 hc32
    go_wp2
    go_ret
    exact ⟨k, v, HP.out, rfl, HO5.out.down hs3, hbw5⟩
end Go.Proofs.YtgbagjpokpchpaaGreatDoor
namespace Go.Proofs.YtgbagjpokpchpaaGreatDoor
open Go.RowKit Go.Maps Go.Sort

end Go.Proofs.YtgbagjpokpchpaaGreatDoor
namespace Go.Proofs.YtgbagjpokpchpaaGreatDoor
open Go.RowKit Go.Maps Go.Sort

theorem tick_now (c : Clk) (now : Int) : (c.tick now).now = max c.now (boundI now) := by unfold Clk.tick; rw [rise_now]
theorem tick_risen (c : Clk) (now : Int) : (c.tick now).rise = c.tick now := rise_rise _
theorem hear_risen (c : Clk) (s : List UInt8) (at_ now : Int) : (c.hear s at_ now).rise = c.hear s at_ now := by
  unfold Clk.hear
  split
  · exact rise_rise _
  · exact tick_risen c now
theorem hear_now (c : Clk) (s : List UInt8) (at_ now : Int) : (c.hear s at_ now).now = max c.now (boundI now) := by
  unfold Clk.hear
  split
  · unfold Clk.heard; rw [rise_now]; exact tick_now c now
  · exact tick_now c now
/-- what holds behind whatever deeds -/
structure PlayInv (x : Itk) : Prop where
  inv : ItkInv (fun _ => True) x
  ok : HadOk x.had
  sorted : SortedE x.taken
  ids : (x.taken.map idOf).Nodup
  kept : ∀ e ∈ x.taken, hadB x.had e.src e.num = true
  may : ∀ e, e ∈ x.taken ∨ e ∈ x.late → mayB e = true
  risen : x.clk.rise = x.clk
  now : 0 ≤ x.clk.now
theorem PlayInv.new (slack idle : Int) : PlayInv (Itk.new slack idle) :=
  ⟨ItkInv.new _ _ _, HadOk.nil, List.Pairwise.nil, by simp [Itk.new], fun e he => by simp [Itk.new] at he, fun e he => by simp [Itk.new] at he, by rfl, by simp [Itk.new, Clk.new]⟩
theorem PlayInv.clk {x : Itk} (h : PlayInv x) {c : Clk} (h1 : c.rise = c) (h2 : 0 ≤ c.now) : PlayInv { x with clk := c } := ⟨⟨h.inv.taken, h.inv.late, h.inv.gone, h.inv.stay, h.inv.forg⟩, h.ok, h.sorted, h.ids, h.kept, h.may, h1, h2⟩
theorem PlayInv.tick {x : Itk} (h : PlayInv x) (now : Int) : PlayInv (x.tick now) := h.clk (tick_risen _ _) (by rw [tick_now]; have := h.now; omega)
theorem PlayInv.hear {x : Itk} (h : PlayInv x) (e : Ev) (now : Int) : PlayInv (x.hear e now) := h.clk (hear_risen _ _ _ _) (by rw [hear_now]; have := h.now; omega)
theorem PlayInv.took {x : Itk} {e : Ev} (h : PlayInv x) (hr : x.refuses e = false) : PlayInv (x.took e) := by
  obtain ⟨hm, hg, hh⟩ := not_refused hr
  have hput := may_put hm hh
  have hids : ((insE e x.taken).map idOf).Nodup := by
    rw [((insE_perm e x.taken).map idOf).nodup_iff, List.map_cons, List.nodup_cons]
    refine ⟨fun hc => ?_, h.ids⟩
    obtain ⟨a, ha, hai⟩ := List.mem_map.1 hc
    have := h.kept a ha
    unfold idOf at hai
    injection hai with h1 h2
    rw [h1, h2, hh] at this
    cases this
  have hkept : ∀ a ∈ insE e x.taken, hadB (putH x.had e.src e.num) a.src a.num = true := fun a ha => by
    rw [putH_had h.ok hput]
    rcases insE_mem.1 ha with rfl | ha
    · simp
    · simp [h.kept a ha]
  have hmay : ∀ a ∈ insE e x.taken, mayB a = true := fun a ha => by
    rcases insE_mem.1 ha with rfl | ha
    · exact hm
    · exact h.may a (.inl ha)
  have hinv := h.inv.took (e := e) trivial hg
  unfold Itk.took at hinv ⊢
  split
  · rename_i hk
    rw [if_pos hk] at hinv
    exact ⟨hinv, h.ok.put hput, (insE_sorted h.sorted).filter _, (List.filter_sublist.map idOf).nodup hids, fun a ha => hkept a (List.mem_filter.1 ha).1, fun a ha => by
      rcases ha with ha | ha
      · exact hmay a (List.mem_filter.1 ha).1
      · exact h.may a (.inr (List.mem_filter.1 ha).1), h.risen, h.now⟩
  · rename_i hk
    rw [if_neg hk] at hinv
    exact ⟨hinv, h.ok.put hput, insE_sorted h.sorted, hids, hkept, fun a ha => ha.elim (hmay a) (fun h' => h.may a (.inr h')), h.risen, h.now⟩
theorem PlayInv.admits {x : Itk} (h : PlayInv x) (e : Ev) : PlayInv (x.admits e) := by
  unfold Itk.admits
  split
  · exact h
  · rename_i hr
    exact (h.hear e _).took (show x.refuses e = false by simpa using hr)
end Go.Proofs.YtgbagjpokpchpaaGreatDoor
namespace Go.Proofs.YtgbagjpokpchpaaGreatDoor
open Go.RowKit Go.Maps Go.Sort

theorem itaken_any (w : World) (F : Nat → Prop) (bi N : Nat) (x : Itk) (h : ItkAt w F bi N x) (hN : N ≤ 100000) : Calls Tryz.prog 13 #[.pointer (some ⟨bi, 0, none⟩)] w (OwnPost w x.taken) := by
  obtain ⟨A, hM, hO, _⟩ := h
  have HM := Lib.hid hM
  have htl := hO.taken
  obtain ⟨B, c, hv, hc⟩ := hM.taken.form
  obtain ⟨c0, c1, c2, c3, c4, c5, f2, f3, f4⟩ := hM.cells
  rw [hv] at c2
  clear hM hO
  go_enter Tryz.func13, Tryz.ntmps13
  go_wp2_with fail
  have hev : Evs w w.heap.size B x.taken.length c x.taken := by have := HM.out.taken; rw [hv] at this; exact Cel.of_own this
  refine (clone_any w B _ c x.taken hev (by omega)).mono ?_
  rintro r w1 ⟨v, rfl, ho, hb⟩
  have HO := Lib.hid ho
  clear ho hev c0 c1 c2 c3 c4 c5 f2 f3 f4
  go_wp2
  go_ret
  exact ⟨v, rfl, HO.out, hb⟩
end Go.Proofs.YtgbagjpokpchpaaGreatDoor
namespace Go.Proofs.YtgbagjpokpchpaaGreatDoor
open Go.RowKit Go.Maps Go.Sort Go.Shelf

theorem ilate_any (w : World) (F : Nat → Prop) (bi N : Nat) (x : Itk) (h : ItkAt w F bi N x) (hN : N ≤ 100000) : Calls Tryz.prog 76 #[.pointer (some ⟨bi, 0, none⟩)] w (OwnPost w x.late) := by
  obtain ⟨A, hM, hO, _⟩ := h
  have HM := Lib.hid hM
  have htl := hO.late
  obtain ⟨B, c, hv, hc⟩ := hM.late.form
  obtain ⟨c0, c1, c2, c3, c4, c5, f2, f3, f4⟩ := hM.cells
  rw [hv] at c3
  clear hM hO
  go_enter Tryz.func76, Tryz.ntmps76
  go_wp2_with fail
  have hev : Evs w w.heap.size B x.late.length c x.late := by have := HM.out.late; rw [hv] at this; exact Cel.of_own this
  refine (clone_any w B _ c x.late hev (by omega)).mono ?_
  rintro r w1 ⟨v, rfl, ho, hb⟩
  have HO := Lib.hid ho
  clear ho hev c0 c1 c2 c3 c4 c5 f2 f3 f4
  go_wp2
  go_ret
  exact ⟨v, rfl, HO.out, hb⟩

set_option maxHeartbeats 2000000 in
theorem igone_any (w : World) (F : Nat → Prop) (bi N : Nat) (x : Itk) (h : ItkAt w F bi N x) (hN : N ≤ 100000) : Calls Tryz.prog 15 #[.pointer (some ⟨bi, 0, none⟩)] w (GonePost w x.gone) := by
  obtain ⟨A, hM, hO, _, hng, _⟩ := h
  obtain ⟨c0, c1, c2, c3, c4, c5, f2, f3, f4⟩ := hM.cells
  obtain ⟨D, hD1, hD2, hD3⟩ := hM.gone
  have HD := Lib.hid hD1
  have hDs : Maps.size D ≤ A.ng := hD1.size_le
  have hle : A.ng ≤ 100000 := by omega
  clear hM hO hD1
  refine (callsIn_wide (n := 6)).1 ?_
  have hfK : Fence.wide.fn 34 := trivial
  have hfS : Fence.wide.fn 33 := trivial
  refine callsIn_of_wp Tryz.func15 rfl trivial ?_ rfl
  simp only [Tryz.ntmps15, List.size_toArray, List.length_cons, List.length_nil, Nat.reduceAdd, Nat.reduceSub, Array.replicate_succ, Array.replicate_zero, List.push_toArray, List.append_toArray, List.nil_append, List.cons_append]
  gi_wp2_with fail
  refine (Tryz.maps_Keys_34 _ _).mono ?_
  rintro e w2 ⟨rfl, rfl⟩
  gi_wp2_with fail
  refine (Tryz.slices_Sorted_keys_33_34 A.bg A.ng D _ w HD.out (by unfold maxLen; omega) (by omega)).mono ?_
  rintro e w3 ⟨v, ss, rfl, hS, hrow, hnil, hb3⟩
  clear c0 c1 c2 c3 c4 c5 f2 f3 f4
  gi_wp2_with fail
  go_ret
  obtain ⟨ks, hk1, hk2⟩ := nodup_dedup x.gone
  have hp : ks.Perm (strKeys D) := SetB.perm HD.out (fun k => (hD3 k).2) hk1 hk2
  have hpp : ss.Perm ks := hS.trans hp.symm
  have hnd : ss.Nodup := hpp.nodup_iff.2 hk1
  have hr := rising_sort hnd (fun x => hpp.mem_iff.trans (hk2 x))
  have hlen : (ss.mergeSort (fun x y => decide (x ≤ y))).length = ss.length := List.length_mergeSort _
  refine ⟨v, ss.mergeSort (fun x y => decide (x ≤ y)), rfl, hr, ?_, ?_⟩
  · rw [hlen]
    refine ⟨hrow.1, ?_⟩
    rcases hrow.2 with ⟨e, hl⟩ | ⟨g, cap, cur, e, hb', hg, hrr⟩
    · exact .inl ⟨e, hl⟩
    · exact .inr ⟨g, cap, cur, e, by simp at hb'; omega, hg, hrr⟩
  · exact ((Below.refl _ _).alloc (Nat.le_refl _) _).trans (hb3.mono (by simp))
end Go.Proofs.YtgbagjpokpchpaaGreatDoor
namespace Go.Proofs.YtgbagjpokpchpaaGreatDoor
open Go.RowKit Go.Maps Go.Sort

/-- events admitted, in order -/
def admAll (y : Itk) (l : List Ev) : Itk := l.foldl Itk.admits y
theorem admAll_take (y : Itk) (l : List Ev) (k : Nat) (hk : k < l.length) : admAll y (l.take (k + 1)) = (admAll y (l.take k)).admits l[k] := by
  unfold admAll
  rw [List.take_add_one, List.getElem?_eq_getElem hk, Option.toList_some, List.foldl_append]; rfl
end Go.Proofs.YtgbagjpokpchpaaGreatDoor
namespace Go.Proofs.YtgbagjpokpchpaaGreatDoor
open Go.RowKit Go.Maps Go.Sort

end Go.Proofs.YtgbagjpokpchpaaGreatDoor
