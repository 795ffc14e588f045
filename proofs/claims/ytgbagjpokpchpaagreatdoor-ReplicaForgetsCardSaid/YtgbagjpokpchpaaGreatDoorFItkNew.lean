/-
  Layer 8: New, Tick, Mark, Taken.
-/
import Derived.Test.YtgbagjpokpchpaaGreatDoorFItkOff0
import Derived.WalkSpells
namespace Go.Proofs.YtgbagjpokpchpaaGreatDoor
open Go.RowKit Go.Maps Go.Sort

def ItkNewPost (w : World) (x : Itk) (r : Ending) (w' : World) : Prop := ∃ bi F, r = .returned (.pointer (some ⟨bi, 0, none⟩)) ∧ ItkAt w' F bi 0 x ∧ Below w.heap.size w w' ∧ ∀ b, F b → w.heap.size ≤ b

set_option maxRecDepth 100000 in
set_option maxHeartbeats 1000000 in
theorem itknew_any (w : World) (slack idle : Int) : Calls Tryz.prog 35 #[.int .i64 slack, .int .i64 idle] w (ItkNewPost w (Itk.new slack idle)) := by
  have hmm := @run_makeMap Tryz.prog
  go_enter Tryz.func35, Tryz.ntmps35
  go_wp2_with fail
  refine (clknew_any w slack idle).mono ?_
  rintro r w1 ⟨bc, bm, rfl, hc1, hbc, hbm, hb1⟩
  have HC1 := Lib.hid hc1
  have hs1 := hb1.size
  clear hc1
  go_wp2_with fail
  refine (hadnew_any w1).mono ?_
  rintro r w2 ⟨bs, bh, rfl, hh2, hbs, hbh, hb2⟩
  have HH2 := Lib.hid hh2
  have HC2 := Lib.hid (HC1.out.up hb2)
  have hs2 := hb2.size
  have hbw : Below w.heap.size w w2 := hb1.trans (hb2.mono hs1)
  have hcl := HC2.out.lt
  have hml := HC2.out.map.lt
  have hcl1 := HC1.out.lt
  have hml1 := HC1.out.map.lt
  have hsl := hh2.lt bs (.inl rfl)
  have hhl := hh2.lt bh (.inr rfl)
  clear hh2 hb1 hb2
  go_wp2
  go_ret
  have hbl : Below w2.heap.size w2 (((w2.alloc (.map #[] 0)).alloc (.map #[] 0)).alloc (itkObj ⟨bc, bm, bs, bh, fun b => b = bs ∨ b = bh, fun _ => .slice none 0 0, .slice none 0 0, .slice none 0 0, w2.heap.size, 0, w2.heap.size + 1, 0⟩)) := (((Below.refl _ _).alloc (Nat.le_refl _) _).alloc (by simp) _).alloc (by simp; omega) _
  have hsz : (((w2.alloc (.map #[] 0)).alloc (.map #[] 0)).alloc (itkObj ⟨bc, bm, bs, bh, fun b => b = bs ∨ b = bh, fun _ => .slice none 0 0, .slice none 0 0, .slice none 0 0, w2.heap.size, 0, w2.heap.size + 1, 0⟩)).heap.size = w2.heap.size + 3 := by simp
  refine ⟨w2.heap.size + 2, fun b => w.heap.size ≤ b ∧ b < w2.heap.size + 3, rfl, ⟨⟨bc, bm, bs, bh, fun b => b = bs ∨ b = bh, fun _ => .slice none 0 0, .slice none 0 0, .slice none 0 0, w2.heap.size, 0, w2.heap.size + 1, 0⟩, ⟨?_, HC2.out.up hbl, HH2.out.up hbl, World.ownsRow_nil _ _ _ _, World.ownsRow_nil _ _ _ _, ?_, ?_, ?_, ?_, ?_, ?_, ?_, ?_, ?_⟩, ItkOk.new slack idle, Nat.le_refl _, Nat.le_refl _, ?_, ?_⟩, hbw.trans (hbl.mono hbw.size), fun b hb => hb.1⟩
  · have := heap_alloc_new ((w2.alloc (.map #[] 0)).alloc (.map #[] 0)) (itkObj ⟨bc, bm, bs, bh, fun b => b = bs ∨ b = bh, fun _ => .slice none 0 0, .slice none 0 0, .slice none 0 0, w2.heap.size, 0, w2.heap.size + 1, 0⟩)
    simpa using this
  · refine (SetI.made w2).block ?_
    show (((w2.alloc (.map #[] 0)).alloc (.map #[] 0)).alloc _).heap[w2.heap.size]? = _
    rw [Below.heap_alloc _ _ _ (by simp; omega), Below.heap_alloc _ _ _ (by simp)]
  · have := SetB.made (w2.alloc (.map #[] 0))
    have e : (w2.alloc (.map #[] 0)).heap.size = w2.heap.size + 1 := by simp
    rw [e] at this
    exact this.block (Below.heap_alloc _ _ _ (by simp))
  · show bm ≠ w2.heap.size; omega
  · show bm ≠ w2.heap.size + 1; omega
  · show w2.heap.size ≠ w2.heap.size + 1; omega
  · show ¬ (bm = bs ∨ bm = bh); omega
  · show ¬ (w2.heap.size = bs ∨ w2.heap.size = bh); omega
  · show ¬ (w2.heap.size + 1 = bs ∨ w2.heap.size + 1 = bh); omega
  · intro b hb; cases hb
  · intro b hb
    rcases hb with hb | hb | hb | hb | hb | hb | hb | hb
    · exact ⟨by omega, by omega⟩
    · have hb' : b = bc := hb
      exact ⟨by omega, by omega⟩
    · have hb' : b = bm := hb
      exact ⟨by omega, by omega⟩
    · have hb' : b = bs ∨ b = bh := hb
      exact ⟨by omega, by omega⟩
    · cases hb
    · cases hb
    · have hb' : b = w2.heap.size := hb
      exact ⟨by omega, by omega⟩
    · have hb' : b = w2.heap.size + 1 := hb
      exact ⟨by omega, by omega⟩
  · intro b hb; rw [hsz]; exact hb.2

theorem imark_any (w : World) (F : Nat → Prop) (bi N : Nat) (x : Itk) (h : ItkAt w F bi N x) : Calls Tryz.prog 22 #[.pointer (some ⟨bi, 0, none⟩)] w fun r w' => r = .returned (.int .i64 x.clk.mark) ∧ w = w' := by
  obtain ⟨A, hM, _⟩ := h
  have HM := Lib.hid hM
  obtain ⟨c0, c1, c2, c3, c4, c5, f2, f3, f4⟩ := hM.cells
  clear hM
  go_enter Tryz.func22, Tryz.ntmps22
  go_wp2_with fail
  refine (mark_any w A.bc A.bm x.clk HM.out.clk).mono ?_
  rintro r w1 ⟨rfl, rfl⟩
  go_wp2
  go_ret
  exact ⟨rfl, rfl⟩

/-- a new slice of the call's own that holds just these events -/
def OwnPost (w : World) (l : List Ev) (r : Ending) (w' : World) : Prop := ∃ v, r = .returned v ∧ OwnE w' w.heap.size v l ∧ Below w.heap.size w w'
set_option maxRecDepth 100000 in
theorem clone_any (w : World) (B : Option Addr) (n c : Nat) (es : List Ev) (h : Evs w w.heap.size B n c es) (hn : n ≤ 200000) : Calls Tryz.prog 32 #[.slice B n c] w (OwnPost w es) := by
  have q22 : ∀ (w : World) (a : Option Addr) (n c n' c' : Nat), (binOp .eql 22 (.slice a n c) (.slice none n' c')).run Tryz.prog w = .ok (.bool a.isNone) w := fun w a n c n' c' => Lib.run_eql_slice_nil w _ _ a n c n' c' Tryz.underlying22
  have HH := Lib.hid h; clear h
  have hlen := HH.out.len
  obtain ⟨i0, hi0, hz0, hzs, hzb⟩ := info_parts ev_info
  have HI := Lib.hid hi0; have HZ0 := Lib.hid hz0; have HZ1 := Lib.hid hzs; have HZ2 := Lib.hid hzb; have HLE := Lib.hid hlen
  clear hi0 hz0 hzs hzb hlen
  cases B with
  | none =>
    have h0 : n = 0 := by
      rcases Nat.eq_zero_or_pos n with h | h
      · exact h
      · obtain ⟨b, off, q, _⟩ := Cel.cell HH.out h; cases q
    have HE := Lib.hid (show es = [] from List.eq_nil_of_length_eq_zero (by rw [HLE.out, h0]))
    subst h0
    go_enter Tryz.func32, Tryz.ntmps32
    go_wp2
    go_ret
    exact ⟨_, rfl, by rw [HE.out]; exact World.ownsRow_nil _ _ _ _, Below.refl _ _⟩
  | some a =>
    have hb0 : Below w.heap.size w (w.alloc (.cells #[] 28)) := (Below.refl _ _).alloc (Nat.le_refl _) _
    go_enter Tryz.func32, Tryz.ntmps32
    go_wp2_with (at_builtin; refine wpList_app (P := Tryz.prog) rfl (.tmp 5) (.tmp 6) 22 rfl 28 i0 _ 8 96 Tryz.underlying22 HI.out HZ0.out HZ1.out HZ2.out rfl (by decide) w.heap.size _ 0 [] rfl ?c1 w.heap.size _ n c (evCells es) rfl ?c2 ?c3 ?c4 ?c5 ?c6 ?_)
    case c1 => exact ⟨rfl, .inr ⟨w.heap.size, 0, #[], rfl, Nat.le_refl _, heap_alloc_new w _, Nat.le_refl _, Nat.zero_le _, rfl, rfl⟩⟩
    case c2 => exact Cel.below HH.out hb0
    case c3 =>
      intro u hu
      simp only [evCells, List.mem_flatMap] at hu
      obtain ⟨y, _, hy⟩ := hu
      exact cells_one y u hy
    case c4 => unfold maxLen; omega
    case c5 => omega
    case c6 => simp
    intro v' w2 ho2 hg2 _
    have HO2 := Lib.hid ho2
    have hbl : Below w.heap.size w w2 := hb0.grown hg2 (by simp) (fun k hk => by simp [Value.ownBlock] at hk; omega)
    clear ho2 hg2
    go_wp2
    go_ret
    refine ⟨v', rfl, ?_, hbl⟩
    unfold OwnE
    rw [HLE.out]
    have := HO2.out
    simpa using this
end Go.Proofs.YtgbagjpokpchpaaGreatDoor
