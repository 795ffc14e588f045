/-
  The law's Grown: both intakes behind deeds.
-/
import Derived.Test.YtoljbbmjbgepiaaGreatDoorMDone2
namespace Go.Proofs.YtoljbbmjbgepiaaGreatDoor
open Go.RowKit Go.Maps Go.Sort Go.Shelf

theorem Dds.per {w : World} {B n c : Nat} {A : Option Addr} {ds : List Dd} (h : Dds w B A n c ds) (k : Nat) (hk : k < ds.length) : ∃ b off, A = some ⟨b, off, none⟩ ∧ b < B ∧ DdAt w b (off + k * 11) ds[k] ∧ w.cell? ⟨b, off + k * 11 + 10, none⟩ = some (.string ⟨ds[k].per.toArray⟩) := by
  obtain ⟨b, off, e, hb, hd⟩ := h.at_ k hk
  have hl := h.len
  obtain ⟨b', off', e', hb', hc⟩ := Cel.cell h (by omega)
  rw [e] at e'
  injection e' with e'; injection e' with e1 e2; subst e1 e2
  exact ⟨b, off, e, hb, hd, by rw [Nat.add_assoc]; exact hc _ _ (by rw [ddCells_get ds k 10 hk (by omega)]; rfl)⟩
theorem heavy_smallN {ds : List Dd} {m : Nat} (h : heavyB ds m = false) : ds.length ≤ m ∧ ∀ d ∈ ds, d.e.small := by
  unfold heavyB at h
  simp only [Bool.or_eq_false_iff, decide_eq_false_iff_not, List.any_eq_false] at h
  refine ⟨by omega, fun d hd => ?_⟩
  have := h.2 d hd
  unfold bigB at this
  simp at this
  exact ⟨by omega, by omega, by omega, by omega⟩
/-- both intakes, whose blocks lie from q on; what was there in w is as it was -/
structure BothN (w : World) (q : Nat) (F : Nat → Prop) (bi bm bc : Nat) (S : Nat → Prop) (N : Nat) (x : Itk) (wr : World) : Prop where
  both : Both wr F bi bm bc S N x
  bel : Below w.heap.size w wr
  newF : ∀ b, F b → q ≤ b
  newS : ∀ b, S b → q ≤ b
  bm0 : q ≤ bm
  bc0 : q ≤ bc
  lo : w.heap.size ≤ q
  hi : q ≤ wr.heap.size
theorem BothN.up {w wr w2 : World} {F S : Nat → Prop} {q bi bm bc N : Nat} {x : Itk} (h : BothN w q F bi bm bc S N x wr) (hb : Below wr.heap.size wr w2) : BothN w q F bi bm bc S N x w2 :=
  ⟨h.both.up hb, h.bel.trans (hb.mono h.bel.size), h.newF, h.newS, h.bm0, h.bc0, h.lo, Nat.le_trans h.hi hb.size⟩
theorem BothN.more {w wr : World} {F S : Nat → Prop} {q bi bm bc N M : Nat} {x : Itk} (h : BothN w q F bi bm bc S N x wr) (hM : N ≤ M) : BothN w q F bi bm bc S M x wr :=
  ⟨h.both.more hM, h.bel, h.newF, h.newS, h.bm0, h.bc0, h.lo, h.hi⟩
theorem BothN.base {w0 w wr : World} {F S : Nat → Prop} {q bi bm bc N : Nat} {x : Itk} (h : BothN w q F bi bm bc S N x wr) (hb : Below w0.heap.size w0 w) : BothN w0 q F bi bm bc S N x wr :=
  ⟨h.both, hb.trans (h.bel.mono hb.size), h.newF, h.newS, h.bm0, h.bc0, Nat.le_trans hb.size h.lo, h.hi⟩
theorem BothN.deed {w wr w2 : World} {F S : Nat → Prop} {q bi bm bc N M : Nat} {x y : Itk} (h : BothN w q F bi bm bc S N x wr) (hd : BothD wr F bi bm bc S M y w2) : ∃ F' S', BothN w q F' bi bm bc S' M y w2 := by
  obtain ⟨F', S', hb, hk, hF, hS⟩ := hd
  have hs := h.bel.size
  have h1 := h.bm0; have h2 := h.bc0; have h3 := h.lo; have h4 := h.hi; have h5 := hk.size
  refine ⟨F', S', hb, h.bel.trans (hk.below hs (fun b hb' hf => ?_)), fun b hb' => ?_, fun b hb' => ?_, h1, h2, h3, by omega⟩
  · rcases hf with hf | hf | hf
    · have := h.newF b hf; omega
    · omega
    · omega
  · rcases hF b hb' with h' | h'
    · exact h.newF b h'
    · omega
  · rcases hS b hb' with h' | h'
    · exact h.newS b h'
    · omega
/-- a deed at the program's intake alone that changes nothing -/
theorem BothN.own {w wr w2 : World} {F S : Nat → Prop} {q bi bm bc N M : Nat} {x : Itk} (h : BothN w q F bi bm bc S N x wr) (hM : N ≤ M) (hd : Deeds wr F bi M x w2) : ∃ F', BothN w q F' bi bm bc S M x w2 := by
  have hr := h.both.ref1 hd
  obtain ⟨F', hi, hk, hF⟩ := hd
  have hs := h.bel.size
  have hbm := h.both.ref.lt; have hbc := h.both.ref.clk.lt
  have h3 := h.lo; have h4 := h.hi; have h5 := hk.size
  refine ⟨F', ⟨hi, hr.more hM, fun b hb' => ?_⟩, h.bel.trans (hk.below hs (fun b hb' hf => by have := h.newF b hf; omega)), fun b hb' => ?_, h.newS, h.bm0, h.bc0, h3, by omega⟩
  · rcases hF b hb' with h' | h'
    · exact h.both.ap b h'
    · exact ⟨fun hs' => by have := h.both.ref.clk.low b hs'; omega, by omega, by omega⟩
  · rcases hF b hb' with h' | h'
    · exact h.newF b h'
    · omega
/-- a store beside both -/
theorem BothN.aside {w wr w2 : World} {F S : Nat → Prop} {q bi bm bc N g : Nat} {x : Itk} (h : BothN w q F bi bm bc S N x wr) (hk : Keep (fun b => b = g) wr w2) (hF : ¬ F g) (hS : ¬ S g) (h1 : g ≠ bm) (h2 : g ≠ bc) (h3 : w.heap.size ≤ g) : BothN w q F bi bm bc S N x w2 :=
  ⟨⟨h.both.itk.keep hk.size (fun b hb => hk.block b (h.both.itk.low hb) (fun e => hF (e ▸ hb))), h.both.ref.stay hk (fun b e => by subst e; exact ⟨hS, h1, h2⟩), h.both.ap⟩, h.bel.trans (hk.below h.bel.size (fun b hb e => by omega)), h.newF, h.newS, h.bm0, h.bc0, h.lo, Nat.le_trans h.hi hk.size⟩
def GrRel (w : World) (slack idle : Int) (ds : List Dd) (bi bm bc : Nat) (i : Value) (wr : World) : Prop := ∃ (k : Nat) (F S : Nat → Prop), i = .int .i64 k ∧ k ≤ ds.length ∧ BothN w w.heap.size F bi bm bc S (3 * k) (Itk.grown slack idle (ds.take k)) wr
def GrPost (w : World) (N : Nat) (x : Itk) (e : Ending) (w' : World) : Prop := ∃ F S bi bm bc, e = .returned (.tuple #[.pointer (some ⟨bi, 0, none⟩), .pointer (some ⟨bm, 0, none⟩), .bool true]) ∧ BothN w w.heap.size F bi bm bc S N x w'

set_option maxRecDepth 100000 in
set_option maxHeartbeats 4000000 in
theorem grown_any (w : World) (slack idle : Int) (A : Option Addr) (n c : Nat) (ds : List Dd) (h : Dds w w.heap.size A n c ds) (hn : n ≤ 1000) (hsm : ∀ d ∈ ds, d.e.small) (hkd : ∀ d ∈ ds, 0 ≤ d.kind ∧ d.kind ≤ 255) (hmx : MaxAt w) :
    Calls Tryz.prog 28 #[.int .i64 slack, .int .i64 idle, .slice A n c] w (GrPost w (3 * n) (Itk.grown slack idle ds)) := by
  have HH := Lib.hid h; clear h
  have HKD := Lib.hid hkd; clear hkd
  have HSM := Lib.hid hsm; clear hsm
  have HMX := Lib.hid hmx
  have hmlt := hmx.lt
  clear hmx
  have HL := Lib.hid HH.out.len
  go_enter Tryz.func28, Tryz.ntmps28
  go_wp2_with fail
  refine (itknew_any w slack idle).mono ?_
  rintro r w1 ⟨bi, F1, rfl, hI1, hb1, hF1⟩
  have HI1 := Lib.hid hI1; have HF1 := Lib.hid hF1
  clear hI1 hF1
  go_wp2_with fail
  refine (ritknew_any w1 slack idle).mono ?_
  rintro r w2 ⟨bm, bc, rfl, hR2, hbm, hbc, hb2⟩
  have hs1 := hb1.size
  have HGO := Lib.hid (show GrRel w slack idle ds bi bm bc (.int .i64 ((0 : Nat) : Int)) w2 from ⟨0, F1, fun _ => False, rfl, Nat.zero_le _, ⟨⟨HI1.out.up hb2, hR2, fun b hb => ⟨fun h => h, fun e => by have := HI1.out.low hb; omega, fun e => by have := HI1.out.low hb; omega⟩⟩, hb1.trans (hb2.mono hs1), HF1.out, fun _ h => h.elim, by omega, by omega, Nat.le_refl _, by have := hb2.size; omega⟩⟩)
  clear hR2 hb2 hb1 HI1 HF1 hbm hbc hs1
  go_wp2
  go_loopw [11] (fun i wr => GrRel w slack idle ds bi bm bc i wr) (fun i _ => n - (intOf i).toNat)
  case atStart => exact HGO.out
  case round =>
    obtain ⟨k, F, S, rfl, hk, hBN⟩ := hrel
    have HBN := Lib.hid hBN; clear hBN
    have hkL : k ≤ n := by rw [← HL.out]; exact hk
    by_cases hkn : k < n
    · have hkl : k < ds.length := by rw [HL.out]; exact hkn
      obtain ⟨b, off, rfl, hb, hd, hp⟩ := HH.out.per k hkl
      have hbel := HBN.out.bel
      obtain ⟨d0, ⟨e0, e1, e2, e3, e4, e5, e6, e7⟩, d9⟩ := hd.below hbel hb
      have d10 := (hbel.cell (p := ⟨b, off + k * 11 + 10, none⟩) hb).trans hp
      have HGR := Lib.hid (grown_take slack idle ds k hkl)
      have HS := Lib.hid (HSM.out _ (List.getElem_mem hkl))
      have hkk := HKD.out _ (List.getElem_mem hkl)
      generalize ds[k] = d at *
      have t1 : (k : Int) < n := by omega
      have HDA := Lib.hid (show d.agg = .agg #[.int .u8 d.kind, .string ⟨d.e.src.toArray⟩, .int .i64 d.e.num, .int .i64 d.e.at_, .int .i64 d.e.kind, .string ⟨d.e.per.toArray⟩, .string ⟨d.e.item.toArray⟩, .int .i64 d.e.val, .string ⟨d.e.text.toArray⟩, .int .i64 d.now, .string ⟨d.per.toArray⟩] from rfl)
      have HD := Lib.hid (done_any wr F bi bm bc S (3 * k) _ HBN.out.both (by omega) d HS.out hkk.1 hkk.2 (HMX.out.up hbel) (fun hf => by have := HBN.out.newF _ hf; omega) (by have := HBN.out.bm0; omega) (by have := HBN.out.bc0; omega))
      rw [HDA.out] at HD
      clear hd hp
      go_wp2_with fail
      (with_reducible refine HD.out.mono ?_)
      rintro r w4 ⟨rfl, hd4⟩
      obtain ⟨F4, S4, hB4⟩ := HBN.out.deed hd4
      have HB4 := Lib.hid (show BothN w w.heap.size F4 bi bm bc S4 (3 * (k + 1)) (Itk.grown slack idle (ds.take (k + 1))) w4 by rw [HGR.out]; exact hB4)
      clear hd4 hB4 d0 e0 e1 e2 e3 e4 e5 e6 e7 d9 d10 HD HDA HGR
      go_wp2_with fail
      refine (even_any w4 F4 bi bm bc S4 _ _ ⟨HB4.out.both.itk, HB4.out.both.ref⟩ (by omega)).mono ?_
      rintro r w5 ⟨rfl, hb5⟩
      have HR := Lib.hid (show GrRel w slack idle ds bi bm bc (.int .i64 ((k + 1 : Nat) : Int)) w5 from ⟨k + 1, F4, S4, rfl, by omega, HB4.out.up hb5⟩)
      clear hb5
      go_wp2
      go_roundw
      case rel => exact HR.out
      case measure => simp [intOf]; omega
    · have t1 : ¬ (k : Int) < n := by omega
      have HF := Lib.hid (show GrPost w (3 * n) (Itk.grown slack idle ds) (.returned (.tuple #[.pointer (some ⟨bi, 0, none⟩), .pointer (some ⟨bm, 0, none⟩), .bool true])) wr from ⟨F, S, bi, bm, bc, rfl, by
        have := HBN.out
        rw [List.take_of_length_le (by rw [HL.out]; omega)] at this
        exact this.more (by omega)⟩)
      go_wp2
      exact bodyPost_ret (v := .tuple #[.pointer (some ⟨bi, 0, none⟩), .pointer (some ⟨bm, 0, none⟩), .bool true]) (by simp [results, Tryz.results28, go_sem]) rfl HF.out
end Go.Proofs.YtoljbbmjbgepiaaGreatDoor
