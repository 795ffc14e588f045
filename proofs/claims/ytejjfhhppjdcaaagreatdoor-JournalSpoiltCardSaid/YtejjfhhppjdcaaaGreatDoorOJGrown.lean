/-
  Layer 5: done: Read.
  Layer 5: done, at every kind of deed.
  Layer 5: grown: deeds at a journal, and at the document's.
-/
import Derived.Test.YtejjfhhppjdcaaaGreatDoorOJDw
import Derived.Test.YtejjfhhppjdcaaaGreatDoorOJDone3
import Derived.Test.YtejjfhhppjdcaaaGreatDoorOJDone4
import Derived.Test.YtejjfhhppjdcaaaGreatDoorOJDone5
import Derived.Test.YtejjfhhppjdcaaaGreatDoorOJGood
import Derived.Test.YtejjfhhppjdcaaaGreatDoorOJLives
import Derived.Deep.RegionHeld3
namespace Go.Proofs.YtejjfhhppjdcaaaGreatDoor
open Go.RowKit Go.Maps Go.Sort

set_option maxRecDepth 100000 in
set_option maxHeartbeats 4000000 in
theorem jdone_read (w : World) (G F : Nat → Prop) (bj bd : Nat) (v : Value) (j : Jl) (h : DoneSt w G F bj bd v j) (k : Int) (k0 : k ≠ 0) (k1 : k ≠ 1) (k2 : k ≠ 2) (k3 : k ≠ 3) (per : Int) (A : Option Addr) (n c : Nat) (p : List UInt8) (f m : Int) :
    Calls Tryz.prog 83 #[.pointer (some ⟨bj, 0, none⟩), .agg #[v, .int .i64 j.lasts], .int .i64 per, .agg #[.int .u8 k, .slice A n c, .string ⟨p.toArray⟩, .int .i64 f, .int .i64 m]] w (DonePost w G F bj bd j) := by
  obtain ⟨Av, cv, hv⟩ := ownsRow_form h.row
  have HS := Lib.hid h
  subst hv
  obtain ⟨z, hz⟩ : ∃ z, z = j.es.length := ⟨_, rfl⟩
  rw [← hz]
  have HZ := Lib.hid hz
  have t0 : (k == 0) = false := by simp; omega
  have t1 : (k == 1) = false := by simp; omega
  have t2 : (k == 2) = false := by simp; omega
  have t3 : (k == 3) = false := by simp; omega
  have hnum := h.jl.1.num
  rw [← hz] at hnum
  have HBAD := Lib.hid (show j.rdBad f m = (decide (f < 0) || decide ((z : Int) < f) || decide (m < 0)) from by rw [hz]; rfl)
  have HSEG := Lib.hid (show j.rdSeg f m = (j.es.drop f.toNat).take (min m ((z : Int) - f)).toNat from by rw [hz]; rfl)
  clear hz k0 k1 k2 k3 h
  obtain ⟨lz, hlz⟩ : ∃ lz, lz = j.lasts := ⟨_, rfl⟩
  have HLZ := Lib.hid hlz
  rw [← hlz]
  clear hlz
  go_enter Tryz.func83, Tryz.ntmps83
  go_upto_region 35 with fail
  obtain ⟨w3, hw3⟩ : ∃ w3, w3 = (((w.alloc (.cells #[.slice Av z cv, .int .i64 (lz : Int)] 55)).alloc (djObj k A n c p f m)).alloc (.cells #[.slice none 0 0, .int .i64 0] 55)) := ⟨_, rfl⟩
  rw [← hw3]
  have hs3 : w3.heap.size = w.heap.size + 3 := by rw [hw3]; simp
  have hb3 : RowKit.Below w.heap.size w w3 := by rw [hw3]; exact (((Below.refl _ _).alloc (Nat.le_refl _) _).alloc (by simp) _).alloc (by simp; omega) _
  have g5 : w3.heap[w.heap.size]? = some (.cells #[.slice Av z cv, .int .i64 (lz : Int)] 55) := by
    rw [hw3]; exact (heap_alloc_old _ _ (by simp; omega)).trans ((heap_alloc_old _ _ (by simp)).trans (heap_alloc_new w _))
  have g7 : w3.heap[w.heap.size + 1]? = some (djObj k A n c p f m) := by
    rw [hw3]
    have := heap_alloc_new (w.alloc (.cells #[.slice Av z cv, .int .i64 (lz : Int)] 55)) (djObj k A n c p f m)
    exact (heap_alloc_old _ _ (by simp)).trans (by simpa using this)
  have g8 : w3.heap[w.heap.size + 1 + 1]? = some (.cells #[.slice none 0 0, .int .i64 0] 55) := by
    rw [hw3]
    have := heap_alloc_new ((w.alloc (.cells #[.slice Av z cv, .int .i64 (lz : Int)] 55)).alloc (djObj k A n c p f m)) (.cells #[.slice none 0 0, .int .i64 0] 55)
    simpa using this
  clear hw3
  have HFX := Lib.hid (show ∀ W, RowKit.Below w3.heap.size w3 W → W.cell? ⟨w.heap.size, 0, none⟩ = some (.slice Av z cv) ∧ W.cell? ⟨w.heap.size, 1, none⟩ = some (.int .i64 (lz : Int)) ∧ W.cell? ⟨w.heap.size + 1, 3, none⟩ = some (.int .i64 f) ∧ W.cell? ⟨w.heap.size + 1, 4, none⟩ = some (.int .i64 m) ∧ W.heap[w.heap.size + 1 + 1]? = some (.cells #[.slice none 0 0, .int .i64 0] 55) from fun W hW =>
    ⟨cell_of_row W _ 0 _ _ (0, 0) ((hW.block _ (by omega)).trans g5), cell_of_row W _ 1 _ _ (0, 0) ((hW.block _ (by omega)).trans g5), cell_of_row W _ 3 _ _ (0, 0) ((hW.block _ (by omega)).trans g7), cell_of_row W _ 4 _ _ (0, 0) ((hW.block _ (by omega)).trans g7), (hW.block _ (by omega)).trans g8⟩)
  have HB3 := Lib.hid hb3
  have HJ3 := Lib.hid (HS.out.jl.up hb3)
  have HFIN := Lib.hid (show ∀ W, RowKit.Below w3.heap.size w3 W → DonePost w G F bj bd j (.returned (.tuple #[.agg #[.slice Av z cv, .int .i64 (lz : Int)], .bool true])) ((W.setCell ⟨w.heap.size + 1 + 1, 0, none⟩ (.slice Av z cv)).setCell ⟨w.heap.size + 1 + 1, 1, none⟩ (.int .i64 (lz : Int))) from fun W hW3 => by
    have hW := HB3.out.trans (hW3.mono HB3.out.size)
    have hsW := hW3.size
    have := HS.out.fin hW (JlD.refl (HS.out.jl.up hW)) rfl (w5 := (W.setCell ⟨w.heap.size + 1 + 1, 0, none⟩ (.slice Av z cv)).setCell ⟨w.heap.size + 1 + 1, 1, none⟩ (.int .i64 (lz : Int))) (by simp [World.setCell]) (fun b hb => by
      have hne : b ≠ w.heap.size + 1 + 1 := by omega
      exact (Below.heap_setCell _ ⟨w.heap.size + 1 + 1, 1, none⟩ _ b hne).trans (Below.heap_setCell _ ⟨w.heap.size + 1 + 1, 0, none⟩ _ b hne)) (fun hk => (hk.setCell (p := ⟨w.heap.size + 1 + 1, 0, none⟩) (fun h => by simp at h; omega) _).setCell (p := ⟨w.heap.size + 1 + 1, 1, none⟩) (fun h => by simp at h; omega) _)
    rw [← HZ.out, ← HLZ.out] at this
    exact this)
  obtain ⟨c50, c51, c73, c74, h80⟩ := HFX.out w3 (Below.refl _ _)
  clear g5 g7 g8 hb3
  go_wp2_with fail
  refine (jlread_any w3 G F bj bd j HJ3.out f m).mono ?_
  rintro r w4 ⟨v4, u4, rfl, hE, hI, hb4⟩
  obtain ⟨A4, e4, rfl, hEv⟩ := hE.form
  obtain ⟨A5, e5, rfl, hIv⟩ := hI.form
  clear c50 c51 c73 c74 h80
  obtain ⟨c50, c51, c73, c74, h80⟩ := HFX.out w4 hb4
  have x80 : w4.cell? ⟨w.heap.size + 1 + 1, 0, none⟩ = some (.slice none 0 0) := cell_of_row w4 _ 0 _ _ (0, 0) h80
  have x81 : w4.cell? ⟨w.heap.size + 1 + 1, 1, none⟩ = some (.int .i64 0) := cell_of_row w4 _ 1 _ _ (0, 0) h80
  have z80 : w4.frozen? ⟨w.heap.size + 1 + 1, 0, none⟩ = false := frozen_of_row w4 _ 0 _ _ h80
  have z81 : w4.frozen? ⟨w.heap.size + 1 + 1, 1, none⟩ = false := frozen_of_row w4 _ 1 _ _ h80
  have H80 := Lib.hid h80
  cases hbad : j.rdBad f m
  · rw [hbad] at hEv hIv
    simp only [Bool.false_eq_true, if_false] at hEv hIv ⊢
    have hbd := HBAD.out.symm.trans hbad
    simp only [Bool.or_eq_false_iff, decide_eq_false_iff_not, Int.not_lt] at hbd
    obtain ⟨⟨f0, f1⟩, f2⟩ := hbd
    obtain ⟨lo, rfl⟩ := Int.eq_ofNat_of_zero_le f0
    have HA4 := Lib.hid (show Ents w4 w4.heap.size Av z cv j.es from by
      have h1 : Ents w w.heap.size Av j.es.length cv j.es := Cel.of_own HS.out.row
      rw [← HZ.out] at h1
      exact Cel.more (Cel.below h1 (HB3.out.trans (hb4.mono HB3.out.size))) (by have := hb4.size; omega))
    have hlo : lo ≤ z := by omega
    have HRD := Lib.hid (show ∀ b' : Nat, (b' : Int) = min m z → Calls Tryz.prog 78 #[.slice Av z cv, .int .i64 lo, .int .i64 b'] w4 (RRdPost w4 (rdEv (j.rdSeg lo m)) (rdAt lo (j.rdSeg lo m))) from fun b' hb' => rread05_any w4 Av z cv j.es HA4.out hnum lo b' hlo (by omega) _ (by
      rw [HSEG.out, Int.toNat_natCast, List.take_eq_take_iff, List.length_drop, ← HZ.out]; omega))
    have hrl := rdEv_le (j.rdSeg lo m)
    have hra := rdAt_len (j.rdSeg lo m) lo
    have hsl : (j.rdSeg lo m).length ≤ z := by rw [HSEG.out, List.length_take, List.length_drop, ← HZ.out]; omega
    have HEV := Lib.hid hEv; have HIV := Lib.hid hIv
    rw [hra] at HIV ⊢
    have hs4 := hb4.size
    have HB4 := Lib.hid hb4
    clear hE hI hEv hIv hbad h80 hb4
    by_cases hmz : (z : Int) < m
    case' pos =>
      go_wp2_with fail
      refine (HRD.out z (by omega)).mono ?_
    case' neg =>
      obtain ⟨mm, rfl⟩ := Int.eq_ofNat_of_zero_le f2
      go_wp2_with fail
      refine (HRD.out mm (by omega)).mono ?_
    all_goals
      rintro r w6 ⟨v6, u6, rfl, hE, hI, hb6⟩
      obtain ⟨A6, e6, rfl, hEv⟩ := hE.form
      obtain ⟨A7, e7, rfl, hIv⟩ := hI.form
      rw [hra] at hIv ⊢
      have HB6 := Lib.hid (show RowKit.Below w3.heap.size w3 w6 from HB4.out.trans (hb6.mono HB4.out.size))
      have hs6 := hb6.size
      have hev4 := Cel.below HEV.out hb6
      have hiv4 := Cel.below HIV.out hb6
      have hz1 : (rdEv (j.rdSeg lo _)).length ≤ 100000 := Nat.le_trans hrl (Nat.le_trans hsl hnum)
      have HSM := Lib.hid (show Calls Tryz.prog 38 #[.slice A4 _ e4, .slice A6 _ e6] w6.drew (fun r w' => r = .returned (.bool true) ∧ RowKit.Below w6.heap.size w6 w') from (same02_any w6.drew w4.heap.size w6.heap.size A4 A6 _ e4 e6 _ (Cel.drewN hev4 1) (Cel.drewN hEv 1) hz1).mono fun r w' ⟨h1, q, h2⟩ => ⟨h1, h2 ▸ below_drewN (below_drewN (Below.refl _ _) 1) q⟩)
      have HSI := Lib.hid (show ∀ W, RowKit.Below w6.heap.size w6 W → Calls Tryz.prog 79 #[.slice A5 _ e5, .slice A7 _ e7] W (fun r w' => r = .returned (.bool true) ∧ RowKit.Below w6.heap.size w6 w') from fun W hW => (rsame05_any W w4.heap.size w6.heap.size A5 A7 _ e5 e7 _ (Cel.below hiv4 (hW.mono hs6)) (Cel.below hIv hW) hz1).mono fun r w' ⟨h1, q, h2⟩ => ⟨h1, h2 ▸ below_drewN hW q⟩)
      have HSC := Lib.hid (show ∀ W, RowKit.Below w6.heap.size w6 W → RowKit.Below w3.heap.size w3 W ∧ (W.cell? ⟨w.heap.size, 0, none⟩ = some (.slice Av z cv) ∧ W.cell? ⟨w.heap.size, 1, none⟩ = some (.int .i64 (lz : Int))) ∧ W.heap[w.heap.size + 1 + 1]? = some (.cells #[.slice none 0 0, .int .i64 0] 55) from fun W hW => by
        have hb := HB6.out.trans (hW.mono HB6.out.size)
        obtain ⟨q1, q2, _, _, q5⟩ := HFX.out W hb
        exact ⟨hb, ⟨q1, q2⟩, q5⟩)
      have HST3 := Lib.hid (show ∀ w2 : World, (w2.cell? ⟨w.heap.size, 0, none⟩ = some (.slice Av z cv) ∧ w2.cell? ⟨w.heap.size, 1, none⟩ = some (.int .i64 (lz : Int))) → (((w2.setCell ⟨w.heap.size + 1 + 1, 0, none⟩ (.slice Av z cv)).setCell ⟨w.heap.size + 1 + 1, 1, none⟩ (.int .i64 (lz : Int))).cell? ⟨w.heap.size, 0, none⟩ = some (.slice Av z cv) ∧ ((w2.setCell ⟨w.heap.size + 1 + 1, 0, none⟩ (.slice Av z cv)).setCell ⟨w.heap.size + 1 + 1, 1, none⟩ (.int .i64 (lz : Int))).cell? ⟨w.heap.size, 1, none⟩ = some (.int .i64 (lz : Int))) from fun w2 hS2 => by
        have hx := (Below.heap_setCell (w2.setCell ⟨w.heap.size + 1 + 1, 0, none⟩ (.slice Av z cv)) ⟨w.heap.size + 1 + 1, 1, none⟩ (.int .i64 (lz : Int)) w.heap.size (by show w.heap.size ≠ w.heap.size + 1 + 1; omega)).trans (Below.heap_setCell w2 ⟨w.heap.size + 1 + 1, 0, none⟩ (.slice Av z cv) w.heap.size (by show w.heap.size ≠ w.heap.size + 1 + 1; omega))
        exact ⟨(World.cell?_of_block (w := w2) (a := ⟨w.heap.size, 0, none⟩) hx).trans hS2.1, (World.cell?_of_block (w := w2) (a := ⟨w.heap.size, 1, none⟩) hx).trans hS2.2⟩)
      clear c50 c51 c73 c74 x80 x81 z80 z81
      obtain ⟨_, ⟨c50, c51⟩, _⟩ := HSC.out w6 (Below.refl _ _)
      clear hE hI hEv hIv hev4 hiv4 hrl hra hsl HEV HIV HRD HA4 hb6
      go_upto_region 42 with fail
      go_region_held3 (fun wx => wx.cell? ⟨w.heap.size, 0, none⟩ = some (.slice Av z cv) ∧ wx.cell? ⟨w.heap.size, 1, none⟩ = some (.int .i64 (lz : Int))) (first | assumption | go_keep) (first
        | (go_at_call 38; (with_reducible refine HSM.out.mono ?_); rintro r9 w7 ⟨rfl, hb7⟩; have HB7 := Lib.hid hb7; have hS7 := (HSC.out w7 hb7).2.1; clear hb7)
        | (go_at_call 79; (with_reducible refine (HSI.out w7 HB7.out).mono ?_); rintro r9 w8 ⟨rfl, hb8⟩; obtain ⟨hb38, hS8, h88⟩ := HSC.out w8 hb8; have hS9 := HST3.out w8 hS8;
            have x80 : w8.cell? ⟨w.heap.size + 1 + 1, 0, none⟩ = some (.slice none 0 0) := cell_of_row w8 _ 0 _ _ (0, 0) h88;
            have x81 : w8.cell? ⟨w.heap.size + 1 + 1, 1, none⟩ = some (.int .i64 0) := cell_of_row w8 _ 1 _ _ (0, 0) h88;
            have z80 : w8.frozen? ⟨w.heap.size + 1 + 1, 0, none⟩ = false := frozen_of_row w8 _ 0 _ _ h88;
            have z81 : w8.frozen? ⟨w.heap.size + 1 + 1, 1, none⟩ = false := frozen_of_row w8 _ 1 _ _ h88;
            have HB38 := Lib.hid hb38; have H88 := Lib.hid h88; clear hb8 hb38 h88))
      all_goals
        have r80 : ((w8.setCell ⟨w.heap.size + 1 + 1, 0, none⟩ (.slice Av z cv)).setCell ⟨w.heap.size + 1 + 1, 1, none⟩ (.int .i64 (lz : Int))).cell? ⟨w.heap.size + 1 + 1, 0, none⟩ = some (.slice Av z cv) := cell_of_row _ _ 0 _ _ (0, 0) (heap_set_row (heap_set_row H88.out))
        have r81 : ((w8.setCell ⟨w.heap.size + 1 + 1, 0, none⟩ (.slice Av z cv)).setCell ⟨w.heap.size + 1 + 1, 1, none⟩ (.int .i64 (lz : Int))).cell? ⟨w.heap.size + 1 + 1, 1, none⟩ = some (.int .i64 (lz : Int)) := cell_of_row _ _ 1 _ _ (0, 0) (heap_set_row (heap_set_row H88.out))
        have HR := Lib.hid (HFIN.out w8 HB38.out)
        clear hS7 hS8 hS9 x80 x81 z80 z81 c50 c51
        generalize (w8.setCell ⟨w.heap.size + 1 + 1, 0, none⟩ (.slice Av z cv)).setCell ⟨w.heap.size + 1 + 1, 1, none⟩ (.int .i64 (lz : Int)) = w5 at *
        go_wp2
        exact bodyPost_ret (v := .tuple #[.agg #[.slice Av z cv, .int .i64 (lz : Int)], .bool true]) (by simp [results, Tryz.results83, go_sem, r80, r81]) rfl HR.out
  · rw [hbad] at hEv hIv
    simp only [if_true, List.length_nil] at hEv hIv ⊢
    have hbd := HBAD.out.symm.trans hbad
    have HR := Lib.hid (HFIN.out w4 hb4)
    have r80 : ((w4.setCell ⟨w.heap.size + 1 + 1, 0, none⟩ (.slice Av z cv)).setCell ⟨w.heap.size + 1 + 1, 1, none⟩ (.int .i64 (lz : Int))).cell? ⟨w.heap.size + 1 + 1, 0, none⟩ = some (.slice Av z cv) := cell_of_row _ _ 0 _ _ (0, 0) (heap_set_row (heap_set_row H80.out))
    have r81 : ((w4.setCell ⟨w.heap.size + 1 + 1, 0, none⟩ (.slice Av z cv)).setCell ⟨w.heap.size + 1 + 1, 1, none⟩ (.int .i64 (lz : Int))).cell? ⟨w.heap.size + 1 + 1, 1, none⟩ = some (.int .i64 (lz : Int)) := cell_of_row _ _ 1 _ _ (0, 0) (heap_set_row (heap_set_row H80.out))
    clear h80 hE hI hEv hIv hb4
    by_cases f0 : f < 0
    · go_wp2
      exact bodyPost_ret (v := .tuple #[.agg #[.slice Av z cv, .int .i64 (lz : Int)], .bool true]) (by simp [results, Tryz.results83, go_sem, r80, r81]) rfl HR.out
    by_cases f1 : (z : Int) < f
    · go_wp2
      exact bodyPost_ret (v := .tuple #[.agg #[.slice Av z cv, .int .i64 (lz : Int)], .bool true]) (by simp [results, Tryz.results83, go_sem, r80, r81]) rfl HR.out
    have f2 : m < 0 := by
      rw [decide_eq_false f0, decide_eq_false f1] at hbd
      simpa using hbd
    go_wp2
    exact bodyPost_ret (v := .tuple #[.agg #[.slice Av z cv, .int .i64 (lz : Int)], .bool true]) (by simp [results, Tryz.results83, go_sem, r80, r81]) rfl HR.out
end Go.Proofs.YtejjfhhppjdcaaaGreatDoor
namespace Go.Proofs.YtejjfhhppjdcaaaGreatDoor
open Go.RowKit Go.Maps Go.Sort

theorem jdone_any (w : World) (G F : Nat → Prop) (bj bd : Nat) (v : Value) (j : Jl) (h : DoneSt w G F bj bd v j) (hg : j.Good) (d : Dj) (A : Option Addr) (n c : Nat)
    (he : Evs w w.heap.size A n c d.l) (hA : ∀ b off, A = some ⟨b, off, none⟩ → 0 < n → ¬ (G b ∨ F b)) (hs : ∀ e ∈ d.l, e.small) (hn : j.es.length + d.l.length ≤ 90) (hmx : MaxAt w) (hbl : ¬ G 1 ∧ ¬ F 1) :
    Calls Tryz.prog 83 #[.pointer (some ⟨bj, 0, none⟩), .agg #[v, .int .i64 j.lasts], .int .i64 j.per, .agg #[.int .u8 d.kind, .slice A n c, .string ⟨d.per.toArray⟩, .int .i64 d.from_, .int .i64 d.n]] w (DonePost w G F bj bd (j.deed d)) := by
  obtain ⟨k, l, p, f, m⟩ := d
  simp only at he hs hn ⊢
  have hyes : l.all mayB = true → j.appE l = 0 ∧ j.appN l = j.es.length ∧ (j.app l).es = j.es ++ l.map some ∧ (j.app l).lasts = max j.lasts (autoN (j.es.length + l.length) j.per) := fun hl => by
    obtain ⟨_, a2, a3, a4, _, _, a7⟩ := hg.app (l := l) (by omega) hl
    exact ⟨a2, a3, a4, a7⟩
  have hno : l.all mayB = false → j.app l = j ∧ j.appE l = 1 ∧ j.appN l = 0 := fun hl => hg.app_no hl
  unfold Jl.deed
  simp only
  by_cases k0 : k = 0
  · subst k0
    rw [if_pos (.inl rfl)]
    exact jdone_app0 w G F bj bd v j h A n c p f m l he hA hs (by omega) hmx hbl hyes hno
  by_cases k1 : k = 1
  · subst k1
    rw [if_pos (.inr rfl)]
    exact jdone_app1 w G F bj bd v j h A n c p f m l he hA hs (by omega) hmx hbl hyes hno
  rw [if_neg (by omega)]
  by_cases k2 : k = 2
  · subst k2
    rw [if_pos rfl]
    obtain ⟨_, a2, a3, _, _, a6⟩ := hg.syncA (by omega)
    exact jdone_sync w G F bj bd v j h (by have := hg.fine.small; omega) a2 a3 a6 j.per A n c p f m
  rw [if_neg k2]
  by_cases k3 : k = 3
  · subst k3
    rw [if_pos rfl]
    obtain ⟨j', e, _, a2, _, _, a5⟩ := hg.rewr (by omega) (stayP p)
    have := jdone_rewr w G F bj bd v j h A n c p f m (by omega) hmx hbl j' e a2 a5
    rw [e]
    exact this
  rw [if_neg k3]
  exact jdone_read w G F bj bd v j h k k0 k1 k2 k3 j.per A n c p f m
end Go.Proofs.YtejjfhhppjdcaaaGreatDoor
namespace Go.Proofs.YtejjfhhppjdcaaaGreatDoor
open Go.RowKit Go.Maps Go.Sort

/-- a journal behind deeds: nothing of it lies below B -/
def GrPost (w : World) (B bd : Nat) (j : Jl) (e : Ending) (w' : World) : Prop :=
  ∃ (bj z c : Nat) (A : Option Addr) (G F : Nat → Prop), e = .returned (.tuple #[.pointer (some ⟨bj, 0, none⟩), .agg #[.slice A z c, .int .i64 j.lasts], .bool true]) ∧ DoneSt w' G F bj bd (.slice A z c) j ∧ (∀ b, G b ∨ F b → B ≤ b) ∧ RowKit.Below B w w'
structure GrS (w : World) (B b7 b11 bj bd : Nat) (G F : Nat → Prop) (A : Option Addr) (z c : Nat) (j : Jl) (W : World) : Prop where
  st : DoneSt W G F bj bd (.slice A z c) j
  lo : ∀ b, G b ∨ F b → B ≤ b
  n7 : ¬ (G b7 ∨ F b7)
  n11 : ¬ (G b11 ∨ F b11)
  h7 : W.heap[b7]? = some (stObj none 0 0 0)
  h11 : W.heap[b11]? = some (stObj A z c j.lasts)
  bel : RowKit.Below B w W
def GrRel (w : World) (B b7 b11 bj bd : Nat) (j0 : Jl) (ds : List Dj) (i : Value) (W : World) : Prop :=
  ∃ (k z c : Nat) (A : Option Addr) (G F : Nat → Prop), i = .int .i64 k ∧ k ≤ ds.length ∧ GrS w B b7 b11 bj bd G F A z c (j0.deeds (ds.take k)) W
theorem DoneSt.up {w w' : World} {G F : Nat → Prop} {bj bd : Nat} {v : Value} {j : Jl} (h : DoneSt w G F bj bd v j) (hb : RowKit.Below w.heap.size w w') : DoneSt w' G F bj bd v j :=
  ⟨h.jl.up hb, h.row.keepB fun b hb' => hb.block b (World.ownsRow.lt h.row b hb').2, h.ap⟩
theorem GrS.next {w W W2 : World} {B b7 b11 bj bd z c z' c' : Nat} {G F G' F' : Nat → Prop} {A A' : Option Addr} {j j' : Jl} (h : GrS w B b7 b11 bj bd G F A z c j W) (hB : B ≤ b11) (h711 : b7 ≠ b11)
    (hd : DoneSt W2 G' F' bj bd (.slice A' z' c') j') (hG : ∀ b, G' b → G b ∨ W.heap.size ≤ b) (hF : ∀ b, F' b → F b ∨ W.heap.size ≤ b) (hk : Keep (fun b => G b ∨ F b) W W2) (hv : (Value.slice A' z' c').ownBlock ≠ some b11) :
    GrS w B b7 b11 bj bd G' F' A' z' c' j' ((W2.setCell ⟨b11, 0, none⟩ (.slice A' z' c')).setCell ⟨b11, 1, none⟩ (.int .i64 j'.lasts)) := by
  have hs := hk.size
  have l7 : b7 < W.heap.size := (Array.getElem?_eq_some_iff.1 h.h7).1
  have l11 : b11 < W.heap.size := (Array.getElem?_eq_some_iff.1 h.h11).1
  have hn : ∀ b, b < W.heap.size → ¬ (G b ∨ F b) → ¬ (G' b ∨ F' b) := fun b hb hno hg => by
    rcases hg with hg | hg
    · rcases hG b hg with h1 | h1
      · exact hno (.inl h1)
      · omega
    · rcases hF b hg with h1 | h1
      · exact hno (.inr h1)
      · omega
  have hblk : ∀ b, b ≠ b11 → ((W2.setCell ⟨b11, 0, none⟩ (.slice A' z' c')).setCell ⟨b11, 1, none⟩ (.int .i64 j'.lasts)).heap[b]? = W2.heap[b]? := fun b hb =>
    (Below.heap_setCell _ ⟨b11, 1, none⟩ _ b hb).trans (Below.heap_setCell _ ⟨b11, 0, none⟩ _ b hb)
  have hn11 := hn _ l11 h.n11
  have h11' : W2.heap[b11]? = some (stObj A z c j.lasts) := (hk.block _ l11 h.n11).trans h.h11
  have hBW := h.bel.size
  refine ⟨⟨hd.jl.keep (by simp [World.setCell]) (fun b hb => hblk b (fun e => hn11 (e ▸ hb))), hd.row.keepB fun b hb => hblk b (fun e => hv (e ▸ hb)), hd.ap⟩, fun b hb => ?_, hn _ l7 h.n7, hn11, (hblk _ h711).trans ((hk.block _ l7 h.n7).trans h.h7), heap_set_row (heap_set_row h11'), ?_⟩
  · rcases hb with hb | hb
    · rcases hG b hb with h1 | h1
      · exact h.lo b (.inl h1)
      · omega
    · rcases hF b hb with h1 | h1
      · exact h.lo b (.inr h1)
      · omega
  · have hk2 : Keep (fun b => G b ∨ F b ∨ b = b11) W ((W2.setCell ⟨b11, 0, none⟩ (.slice A' z' c')).setCell ⟨b11, 1, none⟩ (.int .i64 j'.lasts)) :=
      ((hk.mono (F := fun b => G b ∨ F b ∨ b = b11) (fun b _ hb => hb.imp id .inl)).setCell (p := ⟨b11, 0, none⟩) (fun _ => .inr (.inr rfl)) _).setCell (p := ⟨b11, 1, none⟩) (fun _ => .inr (.inr rfl)) _
    exact h.bel.trans (hk2.below (by omega) (fun b hb hg => by
      rcases hg with hg | hg | hg
      · have := h.lo b (.inl hg); omega
      · have := h.lo b (.inr hg); omega
      · omega))
theorem GrS.up {w W W' : World} {B b7 b11 bj bd z c : Nat} {G F : Nat → Prop} {A : Option Addr} {j : Jl} (h : GrS w B b7 b11 bj bd G F A z c j W) (hB : B ≤ W.heap.size) (hb : RowKit.Below W.heap.size W W') : GrS w B b7 b11 bj bd G F A z c j W' :=
  ⟨h.st.up hb, h.lo, h.n7, h.n11, (hb.block _ (Array.getElem?_eq_some_iff.1 h.h7).1).trans h.h7, (hb.block _ (Array.getElem?_eq_some_iff.1 h.h11).1).trans h.h11, h.bel.trans (hb.mono hB)⟩
theorem row_not_state {W : World} {v : Value} {es : List (Option Ev)} {b z c las : Nat} {A : Option Addr} (h : OwnR W 0 v es) (hb : W.heap[b]? = some (stObj A z c las)) : v.ownBlock ≠ some b := by
  intro e
  rcases h.2 with ⟨e', _⟩ | ⟨g, cap, cur, e', _, hg, _⟩
  · rw [e'] at e; simp [Value.ownBlock] at e
  · rw [e'] at e
    have e2 : g = b := by simpa [Value.ownBlock] using e
    rw [e2, hb] at hg
    injection hg with hg; injection hg with _ ht
    exact absurd ht (by decide)
set_option maxRecDepth 100000 in
set_option maxHeartbeats 8000000 in
theorem grown_any (w : World) (G0 : Nat → Prop) (bd B : Nat) (h : DkIn w G0 bd Dk.new) (hB : B ≤ w.heap.size) (hG0 : ∀ b, G0 b → B ≤ b) (A : Option Addr) (n c : Nat) (ds : List Dj) (hd : Djs w B A n c ds)
    (per : Nat) (hp : 1 ≤ per) (hp2 : per ≤ 8) (hsm : ∀ d ∈ ds, ∀ e ∈ d.l, e.small) (hsum : sumL ds ≤ 60) (hmx : MaxAt w) (hml : 1 < B) (hnn : n ≤ 140737488355328) :
    Calls Tryz.prog 43 #[.pointer (some ⟨bd, 0, none⟩), .int .i64 per, .slice A n c] w (GrPost w B bd ((Jl.new Dk.new [106] per).deeds ds)) := by
  have HD := Lib.hid hd; have HMX := Lib.hid hmx; have HSM := Lib.hid hsm; have HG0 := Lib.hid hG0; have HDK := Lib.hid h
  have hl := hd.len
  have HL := Lib.hid hl
  obtain ⟨j0, hj0⟩ : ∃ j0, j0 = Jl.new Dk.new [106] per := ⟨_, rfl⟩
  have HJ0 := Lib.hid (show j0.Good ∧ j0.es = [] ∧ j0.per = per ∧ j0.lasts = 0 by rw [hj0]; exact ⟨Jl.good_new [106] per (by simp) hp, rfl, rfl, rfl⟩)
  have HOP := Lib.hid (show ∀ W, RowKit.Below w.heap.size w W → Calls Tryz.prog 18 #[.pointer (some ⟨bd, 0, none⟩), .string ⟨#[106]⟩, .int .i64 per] W (OpenPost W G0 bd j0) from fun W hW => by
    rw [hj0]; exact jlopen0_any W G0 bd Dk.new (HDK.out.up hW) rfl rfl [106] (by decide) per hp (by omega))
  rw [← hj0]
  clear hd hmx hsm hG0 h hl hj0
  go_enter Tryz.func43, Tryz.ntmps43
  go_upto_region 1 with fail
  have hb1 : RowKit.Below w.heap.size w (w.alloc (stObj none 0 0 0)) := (Below.refl _ _).alloc (Nat.le_refl _) _
  have HB1 := Lib.hid hb1
  have HT1 := Lib.hid (heap_alloc_new w (stObj none 0 0 0))
  have HS1 := Lib.hid (show (w.alloc (stObj none 0 0 0)).heap.size = w.heap.size + 1 by simp)
  obtain ⟨w1, hw1⟩ : ∃ w1, w1 = w.alloc (stObj none 0 0 0) := ⟨_, rfl⟩
  rw [← hw1] at HB1 HT1 HS1 ⊢
  clear hw1 hb1
  go_wp2_with fail
  refine (HOP.out w1 HB1.out).mono ?_
  rintro r w2 ⟨bj, G2, F2, rfl, hj2, hG2, hF2, hk2⟩
  go_upto_region 7 with fail
  have hs2 := hk2.size
  have HB2 := Lib.hid (show RowKit.Below B w w2 from (HB1.out.mono hB).trans (hk2.below (by have := HB1.out.size; omega) (fun k hk hg => by have := HG0.out k hg; omega)))
  have hb23 : RowKit.Below w2.heap.size w2 (w2.alloc (stObj none 0 0 0)) := (Below.refl _ _).alloc (Nat.le_refl _) _
  have HST := Lib.hid (show GrRel w B w.heap.size w2.heap.size bj bd j0 ds (.int .i64 0) (w2.alloc (stObj none 0 0 0)) from by
    refine ⟨0, 0, 0, none, G2, F2, rfl, Nat.zero_le _, ?_⟩
    show GrS w B w.heap.size w2.heap.size bj bd G2 F2 none 0 0 j0 (w2.alloc (stObj none 0 0 0))
    refine ⟨⟨hj2.up hb23, ?_, fun b hb => by simp [Value.ownBlock] at hb⟩, fun b hb => ?_, fun hb => ?_, fun hb => ?_, ?_, ?_, HB2.out.trans (hb23.mono (by have := HS1.out; omega))⟩
    · rw [HJ0.out.2.1]; exact ⟨rfl, .inl ⟨rfl, rfl⟩⟩
    · rcases hb with hb | hb
      · rcases hG2 b hb with h | h
        · exact HG0.out b h
        · have := HS1.out; omega
      · have := hF2 b hb; have := HS1.out; omega
    · rcases hb with hb | hb
      · rcases hG2 _ hb with h | h
        · have := HDK.out.lt _ h; omega
        · have := HS1.out; omega
      · have := hF2 _ hb; have := HS1.out; omega
    · have := hj2.lt _ hb; omega
    · exact (heap_alloc_old _ _ (by have := HS1.out; omega)).trans ((hk2.block _ (by have := HS1.out; omega) (fun h => by have := HDK.out.lt _ h; omega)).trans HT1.out)
    · rw [HJ0.out.2.2.2]; exact heap_alloc_new w2 (stObj none 0 0 0))
  have hb11 : w.heap.size < w2.heap.size := by have := HS1.out; omega
  obtain ⟨b11, hb11d⟩ : ∃ b11, b11 = w2.heap.size := ⟨_, rfl⟩
  rw [← hb11d] at HST hb11 ⊢
  clear hj2 hG2 hF2 hk2 hs2 hb23
  obtain ⟨w3, hw3⟩ : ∃ w3, w3 = w2.alloc (stObj none 0 0 0) := ⟨_, rfl⟩
  rw [← hw3] at HST ⊢
  clear hw3 hb11d
  go_loopw [12, 13] (fun _ i W => GrRel w B w.heap.size b11 bj bd j0 ds i W) (fun _ i _ => n - (intOf i).toNat)
  case atStart => exact HST.out
  case round =>
    obtain ⟨k, z, cc, Av, G, F, rfl, hk, hgr⟩ := hrel
    have HGR := Lib.hid hgr
    have hkL : k ≤ n := by rw [← HL.out]; exact hk
    have HJK := Lib.hid (HJ0.out.1.deeds HJ0.out.2.1 (ds.take k) (by have := sumL_take ds k; omega))
    have c0 : wr.cell? ⟨b11, 0, none⟩ = some (.slice Av z cc) := cell_of_row wr _ 0 _ _ (0, 0) hgr.h11
    have c1 : wr.cell? ⟨b11, 1, none⟩ = some (.int .i64 (j0.deeds (ds.take k)).lasts) := cell_of_row wr _ 1 _ _ (0, 0) hgr.h11
    by_cases hkn : k < n
    · have hkl : k < ds.length := by rw [HL.out]; exact hkn
      obtain ⟨b, off, hAe, hbB, hd⟩ := HD.out.at_ k hkl
      subst hAe
      obtain ⟨e0, ⟨A1, n1, c1', e1, hev0, hn1⟩, e2, e3, e4⟩ := hd
      have HCL := Lib.hid (show ∀ W, RowKit.Below B w W → (W.cell? ⟨b, off + k * 5, none⟩ = some (.int .u8 ds[k].kind) ∧ W.cell? ⟨b, off + k * 5 + 1, none⟩ = some (.slice A1 n1 c1') ∧ W.cell? ⟨b, off + k * 5 + 2, none⟩ = some (.string ⟨ds[k].per.toArray⟩) ∧ W.cell? ⟨b, off + k * 5 + 3, none⟩ = some (.int .i64 ds[k].from_) ∧ W.cell? ⟨b, off + k * 5 + 4, none⟩ = some (.int .i64 ds[k].n)) from fun W hW =>
        ⟨(hW.cell (p := ⟨b, _, none⟩) hbB).trans e0, (hW.cell (p := ⟨b, _, none⟩) hbB).trans e1, (hW.cell (p := ⟨b, _, none⟩) hbB).trans e2, (hW.cell (p := ⟨b, _, none⟩) hbB).trans e3, (hW.cell (p := ⟨b, _, none⟩) hbB).trans e4⟩)
      obtain ⟨d0, d1, d2, d3, d4⟩ := HCL.out wr hgr.bel
      have hev : Evs wr B A1 n1 c1' ds[k].l := Cel.below hev0 hgr.bel
      clear e0 e1 e2 e3 e4 hev0
      have HEV := Lib.hid hev
      have HJS := Lib.hid (show j0.deeds (ds.take (k + 1)) = (j0.deeds (ds.take k)).deed ds[k] by rw [List.take_add_one, List.getElem?_eq_getElem hkl, Option.toList_some, Jl.deeds_snoc])
      have hsk : sumL (ds.take k) + ds[k].l.length ≤ 60 := by have h1 := sumL_snoc ds k hkl; have h2 := sumL_take ds (k + 1); omega
      have HDS := Lib.hid (HSM.out ds[k] (List.getElem_mem hkl))
      obtain ⟨jk, hjk⟩ : ∃ jk, jk = j0.deeds (ds.take k) := ⟨_, rfl⟩
      obtain ⟨d, hdk⟩ : ∃ d, d = ds[k] := ⟨_, rfl⟩
      rw [← hjk] at hgr HGR HJK HJS c1
      rw [← hdk] at d0 d2 d3 d4 HEV HJS hsk HDS HCL
      have HJN := Lib.hid hjk
      clear hjk hev hdk
      have hpk : jk.per = per := HJK.out.2.2.2.trans HJ0.out.2.2.1
      have HML := Lib.hid (show ¬ G 1 ∧ ¬ F 1 from ⟨fun h => by have := hgr.lo _ (.inl h); omega, fun h => by have := hgr.lo _ (.inr h); omega⟩)
      have HDN := Lib.hid (jdone_any wr.drew G F bj bd (.slice Av z cc) jk (hgr.st.up (below_drewN (Below.refl _ _) 1)) HJK.out.1 d A1 n1 c1' (Cel.more (Cel.drewN HEV.out 1) (by have := hgr.bel.size; show B ≤ wr.heap.size; omega)) (fun b' off' e h0 hg => by
        obtain ⟨b2, off2, e2, hb2, _⟩ := Cel.cell HEV.out h0
        rw [e2] at e; injection e with e; injection e with e
        have := hgr.lo b' hg; omega) HDS.out (by have := HJK.out.2.1; omega) (by obtain ⟨m, hm⟩ := HMX.out; exact ⟨m, (hgr.bel.cell (p := ⟨1, 0, none⟩) hml).trans hm⟩) HML.out)
      rw [hpk] at HDN
      have HPK := Lib.hid hpk
      have hbw := hgr.bel.size
      have HNX := Lib.hid (show ∀ v' G' F' W2, DoneSt W2 G' F' bj bd v' (jk.deed d) → (∀ b, G' b → G b ∨ wr.drew.heap.size ≤ b) → (∀ b, F' b → F b ∨ wr.drew.heap.size ≤ b) → Keep (fun b => G b ∨ F b) wr.drew W2 → ∃ A' z' c', v' = .slice A' z' c' ∧ RowKit.Below B w W2 ∧ W2.heap[b11]? = some (stObj Av z cc jk.lasts) ∧ GrS w B w.heap.size b11 bj bd G' F' A' z' c' (jk.deed d) ((W2.setCell ⟨b11, 0, none⟩ (.slice A' z' c')).setCell ⟨b11, 1, none⟩ (.int .i64 ((jk.deed d).lasts : Int))) from fun v' G' F' W2 hd hG hF hk => by
        obtain ⟨A', c', hv⟩ := ownsRow_form hd.row
        subst hv
        have hk' : Keep (fun b => G b ∨ F b) wr W2 := ⟨hk.os, hk.tape, hk.output, hk.size, hk.block⟩
        have l11 : b11 < wr.heap.size := (Array.getElem?_eq_some_iff.1 HGR.out.h11).1
        have h11 := (hk'.block b11 l11 HGR.out.n11).trans HGR.out.h11
        exact ⟨A', _, c', rfl, HGR.out.bel.trans (hk'.below (by omega) (fun q hq hg => by have := HGR.out.lo q hg; omega)), h11, HGR.out.next (by omega) (by omega) hd hG hF hk' (row_not_state hd.row h11)⟩)
      have t1 : (k : Int) < n := by omega
      have HC0 := c0
      go_upto_region 9 with fail
      go_region_law (go_simp; go_at_call 83; (with_reducible refine HDN.out.mono ?_); rintro r9 w4 ⟨v', G', F', rfl, hd', hG', hF', hk'⟩; obtain ⟨A', z', c', hv', hbel', h11', hgn⟩ := HNX.out v' G' F' w4 hd' hG' hF' hk'; subst hv'; have hS4 := HCL.out w4 hbel'; have hS5 := HCL.out _ hgn.bel; have x0 : w4.cell? ⟨b11, 0, none⟩ = some (.slice Av z cc) := cell_of_row w4 _ 0 _ _ (0, 0) h11'; have x1 : w4.cell? ⟨b11, 1, none⟩ = some (.int .i64 (jk.lasts : Int)) := cell_of_row w4 _ 1 _ _ (0, 0) h11'; have z0 : w4.frozen? ⟨b11, 0, none⟩ = false := frozen_of_row w4 _ 0 _ _ h11'; have z1 : w4.frozen? ⟨b11, 1, none⟩ = false := frozen_of_row w4 _ 1 _ _ h11'; have HGN := Lib.hid hgn; clear hd' hG' hF' hk' hbel' h11' hgn)
      all_goals
        clear hS4 hS5 x0 x1 z0 z1 c0 c1 HC0 d0 d1 d2 d3 d4
        obtain ⟨w5, hw5⟩ : ∃ w5, w5 = (w4.setCell ⟨b11, 0, none⟩ (.slice A' z' c')).setCell ⟨b11, 1, none⟩ (.int .i64 ((jk.deed d).lasts : Int)) := ⟨_, rfl⟩
        rw [← hw5] at HGN ⊢
        clear hw5
        have e0 : w5.cell? ⟨b11, 0, none⟩ = some (.slice A' z' c') := cell_of_row w5 _ 0 _ _ (0, 0) HGN.out.h11
        have e1 : w5.cell? ⟨b11, 1, none⟩ = some (.int .i64 ((jk.deed d).lasts : Int)) := cell_of_row w5 _ 1 _ _ (0, 0) HGN.out.h11
        have hb5 := HGN.out.bel.size
        have hz' : z' = (jk.deed d).es.length := by
          obtain ⟨A2, c2, hv2⟩ := ownsRow_form HGN.out.st.row
          injection hv2
        have HEN := Lib.hid (show Ents w5 w5.heap.size A' z' c' (jk.deed d).es from by rw [hz']; rw [hz'] at HGN; exact Cel.of_own HGN.out.st.row)
        have HEV5 := Lib.hid (jeven_any w5 G' F' bj bd (jk.deed d) HGN.out.st.jl A' z' c' HEN.out)
        clear hz'
        have HRL := Lib.hid (show ∀ w6, RowKit.Below w5.heap.size w5 w6 → GrRel w B w.heap.size b11 bj bd j0 ds (.int .i64 ((k : Int) + 1)) w6 from fun w6 hb6 => ⟨k + 1, z', c', A', G', F', rfl, by omega, by rw [HJS.out]; exact HGN.out.up (by omega) hb6⟩)
        go_wp2_with fail
        refine HEV5.out.mono ?_
        rintro r w6 ⟨rfl, hb6⟩
        have HR6 := Lib.hid (HRL.out w6 hb6)
        clear e0 e1 hb6
        go_wp2
        go_roundw
        case rel => exact HR6.out
        case measure => simp [intOf]; omega
    · obtain rfl : k = n := by omega
      have hte : ds.take k = ds := List.take_of_length_le (by rw [HL.out]; exact Nat.le_refl _)
      rw [hte] at hgr HGR HJK c1
      obtain ⟨jk, hjk⟩ : ∃ jk, jk = j0.deeds ds := ⟨_, rfl⟩
      rw [← hjk] at hgr HGR HJK c1
      have HJN := Lib.hid hjk
      have t1 : ¬ (k : Int) < k := by omega
      have hbw := hgr.bel.size
      have x0 : wr.cell? ⟨w.heap.size, 0, none⟩ = some (.slice none 0 0) := cell_of_row wr _ 0 _ _ (0, 0) hgr.h7
      have x1 : wr.cell? ⟨w.heap.size, 1, none⟩ = some (.int .i64 0) := cell_of_row wr _ 1 _ _ (0, 0) hgr.h7
      have z0 : wr.frozen? ⟨w.heap.size, 0, none⟩ = false := frozen_of_row wr _ 0 _ _ hgr.h7
      have z1 : wr.frozen? ⟨w.heap.size, 1, none⟩ = false := frozen_of_row wr _ 1 _ _ hgr.h7
      have HR := Lib.hid (show ∀ q, GrPost w B bd (j0.deeds ds) (.returned (.tuple #[.pointer (some ⟨bj, 0, none⟩), .agg #[.slice Av z cc, .int .i64 (jk.lasts : Int)], .bool true])) (((wr.drewN q).setCell ⟨w.heap.size, 0, none⟩ (.slice Av z cc)).setCell ⟨w.heap.size, 1, none⟩ (.int .i64 (jk.lasts : Int))) from fun q => by
        rw [← hjk]
        have hb : RowKit.Below B wr (((wr.drewN q).setCell ⟨w.heap.size, 0, none⟩ (.slice Av z cc)).setCell ⟨w.heap.size, 1, none⟩ (.int .i64 (jk.lasts : Int))) := ((((Keep.refl (fun b => b = w.heap.size) wr).drewN q).setCell (p := ⟨w.heap.size, 0, none⟩) (fun _ => rfl) _).setCell (p := ⟨w.heap.size, 1, none⟩) (fun _ => rfl) _).below (by omega) (fun k hk e => by omega)
        have hblk : ∀ b, b ≠ w.heap.size → (((wr.drewN q).setCell ⟨w.heap.size, 0, none⟩ (.slice Av z cc)).setCell ⟨w.heap.size, 1, none⟩ (.int .i64 (jk.lasts : Int))).heap[b]? = wr.heap[b]? := fun b hb => (Below.heap_setCell _ ⟨w.heap.size, 1, none⟩ _ b hb).trans (Below.heap_setCell _ ⟨w.heap.size, 0, none⟩ _ b hb)
        exact ⟨bj, z, cc, Av, G, F, rfl, ⟨HGR.out.st.jl.keep (by simp [World.setCell]) (fun b hb => hblk b (fun e => HGR.out.n7 (e ▸ hb))), HGR.out.st.row.keepB fun b hb => hblk b (fun e => row_not_state HGR.out.st.row HGR.out.h7 (e ▸ hb)), HGR.out.st.ap⟩, HGR.out.lo, HGR.out.bel.trans hb⟩)
      have HT := Lib.hid hgr.h7
      clear hjk hte hgr
      go_upto_region 12 with fail
      have hS2 : ((wr.drew.setCell ⟨w.heap.size, 0, none⟩ (.slice Av z cc)).setCell ⟨w.heap.size, 1, none⟩ (.int .i64 (jk.lasts : Int))).cell? ⟨b11, 0, none⟩ = some (.slice Av z cc) ∧ ((wr.drew.setCell ⟨w.heap.size, 0, none⟩ (.slice Av z cc)).setCell ⟨w.heap.size, 1, none⟩ (.int .i64 (jk.lasts : Int))).cell? ⟨b11, 1, none⟩ = some (.int .i64 (jk.lasts : Int)) := by
        have hx := (Below.heap_setCell (wr.drew.setCell ⟨w.heap.size, 0, none⟩ (.slice Av z cc)) ⟨w.heap.size, 1, none⟩ (.int .i64 (jk.lasts : Int)) b11 (by show b11 ≠ w.heap.size; omega)).trans (Below.heap_setCell wr.drew ⟨w.heap.size, 0, none⟩ (.slice Av z cc) b11 (by show b11 ≠ w.heap.size; omega))
        exact ⟨(World.cell?_of_block (w := wr.drew) (a := ⟨b11, 0, none⟩) hx).trans c0, (World.cell?_of_block (w := wr.drew) (a := ⟨b11, 1, none⟩) hx).trans c1⟩
      go_region_held3 (fun W => W.cell? ⟨b11, 0, none⟩ = some (.slice Av z cc) ∧ W.cell? ⟨b11, 1, none⟩ = some (.int .i64 (jk.lasts : Int))) (first | assumption | go_keep) (first | fail)
      all_goals
        have HRR := Lib.hid (HR.out 1)
        have r80 : (((wr.drewN 1).setCell ⟨w.heap.size, 0, none⟩ (.slice Av z cc)).setCell ⟨w.heap.size, 1, none⟩ (.int .i64 (jk.lasts : Int))).cell? ⟨w.heap.size, 0, none⟩ = some (.slice Av z cc) := cell_of_row _ _ 0 _ _ (0, 0) (heap_set_row (heap_set_row HT.out))
        have r81 : (((wr.drewN 1).setCell ⟨w.heap.size, 0, none⟩ (.slice Av z cc)).setCell ⟨w.heap.size, 1, none⟩ (.int .i64 (jk.lasts : Int))).cell? ⟨w.heap.size, 1, none⟩ = some (.int .i64 (jk.lasts : Int)) := cell_of_row _ _ 1 _ _ (0, 0) (heap_set_row (heap_set_row HT.out))
        clear hS2 c0 c1 x0 x1 z0 z1 HR
        obtain ⟨w9, hw9⟩ : ∃ w9, w9 = ((wr.drewN 1).setCell ⟨w.heap.size, 0, none⟩ (.slice Av z cc)).setCell ⟨w.heap.size, 1, none⟩ (.int .i64 (jk.lasts : Int)) := ⟨_, rfl⟩
        rw [← hw9] at HRR r80 r81
        rw [show ((wr.setCell ⟨w.heap.size, 0, none⟩ (.slice Av z cc)).setCell ⟨w.heap.size, 1, none⟩ (.int .i64 (jk.lasts : Int))).drew = w9 from hw9.symm]
        clear hw9
        go_wp2
        exact bodyPost_ret (v := .tuple #[.pointer (some ⟨bj, 0, none⟩), .agg #[.slice Av z cc, .int .i64 (jk.lasts : Int)], .bool true]) (by simp [results, Tryz.results43, go_sem, r80, r81]) rfl HRR.out
end Go.Proofs.YtejjfhhppjdcaaaGreatDoor
