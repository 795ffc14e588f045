/-
  Layer 5: done: Read.
  Layer 5: done, at every kind of deed.
-/
import Derived.Test.YtejjfhhppjdcaaaGreatDoorJJDn
import Derived.Test.YtejjfhhppjdcaaaGreatDoorJJDone3
import Derived.Test.YtejjfhhppjdcaaaGreatDoorJJDone4
import Derived.Test.YtejjfhhppjdcaaaGreatDoorJJDone5
import Derived.Test.YtejjfhhppjdcaaaGreatDoorJJGood
namespace Go.Proofs.YtejjfhhppjdcaaaGreatDoor
open Go.RowKit Go.Maps Go.Sort

set_option maxRecDepth 100000 in
set_option maxHeartbeats 4000000 in
theorem jdone_read (w : World) (G F : Nat → Prop) (bj bd : Nat) (v : Value) (j : Jl) (h : DoneSt w G F bj bd v j) (k : Int) (k0 : k ≠ 0) (k1 : k ≠ 1) (k2 : k ≠ 2) (k3 : k ≠ 3) (per : Int) (A : Option Addr) (n c : Nat) (p : List UInt8) (f m : Int) :
    Calls Tryz.prog 83 #[.pointer (some ⟨bj, 0, none⟩), .agg #[v, .int .i64 j.lasts], .int .i64 per, .agg #[.int .u8 k, .slice A n c, .string ⟨p.toArray⟩, .int .i64 f, .int .i64 m]] w (DonePost w G F bj bd j) := by
  obtain ⟨Av, cv, hv⟩ := ownsRow_form h.row
  have HS := Lib.hid h
  subst hv
  obtain ⟨z, hz⟩ : ∃ z, z = j.es.length := ⟨_, rfl⟩
  rw [← hz]
  have HZ := Lib.hid hz
  have t0 : (k == 0) = false := by simp; omega
  have t1 : (k == 1) = false := by simp; omega
  have t2 : (k == 2) = false := by simp; omega
  have t3 : (k == 3) = false := by simp; omega
  have hnum := h.jl.1.num
  rw [← hz] at hnum
  have HBAD := Lib.hid (show j.rdBad f m = (decide (f < 0) || decide ((z : Int) < f) || decide (m < 0)) from by rw [hz]; rfl)
  have HSEG := Lib.hid (show j.rdSeg f m = (j.es.drop f.toNat).take (min m ((z : Int) - f)).toNat from by rw [hz]; rfl)
  clear hz k0 k1 k2 k3 h
  obtain ⟨lz, hlz⟩ : ∃ lz, lz = j.lasts := ⟨_, rfl⟩
  have HLZ := Lib.hid hlz
  rw [← hlz]
  clear hlz
  go_enter Tryz.func83, Tryz.ntmps83
  go_upto_region 35 with fail
  obtain ⟨w3, hw3⟩ : ∃ w3, w3 = (((w.alloc (.cells #[.slice Av z cv, .int .i64 (lz : Int)] 55)).alloc (djObj k A n c p f m)).alloc (.cells #[.slice none 0 0, .int .i64 0] 55)) := ⟨_, rfl⟩
  rw [← hw3]
  have hs3 : w3.heap.size = w.heap.size + 3 := by rw [hw3]; simp
  have hb3 : RowKit.Below w.heap.size w w3 := by rw [hw3]; exact (((Below.refl _ _).alloc (Nat.le_refl _) _).alloc (by simp) _).alloc (by simp; omega) _
  have g5 : w3.heap[w.heap.size]? = some (.cells #[.slice Av z cv, .int .i64 (lz : Int)] 55) := by
    rw [hw3]; exact (heap_alloc_old _ _ (by simp; omega)).trans ((heap_alloc_old _ _ (by simp)).trans (heap_alloc_new w _))
  have g7 : w3.heap[w.heap.size + 1]? = some (djObj k A n c p f m) := by
    rw [hw3]
    have := heap_alloc_new (w.alloc (.cells #[.slice Av z cv, .int .i64 (lz : Int)] 55)) (djObj k A n c p f m)
    exact (heap_alloc_old _ _ (by simp)).trans (by simpa using this)
  have g8 : w3.heap[w.heap.size + 1 + 1]? = some (.cells #[.slice none 0 0, .int .i64 0] 55) := by
    rw [hw3]
    have := heap_alloc_new ((w.alloc (.cells #[.slice Av z cv, .int .i64 (lz : Int)] 55)).alloc (djObj k A n c p f m)) (.cells #[.slice none 0 0, .int .i64 0] 55)
    simpa using this
  clear hw3
  have HFX := Lib.hid (show ∀ W, RowKit.Below w3.heap.size w3 W → W.cell? ⟨w.heap.size, 0, none⟩ = some (.slice Av z cv) ∧ W.cell? ⟨w.heap.size, 1, none⟩ = some (.int .i64 (lz : Int)) ∧ W.cell? ⟨w.heap.size + 1, 3, none⟩ = some (.int .i64 f) ∧ W.cell? ⟨w.heap.size + 1, 4, none⟩ = some (.int .i64 m) ∧ W.heap[w.heap.size + 1 + 1]? = some (.cells #[.slice none 0 0, .int .i64 0] 55) from fun W hW =>
    ⟨cell_of_row W _ 0 _ _ (0, 0) ((hW.block _ (by omega)).trans g5), cell_of_row W _ 1 _ _ (0, 0) ((hW.block _ (by omega)).trans g5), cell_of_row W _ 3 _ _ (0, 0) ((hW.block _ (by omega)).trans g7), cell_of_row W _ 4 _ _ (0, 0) ((hW.block _ (by omega)).trans g7), (hW.block _ (by omega)).trans g8⟩)
  have HB3 := Lib.hid hb3
  have HJ3 := Lib.hid (HS.out.jl.up hb3)
  have HFIN := Lib.hid (show ∀ W, RowKit.Below w3.heap.size w3 W → DonePost w G F bj bd j (.returned (.tuple #[.agg #[.slice Av z cv, .int .i64 (lz : Int)], .bool true])) ((W.setCell ⟨w.heap.size + 1 + 1, 0, none⟩ (.slice Av z cv)).setCell ⟨w.heap.size + 1 + 1, 1, none⟩ (.int .i64 (lz : Int))) from fun W hW3 => by
    have hW := HB3.out.trans (hW3.mono HB3.out.size)
    have hsW := hW3.size
    have := HS.out.fin hW (JlD.refl (HS.out.jl.up hW)) rfl (w5 := (W.setCell ⟨w.heap.size + 1 + 1, 0, none⟩ (.slice Av z cv)).setCell ⟨w.heap.size + 1 + 1, 1, none⟩ (.int .i64 (lz : Int))) (by simp [World.setCell]) (fun b hb => by
      have hne : b ≠ w.heap.size + 1 + 1 := by omega
      exact (Below.heap_setCell _ ⟨w.heap.size + 1 + 1, 1, none⟩ _ b hne).trans (Below.heap_setCell _ ⟨w.heap.size + 1 + 1, 0, none⟩ _ b hne)) (fun hk => (hk.setCell (p := ⟨w.heap.size + 1 + 1, 0, none⟩) (fun h => by simp at h; omega) _).setCell (p := ⟨w.heap.size + 1 + 1, 1, none⟩) (fun h => by simp at h; omega) _)
    rw [← HZ.out, ← HLZ.out] at this
    exact this)
  obtain ⟨c50, c51, c73, c74, h80⟩ := HFX.out w3 (Below.refl _ _)
  clear g5 g7 g8 hb3
  go_wp2_with fail
  refine (jlread_any w3 G F bj bd j HJ3.out f m).mono ?_
  rintro r w4 ⟨v4, u4, rfl, hE, hI, hb4⟩
  obtain ⟨A4, e4, rfl, hEv⟩ := hE.form
  obtain ⟨A5, e5, rfl, hIv⟩ := hI.form
  clear c50 c51 c73 c74 h80
  obtain ⟨c50, c51, c73, c74, h80⟩ := HFX.out w4 hb4
  have x80 : w4.cell? ⟨w.heap.size + 1 + 1, 0, none⟩ = some (.slice none 0 0) := cell_of_row w4 _ 0 _ _ (0, 0) h80
  have x81 : w4.cell? ⟨w.heap.size + 1 + 1, 1, none⟩ = some (.int .i64 0) := cell_of_row w4 _ 1 _ _ (0, 0) h80
  have z80 : w4.frozen? ⟨w.heap.size + 1 + 1, 0, none⟩ = false := frozen_of_row w4 _ 0 _ _ h80
  have z81 : w4.frozen? ⟨w.heap.size + 1 + 1, 1, none⟩ = false := frozen_of_row w4 _ 1 _ _ h80
  have H80 := Lib.hid h80
  cases hbad : j.rdBad f m
  · rw [hbad] at hEv hIv
    simp only [Bool.false_eq_true, if_false] at hEv hIv ⊢
    have hbd := HBAD.out.symm.trans hbad
    simp only [Bool.or_eq_false_iff, decide_eq_false_iff_not, Int.not_lt] at hbd
    obtain ⟨⟨f0, f1⟩, f2⟩ := hbd
    obtain ⟨lo, rfl⟩ := Int.eq_ofNat_of_zero_le f0
    have HA4 := Lib.hid (show Ents w4 w4.heap.size Av z cv j.es from by
      have h1 : Ents w w.heap.size Av j.es.length cv j.es := Cel.of_own HS.out.row
      rw [← HZ.out] at h1
      exact Cel.more (Cel.below h1 (HB3.out.trans (hb4.mono HB3.out.size))) (by have := hb4.size; omega))
    have hlo : lo ≤ z := by omega
    have HRD := Lib.hid (show ∀ b' : Nat, (b' : Int) = min m z → Calls Tryz.prog 78 #[.slice Av z cv, .int .i64 lo, .int .i64 b'] w4 (RRdPost w4 (rdEv (j.rdSeg lo m)) (rdAt lo (j.rdSeg lo m))) from fun b' hb' => rread05_any w4 Av z cv j.es HA4.out hnum lo b' hlo (by omega) _ (by
      rw [HSEG.out, Int.toNat_natCast, List.take_eq_take_iff, List.length_drop, ← HZ.out]; omega))
    have hrl := rdEv_le (j.rdSeg lo m)
    have hra := rdAt_len (j.rdSeg lo m) lo
    have hsl : (j.rdSeg lo m).length ≤ z := by rw [HSEG.out, List.length_take, List.length_drop, ← HZ.out]; omega
    have HEV := Lib.hid hEv; have HIV := Lib.hid hIv
    rw [hra] at HIV ⊢
    have hs4 := hb4.size
    have HB4 := Lib.hid hb4
    clear hE hI hEv hIv hbad h80 hb4
    by_cases hmz : (z : Int) < m
    case' pos =>
      go_wp2_with fail
      refine (HRD.out z (by omega)).mono ?_
    case' neg =>
      obtain ⟨mm, rfl⟩ := Int.eq_ofNat_of_zero_le f2
      go_wp2_with fail
      refine (HRD.out mm (by omega)).mono ?_
    all_goals
      rintro r w6 ⟨v6, u6, rfl, hE, hI, hb6⟩
      obtain ⟨A6, e6, rfl, hEv⟩ := hE.form
      obtain ⟨A7, e7, rfl, hIv⟩ := hI.form
      rw [hra] at hIv ⊢
      have HB6 := Lib.hid (show RowKit.Below w3.heap.size w3 w6 from HB4.out.trans (hb6.mono HB4.out.size))
      have hs6 := hb6.size
      have hev4 := Cel.below HEV.out hb6
      have hiv4 := Cel.below HIV.out hb6
      have hz1 : (rdEv (j.rdSeg lo _)).length ≤ 100000 := Nat.le_trans hrl (Nat.le_trans hsl hnum)
      have HSM := Lib.hid (show Calls Tryz.prog 38 #[.slice A4 _ e4, .slice A6 _ e6] w6.drew (fun r w' => r = .returned (.bool true) ∧ RowKit.Below w6.heap.size w6 w') from (same02_any w6.drew w4.heap.size w6.heap.size A4 A6 _ e4 e6 _ (Cel.drewN hev4 1) (Cel.drewN hEv 1) hz1).mono fun r w' ⟨h1, q, h2⟩ => ⟨h1, h2 ▸ below_drewN (below_drewN (Below.refl _ _) 1) q⟩)
      have HSI := Lib.hid (show ∀ W, RowKit.Below w6.heap.size w6 W → Calls Tryz.prog 79 #[.slice A5 _ e5, .slice A7 _ e7] W (fun r w' => r = .returned (.bool true) ∧ RowKit.Below w6.heap.size w6 w') from fun W hW => (rsame05_any W w4.heap.size w6.heap.size A5 A7 _ e5 e7 _ (Cel.below hiv4 (hW.mono hs6)) (Cel.below hIv hW) hz1).mono fun r w' ⟨h1, q, h2⟩ => ⟨h1, h2 ▸ below_drewN hW q⟩)
      have HSC := Lib.hid (show ∀ W, RowKit.Below w6.heap.size w6 W → RowKit.Below w3.heap.size w3 W ∧ (W.cell? ⟨w.heap.size, 0, none⟩ = some (.slice Av z cv) ∧ W.cell? ⟨w.heap.size, 1, none⟩ = some (.int .i64 (lz : Int))) ∧ W.heap[w.heap.size + 1 + 1]? = some (.cells #[.slice none 0 0, .int .i64 0] 55) from fun W hW => by
        have hb := HB6.out.trans (hW.mono HB6.out.size)
        obtain ⟨q1, q2, _, _, q5⟩ := HFX.out W hb
        exact ⟨hb, ⟨q1, q2⟩, q5⟩)
      have HST3 := Lib.hid (show ∀ w2 : World, (w2.cell? ⟨w.heap.size, 0, none⟩ = some (.slice Av z cv) ∧ w2.cell? ⟨w.heap.size, 1, none⟩ = some (.int .i64 (lz : Int))) → (((w2.setCell ⟨w.heap.size + 1 + 1, 0, none⟩ (.slice Av z cv)).setCell ⟨w.heap.size + 1 + 1, 1, none⟩ (.int .i64 (lz : Int))).cell? ⟨w.heap.size, 0, none⟩ = some (.slice Av z cv) ∧ ((w2.setCell ⟨w.heap.size + 1 + 1, 0, none⟩ (.slice Av z cv)).setCell ⟨w.heap.size + 1 + 1, 1, none⟩ (.int .i64 (lz : Int))).cell? ⟨w.heap.size, 1, none⟩ = some (.int .i64 (lz : Int))) from fun w2 hS2 => by
        have hx := (Below.heap_setCell (w2.setCell ⟨w.heap.size + 1 + 1, 0, none⟩ (.slice Av z cv)) ⟨w.heap.size + 1 + 1, 1, none⟩ (.int .i64 (lz : Int)) w.heap.size (by show w.heap.size ≠ w.heap.size + 1 + 1; omega)).trans (Below.heap_setCell w2 ⟨w.heap.size + 1 + 1, 0, none⟩ (.slice Av z cv) w.heap.size (by show w.heap.size ≠ w.heap.size + 1 + 1; omega))
        exact ⟨(World.cell?_of_block (w := w2) (a := ⟨w.heap.size, 0, none⟩) hx).trans hS2.1, (World.cell?_of_block (w := w2) (a := ⟨w.heap.size, 1, none⟩) hx).trans hS2.2⟩)
      clear c50 c51 c73 c74 x80 x81 z80 z81
      obtain ⟨_, ⟨c50, c51⟩, _⟩ := HSC.out w6 (Below.refl _ _)
      clear hE hI hEv hIv hev4 hiv4 hrl hra hsl HEV HIV HRD HA4 hb6
      go_upto_region 42 with fail
      go_region_held3 (fun wx => wx.cell? ⟨w.heap.size, 0, none⟩ = some (.slice Av z cv) ∧ wx.cell? ⟨w.heap.size, 1, none⟩ = some (.int .i64 (lz : Int))) (first | assumption | go_keep) (first
        | (go_at_call 38; (with_reducible refine HSM.out.mono ?_); rintro r9 w7 ⟨rfl, hb7⟩; have HB7 := Lib.hid hb7; have hS7 := (HSC.out w7 hb7).2.1; clear hb7)
        | (go_at_call 79; (with_reducible refine (HSI.out w7 HB7.out).mono ?_); rintro r9 w8 ⟨rfl, hb8⟩; obtain ⟨hb38, hS8, h88⟩ := HSC.out w8 hb8; have hS9 := HST3.out w8 hS8;
            have x80 : w8.cell? ⟨w.heap.size + 1 + 1, 0, none⟩ = some (.slice none 0 0) := cell_of_row w8 _ 0 _ _ (0, 0) h88;
            have x81 : w8.cell? ⟨w.heap.size + 1 + 1, 1, none⟩ = some (.int .i64 0) := cell_of_row w8 _ 1 _ _ (0, 0) h88;
            have z80 : w8.frozen? ⟨w.heap.size + 1 + 1, 0, none⟩ = false := frozen_of_row w8 _ 0 _ _ h88;
            have z81 : w8.frozen? ⟨w.heap.size + 1 + 1, 1, none⟩ = false := frozen_of_row w8 _ 1 _ _ h88;
            have HB38 := Lib.hid hb38; have H88 := Lib.hid h88; clear hb8 hb38 h88))
      all_goals
        have r80 : ((w8.setCell ⟨w.heap.size + 1 + 1, 0, none⟩ (.slice Av z cv)).setCell ⟨w.heap.size + 1 + 1, 1, none⟩ (.int .i64 (lz : Int))).cell? ⟨w.heap.size + 1 + 1, 0, none⟩ = some (.slice Av z cv) := cell_of_row _ _ 0 _ _ (0, 0) (heap_set_row (heap_set_row H88.out))
        have r81 : ((w8.setCell ⟨w.heap.size + 1 + 1, 0, none⟩ (.slice Av z cv)).setCell ⟨w.heap.size + 1 + 1, 1, none⟩ (.int .i64 (lz : Int))).cell? ⟨w.heap.size + 1 + 1, 1, none⟩ = some (.int .i64 (lz : Int)) := cell_of_row _ _ 1 _ _ (0, 0) (heap_set_row (heap_set_row H88.out))
        have HR := Lib.hid (HFIN.out w8 HB38.out)
        clear hS7 hS8 hS9 x80 x81 z80 z81 c50 c51
        generalize (w8.setCell ⟨w.heap.size + 1 + 1, 0, none⟩ (.slice Av z cv)).setCell ⟨w.heap.size + 1 + 1, 1, none⟩ (.int .i64 (lz : Int)) = w5 at *
        go_wp2
        exact bodyPost_ret (v := .tuple #[.agg #[.slice Av z cv, .int .i64 (lz : Int)], .bool true]) (by simp [results, Tryz.results83, go_sem, r80, r81]) rfl HR.out
  · rw [hbad] at hEv hIv
    simp only [if_true, List.length_nil] at hEv hIv ⊢
    have hbd := HBAD.out.symm.trans hbad
    have HR := Lib.hid (HFIN.out w4 hb4)
    have r80 : ((w4.setCell ⟨w.heap.size + 1 + 1, 0, none⟩ (.slice Av z cv)).setCell ⟨w.heap.size + 1 + 1, 1, none⟩ (.int .i64 (lz : Int))).cell? ⟨w.heap.size + 1 + 1, 0, none⟩ = some (.slice Av z cv) := cell_of_row _ _ 0 _ _ (0, 0) (heap_set_row (heap_set_row H80.out))
    have r81 : ((w4.setCell ⟨w.heap.size + 1 + 1, 0, none⟩ (.slice Av z cv)).setCell ⟨w.heap.size + 1 + 1, 1, none⟩ (.int .i64 (lz : Int))).cell? ⟨w.heap.size + 1 + 1, 1, none⟩ = some (.int .i64 (lz : Int)) := cell_of_row _ _ 1 _ _ (0, 0) (heap_set_row (heap_set_row H80.out))
    clear h80 hE hI hEv hIv hb4
    by_cases f0 : f < 0
    · go_wp2
      exact bodyPost_ret (v := .tuple #[.agg #[.slice Av z cv, .int .i64 (lz : Int)], .bool true]) (by simp [results, Tryz.results83, go_sem, r80, r81]) rfl HR.out
    by_cases f1 : (z : Int) < f
    · go_wp2
      exact bodyPost_ret (v := .tuple #[.agg #[.slice Av z cv, .int .i64 (lz : Int)], .bool true]) (by simp [results, Tryz.results83, go_sem, r80, r81]) rfl HR.out
    have f2 : m < 0 := by
      rw [decide_eq_false f0, decide_eq_false f1] at hbd
      simpa using hbd
    go_wp2
    exact bodyPost_ret (v := .tuple #[.agg #[.slice Av z cv, .int .i64 (lz : Int)], .bool true]) (by simp [results, Tryz.results83, go_sem, r80, r81]) rfl HR.out
end Go.Proofs.YtejjfhhppjdcaaaGreatDoor
namespace Go.Proofs.YtejjfhhppjdcaaaGreatDoor
open Go.RowKit Go.Maps Go.Sort

theorem jdone_any (w : World) (G F : Nat → Prop) (bj bd : Nat) (v : Value) (j : Jl) (h : DoneSt w G F bj bd v j) (hg : j.Good) (d : Dj) (A : Option Addr) (n c : Nat)
    (he : Evs w w.heap.size A n c d.l) (hA : ∀ b off, A = some ⟨b, off, none⟩ → 0 < n → ¬ (G b ∨ F b)) (hs : ∀ e ∈ d.l, e.small) (hn : j.es.length + d.l.length ≤ 90) (hmx : MaxAt w) (hbl : ¬ G 1 ∧ ¬ F 1) :
    Calls Tryz.prog 83 #[.pointer (some ⟨bj, 0, none⟩), .agg #[v, .int .i64 j.lasts], .int .i64 j.per, .agg #[.int .u8 d.kind, .slice A n c, .string ⟨d.per.toArray⟩, .int .i64 d.from_, .int .i64 d.n]] w (DonePost w G F bj bd (j.deed d)) := by
  obtain ⟨k, l, p, f, m⟩ := d
  simp only at he hs hn ⊢
  have hyes : l.all mayB = true → j.appE l = 0 ∧ j.appN l = j.es.length ∧ (j.app l).es = j.es ++ l.map some ∧ (j.app l).lasts = max j.lasts (autoN (j.es.length + l.length) j.per) := fun hl => by
    obtain ⟨_, a2, a3, a4, _, _, a7⟩ := hg.app (l := l) (by omega) hl
    exact ⟨a2, a3, a4, a7⟩
  have hno : l.all mayB = false → j.app l = j ∧ j.appE l = 1 ∧ j.appN l = 0 := fun hl => hg.app_no hl
  unfold Jl.deed
  simp only
  by_cases k0 : k = 0
  · subst k0
    rw [if_pos (.inl rfl)]
    exact jdone_app0 w G F bj bd v j h A n c p f m l he hA hs (by omega) hmx hbl hyes hno
  by_cases k1 : k = 1
  · subst k1
    rw [if_pos (.inr rfl)]
    exact jdone_app1 w G F bj bd v j h A n c p f m l he hA hs (by omega) hmx hbl hyes hno
  rw [if_neg (by omega)]
  by_cases k2 : k = 2
  · subst k2
    rw [if_pos rfl]
    obtain ⟨_, a2, a3, _, _, a6⟩ := hg.syncA (by omega)
    exact jdone_sync w G F bj bd v j h (by have := hg.fine.small; omega) a2 a3 a6 j.per A n c p f m
  rw [if_neg k2]
  by_cases k3 : k = 3
  · subst k3
    rw [if_pos rfl]
    obtain ⟨j', e, _, a2, _, _, a5⟩ := hg.rewr (by omega) (stayP p)
    have := jdone_rewr w G F bj bd v j h A n c p f m (by omega) hmx hbl j' e a2 a5
    rw [e]
    exact this
  rw [if_neg k3]
  exact jdone_read w G F bj bd v j h k k0 k1 k2 k3 j.per A n c p f m
end Go.Proofs.YtejjfhhppjdcaaaGreatDoor
