/-
  Layer 5: done: Append, kind 0.
-/
import Derived.Test.YtejjfhhppjdcaaaGreatDoorOJDw
namespace Go.Proofs.YtejjfhhppjdcaaaGreatDoor
open Go.RowKit Go.Maps Go.Sort

set_option maxRecDepth 100000 in
set_option maxHeartbeats 8000000 in
theorem jdone_app0 (w : World) (G F : Nat → Prop) (bj bd : Nat) (v : Value) (j : Jl) (h : DoneSt w G F bj bd v j) (A : Option Addr) (n c : Nat) (p : List UInt8) (f m : Int) (l : List Ev)
    (he : Evs w w.heap.size A n c l) (hA : ∀ b off, A = some ⟨b, off, none⟩ → 0 < n → ¬ (G b ∨ F b)) (hs : ∀ e ∈ l, e.small) (hn : j.es.length + l.length ≤ 99) (hmx : MaxAt w) (hbl : ¬ G 1 ∧ ¬ F 1)
    (hyes : l.all mayB = true → j.appE l = 0 ∧ j.appN l = j.es.length ∧ (j.app l).es = j.es ++ l.map some ∧ (j.app l).lasts = max j.lasts (autoN (j.es.length + l.length) j.per))
    (hno : l.all mayB = false → j.app l = j ∧ j.appE l = 1 ∧ j.appN l = 0) :
    Calls Tryz.prog 83 #[.pointer (some ⟨bj, 0, none⟩), .agg #[v, .int .i64 j.lasts], .int .i64 j.per, .agg #[.int .u8 0, .slice A n c, .string ⟨p.toArray⟩, .int .i64 f, .int .i64 m]] w (DonePost w G F bj bd (j.app l)) := by
  obtain ⟨Av, cv, hv⟩ := ownsRow_form h.row
  have HS := Lib.hid h
  subst hv
  obtain ⟨z, hz⟩ : ∃ z, z = j.es.length := ⟨_, rfl⟩
  have hln : l.length = n := he.len
  rw [← hz] at hyes hn ⊢
  have HZ := Lib.hid hz
  have hper1 := h.jl.1.per1
  have hper2 := h.jl.1.per2
  have hlas := h.jl.1.las
  rw [← hz] at hlas
  obtain ⟨lz, hlz⟩ : ∃ lz, lz = j.lasts := ⟨_, rfl⟩
  obtain ⟨pr, hpr⟩ : ∃ pr, pr = j.per := ⟨_, rfl⟩
  rw [← hlz] at hyes hlas ⊢
  rw [← hpr] at hyes hper1 hper2 ⊢
  have HLZ := Lib.hid hlz
  have HPR := Lib.hid hpr
  have HE := Lib.hid he; have HAA := Lib.hid hA; have HSM := Lib.hid hs; have HMX := Lib.hid hmx; have HBL := Lib.hid hbl; have HY := Lib.hid hyes; have HNO := Lib.hid hno
  have HLN := Lib.hid hln
  clear hz hlz hpr h he hA hs hmx hbl hyes hno hln
  obtain ⟨w3, hw3⟩ : ∃ w3, w3 = (((w.alloc (stObj Av z cv lz)).alloc (djObj 0 A n c p f m)).alloc (stObj none 0 0 0)) := ⟨_, rfl⟩
  have HW3 := Lib.hid (DnBox.new w Av z cv lz 0 A n c p f m)
  rw [← hw3] at HW3
  have hs3 : w3.heap.size = w.heap.size + 3 := by rw [hw3]; simp
  have hb3 : RowKit.Below w.heap.size w w3 := by rw [hw3]; exact (((Below.refl _ _).alloc (Nat.le_refl _) _).alloc (by simp) _).alloc (by simp; omega) _
  have HB3 := Lib.hid hb3
  have HJ3 := Lib.hid (HS.out.jl.up hb3)
  have hlt := HS.out.jl.lt
  have HAP := Lib.hid (jlapp_any w3 G F bj bd j HJ3.out A n c l (Cel.more (Cel.below HE.out hb3) (by omega)) HAA.out HSM.out (by rw [← HZ.out]; exact hn) (HMX.out.up hb3) HBL.out)
  ·
    go_enter Tryz.func83, Tryz.ntmps83
    go_upto_region 4 with fail
    rw [← hw3]
    clear hw3
    have hc3 := HW3.out.cells
    obtain ⟨c50, c51, c71, x80, x81, z80, z81⟩ := hc3
    cases hall : l.all mayB
    · have HN2 := Lib.hid (HNO.out hall)
      rw [HN2.out.1, HN2.out.2.1, HN2.out.2.2] at HAP
      go_wp2_with fail
      refine HAP.out.mono ?_
      rintro r w5 ⟨rfl, hjd⟩
      obtain ⟨G5, F5, hi5, hG5, hF5, hk5⟩ := hjd
      have hb5 : DnBox w5 w.heap.size Av z cv lz _ A n c p f m := HW3.out.keep fun b h1 h2 => hk5.block b (by omega) (fun hg => by have := hlt b hg; omega)
      have HE5 := Lib.hid (show Evs w5 w5.heap.size A n c l from by
        rcases Nat.eq_zero_or_pos n with h0 | h0
        · have hl0 := HLN.out; rw [h0] at hl0
          rw [h0, List.eq_nil_of_length_eq_zero hl0]
          exact Cel.nil _ _ _ _ _ (Cel.max HE.out)
        · exact Cel.keepG (Cel.more (Cel.below HE.out HB3.out) (by omega)) (fun b off e => HAA.out b off e h0) hk5)
      have hs5 := hk5.size
      clear c50 c51 c71 x80 x81 z80 z81
      obtain ⟨c50, c51, c71, x80, x81, z80, z81⟩ := hb5.cells
      have HB5 := Lib.hid hb5
      have HI5 := Lib.hid hi5; have HG5 := Lib.hid hG5; have HF5 := Lib.hid hF5; have HK5 := Lib.hid hk5
      clear hb5 hi5 hG5 hF5 hk5
      go_wp2_with fail
      refine (all02_any w5 A n c l HE5.out (by have := HLN.out; omega) HSM.out).mono ?_
      rintro r w6 ⟨rfl, hb6⟩
      rw [hall]
      have HJD := Lib.hid (show JlD w3 G F bj bd j w6 from ⟨G5, F5, HI5.out.up hb6, HG5.out, HF5.out, HK5.out.trans (Keep.of_below (F := fun _ => False) hb6) (fun _ _ h => h.elim)⟩)
      have hb66 : DnBox w6 w.heap.size Av z cv lz _ A n c p f m := HB5.out.keep fun b h1 h2 => hb6.block b (by omega)
      clear c50 c51 c71 x80 x81 z80 z81
      obtain ⟨c50, c51, c71, x80, x81, z80, z81⟩ := hb66.cells
      have H8W := Lib.hid hb66.re
      have HR := Lib.hid (show DonePost w G F bj bd (j.app l) (.returned (.tuple #[.agg #[.slice Av z cv, .int .i64 (lz : Int)], .bool true])) ((w6.setCell ⟨w.heap.size + 1 + 1, 0, none⟩ (.slice Av z cv)).setCell ⟨w.heap.size + 1 + 1, 1, none⟩ (.int .i64 (lz : Int))) from by
        rw [HN2.out.1]
        have := HS.out.fin HB3.out HJD.out rfl (w5 := (w6.setCell ⟨w.heap.size + 1 + 1, 0, none⟩ (.slice Av z cv)).setCell ⟨w.heap.size + 1 + 1, 1, none⟩ (.int .i64 (lz : Int))) (by simp [World.setCell]) (fun b hb => by
          have hne : b ≠ w.heap.size + 1 + 1 := by omega
          exact (Below.heap_setCell _ ⟨w.heap.size + 1 + 1, 1, none⟩ _ b hne).trans (Below.heap_setCell _ ⟨w.heap.size + 1 + 1, 0, none⟩ _ b hne)) (fun hk => (hk.setCell (p := ⟨w.heap.size + 1 + 1, 0, none⟩) (fun h => by simp at h; omega) _).setCell (p := ⟨w.heap.size + 1 + 1, 1, none⟩) (fun h => by simp at h; omega) _)
        rw [← HZ.out, ← HLZ.out] at this
        exact this)
      have r80 : ((w6.setCell ⟨w.heap.size + 1 + 1, 0, none⟩ (.slice Av z cv)).setCell ⟨w.heap.size + 1 + 1, 1, none⟩ (.int .i64 (lz : Int))).cell? ⟨w.heap.size + 1 + 1, 0, none⟩ = some (.slice Av z cv) := cell_of_row _ _ 0 _ _ (0, 0) (heap_set_row (heap_set_row H8W.out))
      have r81 : ((w6.setCell ⟨w.heap.size + 1 + 1, 0, none⟩ (.slice Av z cv)).setCell ⟨w.heap.size + 1 + 1, 1, none⟩ (.int .i64 (lz : Int))).cell? ⟨w.heap.size + 1 + 1, 1, none⟩ = some (.int .i64 (lz : Int)) := cell_of_row _ _ 1 _ _ (0, 0) (heap_set_row (heap_set_row H8W.out))
      clear hb66 hb6
      go_wp2
      exact bodyPost_ret (v := .tuple #[.agg #[.slice Av z cv, .int .i64 (lz : Int)], .bool true]) (by simp [results, Tryz.results83, go_sem, r80, r81]) rfl HR.out
    · have HY2 := Lib.hid (HY.out hall)
      rw [HY2.out.1, HY2.out.2.1] at HAP
      go_wp2_with fail
      refine HAP.out.mono ?_
      rintro r w5 ⟨rfl, hjd⟩
      have HJD := Lib.hid hjd
      obtain ⟨G5, F5, hi5, hG5, hF5, hk5⟩ := hjd
      have hb5 : DnBox w5 w.heap.size Av z cv lz _ A n c p f m := HW3.out.keep fun b h1 h2 => hk5.block b (by omega) (fun hg => by have := hlt b hg; omega)
      have HE5 := Lib.hid (show Evs w5 w5.heap.size A n c l from by
        rcases Nat.eq_zero_or_pos n with h0 | h0
        · have hl0 := HLN.out; rw [h0] at hl0
          rw [h0, List.eq_nil_of_length_eq_zero hl0]
          exact Cel.nil _ _ _ _ _ (Cel.max HE.out)
        · exact Cel.keepG (Cel.more (Cel.below HE.out HB3.out) (by omega)) (fun b off e => HAA.out b off e h0) hk5)
      have HN5 := Lib.hid (show Ents w5 w5.heap.size Av z cv j.es from by
        have h1 : Ents w w.heap.size Av j.es.length cv j.es := Cel.of_own HS.out.row
        rw [← HZ.out] at h1
        rcases Nat.eq_zero_or_pos z with h0 | h0
        · have hl0 := HZ.out; rw [h0] at hl0
          rw [h0, List.eq_nil_of_length_eq_zero hl0.symm]
          exact Cel.nil _ _ _ _ _ (Cel.max h1)
        · refine Cel.keepG (Cel.more (Cel.below h1 HB3.out) (by omega)) (fun b off e hg => ?_) hk5
          have := HS.out.row.2
          rcases this with ⟨e', hl⟩ | ⟨g, cap, cur, e', _⟩
          · injection e' with e1 e2; have := HZ.out; omega
          · injection e' with e1 e2
            rw [e] at e1; injection e1 with e1; injection e1 with e1
            exact hg.elim (HS.out.ap b (by rw [e, e1]; rfl)).1 (HS.out.ap b (by rw [e, e1]; rfl)).2)
      have hs5 := hk5.size
      clear c50 c51 c71 x80 x81 z80 z81
      obtain ⟨c50, c51, c71, x80, x81, z80, z81⟩ := hb5.cells
      have HB5 := Lib.hid hb5
      clear hb5 hi5 hG5 hF5 hk5
      go_wp2_with fail
      refine (all02_any w5 A n c l HE5.out (by have := HLN.out; omega) HSM.out).mono ?_
      rintro r w6 ⟨rfl, hb6⟩
      rw [hall]
      have HB6 := Lib.hid hb6
      have hs6 := hb6.size
      have hb66 : DnBox w6 w.heap.size Av z cv lz _ A n c p f m := HB5.out.keep fun b h1 h2 => hb6.block b (by omega)
      clear c50 c51 c71 x80 x81 z80 z81
      obtain ⟨c50, c51, c71, x80, x81, z80, z81⟩ := hb66.cells
      have HB66 := Lib.hid hb66
      clear hb66 hb6
      go_upto_region 8 with fail
      obtain ⟨L2, hL2⟩ : ∃ L2, L2 = l.map some := ⟨_, rfl⟩
      have HL2 := Lib.hid (show L2.length = n by rw [hL2, List.length_map]; exact HLN.out)
      have HES := Lib.hid (show (j.app l).es = j.es ++ L2 by rw [hL2]; exact HY2.out.2.2.1)
      have HOF := Lib.hid (show ∀ W, RowKit.Below w6.heap.size w6 W → Calls Tryz.prog 27 #[.slice A n c] W (OwnRP W L2) from fun W hW => by
        rw [hL2]
        exact rof_any W A n c l (Cel.more (Cel.below HE5.out (HB6.out.trans (hW.mono hs6))) (by have := hW.size; omega)) (by have := HLN.out; omega))
      have HEN := Lib.hid (show ∀ W, RowKit.Below w6.heap.size w6 W → Ents W W.heap.size Av z cv j.es from fun W hW => Cel.more (Cel.below HN5.out (HB6.out.trans (hW.mono hs6))) (by have := hW.size; omega))
      have HCC := Lib.hid (show ∀ W, RowKit.Below w6.heap.size w6 W → W.cell? ⟨w.heap.size + 1, 1, none⟩ = some (.slice A n c) ∧ W.cell? ⟨w.heap.size, 0, none⟩ = some (.slice Av z cv) ∧ W.frozen? ⟨w.heap.size, 0, none⟩ = false from fun W hW => by
        have hb := HB66.out.keep (W' := W) fun b h1 h2 => hW.block b (by omega)
        exact ⟨hb.cells.2.2.1, hb.cells.1, frozen_of_row W _ 0 _ _ hb.st⟩)
      obtain ⟨i0, hi, hz0, hz1, hz2⟩ := info_parts rent_info
      have HIN := Lib.hid hi; have HZ0 := Lib.hid hz0; have HZ1 := Lib.hid hz1; have HZ2 := Lib.hid hz2
      have HZL := Lib.hid (show j.es.length = z from HZ.out.symm)
      have HLN2 := HLN.out
      clear hi hz0 hz1 hz2 hL2
      have HWD := Lib.hid (show RowKit.Below w6.heap.size w6 w6.drew from below_drewN (Below.refl _ _) 1)
      have HWA := Lib.hid (show RowKit.Below w6.heap.size w6 (w6.drew.alloc (.cells #[] 72)) from HWD.out.alloc (Nat.le_refl _) _)
      have HSA := Lib.hid (show (w6.drew.alloc (.cells #[] 72)).heap.size = w6.heap.size + 1 by simp)
      have HOA := Lib.hid (show OwnR (w6.drew.alloc (.cells #[] 72)) w6.heap.size (.slice (some ⟨w6.heap.size, 0, none⟩) 0 0) [] from World.ownsRow_lit w6.drew #[] 0 (Nat.le_refl _) (by simp [maxLen]) rfl)
      obtain ⟨qa71, qa50, za50⟩ := HCC.out (w6.alloc (.cells #[] 72)) ((Below.refl _ _).alloc (Nat.le_refl _) _)
      go_cut [] (fun wc => AppMid w6 w.heap.size (j.es ++ L2) wc)
      case first =>
        go_region_law (first
          | (refine step_app rfl (.tmp 57) (.tmp 60) 47 rfl 72 i0 _ 9 104 Tryz.underlying47 HIN.out HZ0.out HZ1.out HZ2.out rfl (by decide) w6.heap.size v7 z (entCells j.es) rfl HQ7.out _ _ _ _ (entCells L2) rfl HQ8.out (entCells_ones _) (by have := HL2.out; unfold maxLen; omega) (by have := HL2.out; omega) HQS.out ?_; intro v9 w9 ho9 hg9 hv9; have HO9 := Lib.hid ho9; have HB9 := Lib.hid (show RowKit.Below w6.heap.size w6 w9 from Below.grown HQB.out hg9 HQS.out (fun k hk => (World.ownsRow.lt HQ7.out k hk).1)); obtain ⟨A9, c9, hv9e⟩ := ownsRow_form ho9; subst hv9e; obtain ⟨q71, q50, z50⟩ := HCC.out w9 HB9.out; clear ho9 hg9 hv9)
          | (go_simp; go_at_call 27; (with_reducible refine (HOF.out _ HB7.out).mono ?_); rintro r9 w8 ⟨v8, rfl, ho8, hb8⟩; obtain ⟨A8, c8, hv8⟩ := ownsRow_form ho8; subst hv8; have HB8 := Lib.hid (show RowKit.Below w6.heap.size w6 w8 from HB7.out.trans (hb8.mono HB7.out.size)); have HQ8 := Lib.hid (show Ents w8 w8.heap.size A8 L2.length c8 L2 from Cel.of_own ho8); have HQX := Lib.hid (show w8.ownsRow w6.heap.size 72 9 v7 z (entCells j.es) from OwnRz.up HQ7.out hb8); clear HQ7; have HQ7 := HQX; have HQS := Lib.hid (show w6.heap.size ≤ w8.heap.size from HB8.out.size); have HQB := HB8; obtain ⟨q71, q50, z50⟩ := HCC.out w8 HB8.out; clear ho8 hb8)
          | (go_simp; go_at_call 27; (with_reducible refine (HOF.out _ HWA.out).mono ?_); rintro r9 w8 ⟨v8, rfl, ho8, hb8⟩; obtain ⟨A8, c8, hv8⟩ := ownsRow_form ho8; subst hv8; have HB8 := Lib.hid (show RowKit.Below w6.heap.size w6 w8 from HWA.out.trans (hb8.mono HWA.out.size)); have HLIT := Lib.hid (show OwnR w8 w6.heap.size (.slice (some ⟨w6.heap.size, 0, none⟩) 0 0) [] from OwnRz.up HOA.out hb8); have HWL := HB8; have HK8 := Lib.hid (show OwnR w8 (w6.heap.size + 1) (.slice A8 L2.length c8) L2 from by have := HSA.out; rw [this] at ho8; exact ho8); have HN8 := Lib.hid (show ∀ b, (Value.slice A8 L2.length c8).ownBlock = some b → b ≠ w6.heap.size from fun b hb => by have := (World.ownsRow.lt HK8.out b hb).1; omega); have HL8 := Lib.hid (show w6.heap.size ≤ w8.heap.size from HB8.out.size); obtain ⟨q71, q50, z50⟩ := HCC.out w8 HB8.out; clear ho8 hb8)
          | (go_simp; go_at_call 27; (with_reducible refine (HOF.out _ HWD.out).mono ?_); rintro r9 w8 ⟨v8, rfl, ho8, hb8⟩; obtain ⟨A8, c8, hv8⟩ := ownsRow_form ho8; subst hv8; have HB8 := Lib.hid (show RowKit.Below w6.heap.size w6 w8 from HWD.out.trans (hb8.mono HWD.out.size)); have HLIT := Lib.hid (show OwnR (w8.alloc (.cells #[] 72)) w6.heap.size (.slice (some ⟨w8.heap.size, 0, none⟩) 0 0) [] from World.ownsRow_lit w8 #[] 0 HB8.out.size (by simp [maxLen]) rfl); have HWL := Lib.hid (show RowKit.Below w6.heap.size w6 (w8.alloc (.cells #[] 72)) from HB8.out.alloc HB8.out.size _); have HK8 := Lib.hid (show OwnR (w8.alloc (.cells #[] 72)) w6.heap.size (.slice A8 L2.length c8) L2 from World.ownsRow.alloc ho8 _); have HN8 := Lib.hid (show ∀ b, (Value.slice A8 L2.length c8).ownBlock = some b → b ≠ w8.heap.size from fun b hb => by have := (World.ownsRow.lt ho8 b hb).2; omega); have HL8 := Lib.hid (show w6.heap.size ≤ (w8.alloc (.cells #[] 72)).heap.size from HWL.out.size); obtain ⟨p71, p50, y50⟩ := HCC.out _ HWL.out; obtain ⟨q71, q50, z50⟩ := HCC.out w8 HB8.out; clear ho8 hb8)
          | (refine step_app rfl (.tmp 54) (.tmp 56) 47 rfl 72 i0 _ 9 104 Tryz.underlying47 HIN.out HZ0.out HZ1.out HZ2.out rfl (by decide) w6.heap.size (.slice (some ⟨w8.heap.size, 0, none⟩) 0 0) 0 [] rfl HLIT.out _ _ _ _ (entCells j.es) rfl (HEN.out _ HWL.out) (entCells_ones _) (by unfold maxLen; omega) (by omega) HL8.out ?_; intro v7 w7 ho7 hg7 hv7; have HB7 := Lib.hid (show RowKit.Below w6.heap.size w6 w7 from Below.grown HWL.out hg7 HL8.out (fun k hk => by simp [Value.ownBlock] at hk; have := HB8.out.size; omega)); have HQ7 := Lib.hid (show w7.ownsRow w6.heap.size 72 9 v7 z (entCells j.es) from by have := ho7; rw [Nat.zero_add, List.nil_append] at this; exact this); have HQ8 := Lib.hid (show Ents w7 w7.heap.size A8 L2.length c8 L2 from Cel.of_own (World.ownsRow.kept HK8.out hg7 (by cases hv : (Value.slice A8 L2.length c8).ownBlock with | none => exact .inl rfl | some b => refine .inr (fun e => ?_); simp [Value.ownBlock] at e; exact HN8.out b hv e))); have HQS := Lib.hid (show w6.heap.size ≤ w7.heap.size from HB7.out.size); have HQB := HB7; obtain ⟨q71, q50, z50⟩ := HCC.out w7 HB7.out; clear ho7 hg7 hv7)
          | (refine step_app rfl (.tmp 54) (.tmp 56) 47 rfl 72 i0 _ 9 104 Tryz.underlying47 HIN.out HZ0.out HZ1.out HZ2.out rfl (by decide) w6.heap.size (.slice (some ⟨w6.heap.size, 0, none⟩) 0 0) 0 [] rfl HLIT.out _ _ _ _ (entCells j.es) rfl (HEN.out _ HWL.out) (entCells_ones _) (by unfold maxLen; omega) (by omega) HL8.out ?_; intro v7 w7 ho7 hg7 hv7; have HB7 := Lib.hid (show RowKit.Below w6.heap.size w6 w7 from Below.grown HWL.out hg7 HL8.out (fun k hk => by simp [Value.ownBlock] at hk; have := HB8.out.size; omega)); have HQ7 := Lib.hid (show w7.ownsRow w6.heap.size 72 9 v7 z (entCells j.es) from by have := ho7; rw [Nat.zero_add, List.nil_append] at this; exact this); have HQ8 := Lib.hid (show Ents w7 w7.heap.size A8 L2.length c8 L2 from Cel.of_own (World.ownsRow.kept HK8.out hg7 (by cases hv : (Value.slice A8 L2.length c8).ownBlock with | none => exact .inl rfl | some b => refine .inr (fun e => ?_); simp [Value.ownBlock] at e; exact HN8.out b hv e))); have HQS := Lib.hid (show w6.heap.size ≤ w7.heap.size from HB7.out.size); have HQB := HB7; obtain ⟨q71, q50, z50⟩ := HCC.out w7 HB7.out; clear ho7 hg7 hv7)
          | (refine step_app rfl (.tmp 54) (.tmp 56) 47 rfl 72 i0 _ 9 104 Tryz.underlying47 HIN.out HZ0.out HZ1.out HZ2.out rfl (by decide) w6.heap.size (.slice (some ⟨w6.heap.size, 0, none⟩) 0 0) 0 [] rfl HOA.out _ _ _ _ (entCells j.es) rfl (HEN.out _ HWA.out) (entCells_ones _) (by unfold maxLen; omega) (by omega) HWA.out.size ?_; intro v7 w7 ho7 hg7 hv7; have HB7 := Lib.hid (show RowKit.Below w6.heap.size w6 w7 from Below.grown HWA.out hg7 HWA.out.size (fun k hk => by simp [Value.ownBlock] at hk; omega)); have HQ7 := Lib.hid (show w7.ownsRow w6.heap.size 72 9 v7 z (entCells j.es) from by have := ho7; rw [Nat.zero_add, List.nil_append] at this; exact this); obtain ⟨q71, q50, z50⟩ := HCC.out w7 HB7.out; clear ho7 hg7 hv7))
        all_goals
          have HMID := Lib.hid (show AppMid w6 w.heap.size (j.es ++ L2) (w9.setCell ⟨w.heap.size, 0, none⟩ (.slice A9 (z + L2.length) c9)) from ⟨A9, c9, w9, by
            have := HO9.out
            unfold OwnR
            rw [entCells_append, List.length_append, HZL.out]; exact this, HB9.out, by rw [List.length_append, HZL.out]⟩)
          go_wp2_with fail
          go_meet
          exact HMID.out
      case rest =>
        obtain ⟨A8, c8, W8, ho8, hb8, rfl⟩ := hcut
        obtain ⟨q, hq⟩ : ∃ q, q = (j.es ++ L2).length := ⟨_, rfl⟩
        have hqn : q = z + n := by rw [hq, List.length_append, HZL.out, HL2.out]
        rw [← hq] at ho8 ⊢
        have HO8 := Lib.hid ho8
        have HB8 := Lib.hid hb8
        have hs8 := hb8.size
        have HBX8 := Lib.hid (show DnBox W8 w.heap.size Av z cv lz _ A n c p f m from HB66.out.keep fun b h1 h2 => hb8.block b (by omega))
        have HX := Lib.hid (show DnBox (W8.setCell ⟨w.heap.size, 0, none⟩ (.slice A8 q c8)) w.heap.size A8 q c8 lz _ A n c p f m from
          ⟨heap_set_row HBX8.out.st, (Below.heap_setCell _ _ _ _ (by show w.heap.size + 1 ≠ w.heap.size; omega)).trans HBX8.out.dj, (Below.heap_setCell _ _ _ _ (by show w.heap.size + 1 + 1 ≠ w.heap.size; omega)).trans HBX8.out.re⟩)
        have hlas2 : (j.app l).lasts = max lz (autoN q pr) := by rw [HY2.out.2.2.2, hqn, HLN.out]
        have HFIN := Lib.hid (show ∀ (w9 : World) (a : Nat), a = max lz (autoN q pr) → W8.heap.size ≤ w9.heap.size → (∀ b, b ≠ w.heap.size → b ≠ w.heap.size + 1 + 1 → w9.heap[b]? = W8.heap[b]?) → (Keep (fun b => G b ∨ F b) w W8 → Keep (fun b => G b ∨ F b) w w9) → DonePost w G F bj bd (j.app l) (.returned (.tuple #[.agg #[.slice A8 q c8, .int .i64 (a : Int)], .bool true])) w9 from fun w9 a ha h9 hblk hk9 => by
          have := HS.out.finA HB3.out HJD.out (w8 := W8) (w9 := w9) (base := w6.heap.size) (bs := w.heap.size) (b8 := w.heap.size + 1 + 1) (v8 := .slice A8 q c8) (HB6.out.trans (HB8.out.mono hs6)) (by rw [HES.out]; exact HO8.out) hs6 ⟨Nat.le_refl _, by omega⟩ ⟨by omega, by omega⟩ h9 hblk hk9
          rw [hlas2, ← ha] at this
          exact this)
        clear ho8 hb8 hq hlas2
        obtain ⟨w9, hw9⟩ : ∃ w9, w9 = W8.setCell ⟨w.heap.size, 0, none⟩ (.slice A8 q c8) := ⟨_, rfl⟩
        have HS9 := Lib.hid (show w9.heap.size = W8.heap.size by rw [hw9]; simp [World.setCell])
        have HB9 := Lib.hid (show ∀ b, b ≠ w.heap.size → w9.heap[b]? = W8.heap[b]? from fun b hb => by rw [hw9]; exact Below.heap_setCell _ ⟨w.heap.size, 0, none⟩ _ b hb)
        have HK9 := Lib.hid (show Keep (fun b => G b ∨ F b) w W8 → Keep (fun b => G b ∨ F b) w w9 from fun hk => by rw [hw9]; exact hk.setCell (p := ⟨w.heap.size, 0, none⟩) (fun h => by simp at h) _)
        rw [← hw9] at HX ⊢
        clear hw9
        obtain ⟨c50, c51, c71, x80, x81, z80, z81⟩ := HX.out.cells
        have z51 : w9.frozen? ⟨w.heap.size, 1, none⟩ = false := frozen_of_row w9 _ 1 _ _ HX.out.st
        clear qa71 qa50 za50
        obtain ⟨an, han⟩ : ∃ an, an = autoN q pr := ⟨_, rfl⟩
        have HAU := Lib.hid (rauto_any w9 q pr (by omega) hper1 hper2)
        rw [← han] at HAU HFIN
        have hanq : an ≤ 1000000000 := by
          rw [han]; unfold autoN; split
          · omega
          · have : (q - 1) / pr * pr ≤ q - 1 := Nat.div_mul_le_self _ _
            omega
        clear han
        by_cases hgt : lz < an
        · have hgt' : (lz : Int) < an := by omega
          have HR := Lib.hid (HFIN.out (((w9.setCell ⟨w.heap.size, 1, none⟩ (.int .i64 (an : Int))).setCell ⟨w.heap.size + 1 + 1, 0, none⟩ (.slice A8 q c8)).setCell ⟨w.heap.size + 1 + 1, 1, none⟩ (.int .i64 (an : Int))) an (by omega) (by have := HS9.out; simp [World.setCell] at this ⊢; omega) (fun b h1 h2 =>
            (Below.heap_setCell _ ⟨w.heap.size + 1 + 1, 1, none⟩ _ b h2).trans ((Below.heap_setCell _ ⟨w.heap.size + 1 + 1, 0, none⟩ _ b h2).trans ((Below.heap_setCell _ ⟨w.heap.size, 1, none⟩ _ b h1).trans (HB9.out b h1)))) (fun hk =>
            (((HK9.out hk).setCell (p := ⟨w.heap.size, 1, none⟩) (fun h => by simp at h) _).setCell (p := ⟨w.heap.size + 1 + 1, 0, none⟩) (fun h => by simp at h; omega) _).setCell (p := ⟨w.heap.size + 1 + 1, 1, none⟩) (fun h => by simp at h; omega) _))
          have HRE := Lib.hid (show (w9.setCell ⟨w.heap.size, 1, none⟩ (.int .i64 (an : Int))).heap[w.heap.size + 1 + 1]? = some (stObj none 0 0 0) from (Below.heap_setCell _ ⟨w.heap.size, 1, none⟩ _ _ (by show w.heap.size + 1 + 1 ≠ w.heap.size; omega)).trans HX.out.re)
          have d50 : (w9.setCell ⟨w.heap.size, 1, none⟩ (.int .i64 (an : Int))).cell? ⟨w.heap.size, 0, none⟩ = some (.slice A8 q c8) := cell_of_row _ _ 0 _ _ (0, 0) (heap_set_row HX.out.st)
          have d51 : (w9.setCell ⟨w.heap.size, 1, none⟩ (.int .i64 (an : Int))).cell? ⟨w.heap.size, 1, none⟩ = some (.int .i64 (an : Int)) := cell_of_row _ _ 1 _ _ (0, 0) (heap_set_row HX.out.st)
          have y80 : (w9.setCell ⟨w.heap.size, 1, none⟩ (.int .i64 (an : Int))).cell? ⟨w.heap.size + 1 + 1, 0, none⟩ = some (.slice none 0 0) := cell_of_row _ _ 0 _ _ (0, 0) HRE.out
          have y81 : (w9.setCell ⟨w.heap.size, 1, none⟩ (.int .i64 (an : Int))).cell? ⟨w.heap.size + 1 + 1, 1, none⟩ = some (.int .i64 0) := cell_of_row _ _ 1 _ _ (0, 0) HRE.out
          have u80 : (w9.setCell ⟨w.heap.size, 1, none⟩ (.int .i64 (an : Int))).frozen? ⟨w.heap.size + 1 + 1, 0, none⟩ = false := frozen_of_row _ _ 0 _ _ HRE.out
          have u81 : (w9.setCell ⟨w.heap.size, 1, none⟩ (.int .i64 (an : Int))).frozen? ⟨w.heap.size + 1 + 1, 1, none⟩ = false := frozen_of_row _ _ 1 _ _ HRE.out
          have r80 : (((w9.setCell ⟨w.heap.size, 1, none⟩ (.int .i64 (an : Int))).setCell ⟨w.heap.size + 1 + 1, 0, none⟩ (.slice A8 q c8)).setCell ⟨w.heap.size + 1 + 1, 1, none⟩ (.int .i64 (an : Int))).cell? ⟨w.heap.size + 1 + 1, 0, none⟩ = some (.slice A8 q c8) := cell_of_row _ _ 0 _ _ (0, 0) (heap_set_row (heap_set_row HRE.out))
          have r81 : (((w9.setCell ⟨w.heap.size, 1, none⟩ (.int .i64 (an : Int))).setCell ⟨w.heap.size + 1 + 1, 0, none⟩ (.slice A8 q c8)).setCell ⟨w.heap.size + 1 + 1, 1, none⟩ (.int .i64 (an : Int))).cell? ⟨w.heap.size + 1 + 1, 1, none⟩ = some (.int .i64 (an : Int)) := cell_of_row _ _ 1 _ _ (0, 0) (heap_set_row (heap_set_row HRE.out))
          clear HFIN HK9 HB9 HS9 HX HBX8 HO8 HB8 HCC HEN HOF hqn HLN2 hall hs6 hs8 hs5 hs3 hlt HZL HB66 HAP HJ3 HJD
          go_wp2_with fail
          refine HAU.out.mono ?_
          rintro r w10 ⟨rfl, rfl⟩
          clear hgt
          go_upto_region 12 with fail
          clear c50 c51 c71 x80 x81 z80 z81 z51
          generalize w9.setCell ⟨w.heap.size, 1, none⟩ (.int .i64 (an : Int)) = wA at *
          go_wp2
          exact bodyPost_ret (v := .tuple #[.agg #[.slice A8 q c8, .int .i64 (an : Int)], .bool true]) (by simp [results, Tryz.results83, go_sem, r80, r81]) rfl HR.out
        · have hgt' : ¬ (lz : Int) < an := by omega
          have HR := Lib.hid (HFIN.out ((w9.setCell ⟨w.heap.size + 1 + 1, 0, none⟩ (.slice A8 q c8)).setCell ⟨w.heap.size + 1 + 1, 1, none⟩ (.int .i64 (lz : Int))) lz (by omega) (by have := HS9.out; simp [World.setCell] at this ⊢; omega) (fun b h1 h2 =>
            (Below.heap_setCell _ ⟨w.heap.size + 1 + 1, 1, none⟩ _ b h2).trans ((Below.heap_setCell _ ⟨w.heap.size + 1 + 1, 0, none⟩ _ b h2).trans (HB9.out b h1))) (fun hk =>
            ((HK9.out hk).setCell (p := ⟨w.heap.size + 1 + 1, 0, none⟩) (fun h => by simp at h; omega) _).setCell (p := ⟨w.heap.size + 1 + 1, 1, none⟩) (fun h => by simp at h; omega) _))
          have r80 : ((w9.setCell ⟨w.heap.size + 1 + 1, 0, none⟩ (.slice A8 q c8)).setCell ⟨w.heap.size + 1 + 1, 1, none⟩ (.int .i64 (lz : Int))).cell? ⟨w.heap.size + 1 + 1, 0, none⟩ = some (.slice A8 q c8) := cell_of_row _ _ 0 _ _ (0, 0) (heap_set_row (heap_set_row HX.out.re))
          have r81 : ((w9.setCell ⟨w.heap.size + 1 + 1, 0, none⟩ (.slice A8 q c8)).setCell ⟨w.heap.size + 1 + 1, 1, none⟩ (.int .i64 (lz : Int))).cell? ⟨w.heap.size + 1 + 1, 1, none⟩ = some (.int .i64 (lz : Int)) := cell_of_row _ _ 1 _ _ (0, 0) (heap_set_row (heap_set_row HX.out.re))
          clear HFIN HK9 HB9 HS9 HX HBX8 HO8 HB8 HCC HEN HOF hqn HLN2 hall hs6 hs8 hs5 hs3 hlt HZL HB66 HAP HJ3 HJD
          go_wp2_with fail
          refine HAU.out.mono ?_
          rintro r w10 ⟨rfl, rfl⟩
          clear hgt
          go_wp2
          exact bodyPost_ret (v := .tuple #[.agg #[.slice A8 q c8, .int .i64 (lz : Int)], .bool true]) (by simp [results, Tryz.results83, go_sem, r80, r81]) rfl HR.out
end Go.Proofs.YtejjfhhppjdcaaaGreatDoor
