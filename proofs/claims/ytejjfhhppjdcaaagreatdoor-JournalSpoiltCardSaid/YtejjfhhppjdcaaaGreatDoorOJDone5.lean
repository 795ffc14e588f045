/-
  Layer 5: done: Rewrite.
-/
import Derived.Test.YtejjfhhppjdcaaaGreatDoorOJDw
import Derived.Test.YtejjfhhppjdcaaaGreatDoorOJAsk
namespace Go.Proofs.YtejjfhhppjdcaaaGreatDoor
open Go.RowKit Go.Maps Go.Sort

set_option maxRecDepth 100000 in
set_option maxHeartbeats 8000000 in
theorem jdone_rewr (w : World) (G F : Nat → Prop) (bj bd : Nat) (v : Value) (j : Jl) (h : DoneSt w G F bj bd v j) (A : Option Addr) (n c : Nat) (p : List UInt8) (f m : Int)
    (hn : j.es.length ≤ 99) (hmx : MaxAt w) (hbl : ¬ G 1 ∧ ¬ F 1)
    (j' : Jl) (hrw : j.rewr (stayP p) = (j', cntE (stayP p) j.es, 0)) (hes : j'.es = j.es.map (erE (stayP p))) (hla : j'.lasts = if cntE (stayP p) (j.es.drop (autoN j.es.length j.per)) ≠ 0 then j.es.length else j.lasts) :
    Calls Tryz.prog 83 #[.pointer (some ⟨bj, 0, none⟩), .agg #[v, .int .i64 j.lasts], .int .i64 j.per, .agg #[.int .u8 3, .slice A n c, .string ⟨p.toArray⟩, .int .i64 f, .int .i64 m]] w (DonePost w G F bj bd j') := by
  obtain ⟨Av, cv, hv⟩ := ownsRow_form h.row
  have HS := Lib.hid h
  subst hv
  obtain ⟨z, hz⟩ : ∃ z, z = j.es.length := ⟨_, rfl⟩
  rw [← hz] at hn hla ⊢
  have HZ := Lib.hid hz
  have hper1 := h.jl.1.per1
  have hper2 := h.jl.1.per2
  have hlas := h.jl.1.las
  rw [← hz] at hlas
  obtain ⟨lz, hlz⟩ : ∃ lz, lz = j.lasts := ⟨_, rfl⟩
  obtain ⟨pr, hpr⟩ : ∃ pr, pr = j.per := ⟨_, rfl⟩
  rw [← hlz] at hla hlas ⊢
  rw [← hpr] at hla hper1 hper2 ⊢
  have HLZ := Lib.hid hlz
  have HPR := Lib.hid hpr
  have HMX := Lib.hid hmx; have HBL := Lib.hid hbl; have HRW := Lib.hid hrw; have HES := Lib.hid hes; have HLA := Lib.hid hla
  obtain ⟨w3, hw3⟩ : ∃ w3, w3 = (((w.alloc (stObj Av z cv lz)).alloc (djObj 3 A n c p f m)).alloc (stObj none 0 0 0)) := ⟨_, rfl⟩
  have HW3 := Lib.hid (DnBox.new w Av z cv lz 3 A n c p f m)
  rw [← hw3] at HW3
  have hs3 : w3.heap.size = w.heap.size + 3 := by rw [hw3]; simp
  have hb3 : RowKit.Below w.heap.size w w3 := by rw [hw3]; exact (((Below.refl _ _).alloc (Nat.le_refl _) _).alloc (by simp) _).alloc (by simp; omega) _
  have HB3 := Lib.hid hb3
  have hlt := HS.out.jl.lt
  clear hz hlz hpr h hmx hbl hrw hes hla
  go_enter Tryz.func83, Tryz.ntmps83
  go_upto_region 19 with fail
  rw [← hw3]
  clear hw3
  obtain ⟨w4, hw4⟩ : ∃ w4, w4 = ((((w3.alloc (.cells #[] 72)).alloc (.cells #[] 36)).alloc (.cells #[] 36)).alloc (.cells #[.slice (some ⟨w.heap.size + 1 + 1 + 1 + 1, 0, none⟩) 0 0] 22)) := ⟨_, rfl⟩
  have q1 : (w3.alloc (.cells #[] 72)).heap.size = w.heap.size + 4 := by simp; omega
  have q2 : ((w3.alloc (.cells #[] 72)).alloc (.cells #[] 36)).heap.size = w.heap.size + 5 := by simp; omega
  have q3 : (((w3.alloc (.cells #[] 72)).alloc (.cells #[] 36)).alloc (.cells #[] 36)).heap.size = w.heap.size + 6 := by simp; omega
  have hs4 : w4.heap.size = w.heap.size + 7 := by rw [hw4]; simp; omega
  have hb34 : RowKit.Below w3.heap.size w3 w4 := by rw [hw4]; exact ((((Below.refl _ _).alloc (Nat.le_refl _) _).alloc (by simp) _).alloc (by simp; omega) _).alloc (by simp; omega) _
  have H14 := Lib.hid (show OwnR w4 (w.heap.size + 3) (.slice (some ⟨w.heap.size + 3, 0, none⟩) 0 0) [] from by
    have := World.ownsRow_lit (base := w.heap.size + 3) (e := 72) (size := 9) w3 #[] 0 (by omega) (by simp [maxLen]) rfl
    rw [hs3] at this
    rw [hw4]; exact ((World.ownsRow.alloc this _).alloc _).alloc _)
  have H95 := Lib.hid (show OwnE w4 (w.heap.size + 4) (.slice (some ⟨w.heap.size + 4, 0, none⟩) 0 0) [] from by
    have := World.ownsRow_lit (base := w.heap.size + 4) (e := 36) (size := 8) (w3.alloc (.cells #[] 72)) #[] 0 (by omega) (by simp [maxLen]) rfl
    rw [q1] at this
    rw [hw4]; exact (World.ownsRow.alloc this _).alloc _)
  have H16 := Lib.hid (show OwnE w4 (w.heap.size + 5) (.slice (some ⟨w.heap.size + 5, 0, none⟩) 0 0) [] from by
    have := World.ownsRow_lit (base := w.heap.size + 5) (e := 36) (size := 8) ((w3.alloc (.cells #[] 72)).alloc (.cells #[] 36)) #[] 0 (by omega) (by simp [maxLen]) rfl
    rw [q2] at this
    rw [hw4]; exact World.ownsRow.alloc this _)
  have HBA := Lib.hid (show w4.heap[w.heap.size + 6]? = some (.cells #[.slice (some ⟨w.heap.size + 4, 0, none⟩) 0 0] 22) from by
    have := heap_alloc_new (((w3.alloc (.cells #[] 72)).alloc (.cells #[] 36)).alloc (.cells #[] 36)) (.cells #[.slice (some ⟨w.heap.size + 4, 0, none⟩) 0 0] 22)
    rw [q3] at this; rw [hw4]; exact this)
  rw [← hw4]
  clear hw4 q1 q2 q3
  have HB34 := Lib.hid hb34
  have HX4 := Lib.hid (show DnBox w4 w.heap.size Av z cv lz 3 A n c p f m from HW3.out.keep fun b h1 h2 => hb34.block b (by omega))
  obtain ⟨kb, hkb⟩ : ∃ kb, kb = stayP p := ⟨_, rfl⟩
  rw [← hkb] at HRW HES HLA
  have HKB := Lib.hid hkb
  obtain ⟨es, hesd⟩ : ∃ es, es = j.es := ⟨_, rfl⟩
  rw [← hesd] at HRW HES HLA HZ
  have HED := Lib.hid hesd
  have HEN := Lib.hid (show ∀ W, RowKit.Below w.heap.size w W → Ents W W.heap.size Av z cv es from fun W hW => by
    have h1 : Ents w w.heap.size Av j.es.length cv j.es := Cel.of_own HS.out.row
    rw [← hesd, ← HZ.out] at h1
    exact Cel.more (Cel.below h1 hW) hW.size)
  have HMY := Lib.hid (show ∀ e, some e ∈ es → mayB e = true from by rw [hesd]; exact HS.out.jl.1.may)
  obtain ⟨a, ha⟩ : ∃ a, a = autoN z pr := ⟨_, rfl⟩
  rw [← ha] at HLA
  have HSG := Lib.hid (show ∀ k, k < z → (k / pr = (z - 1) / pr ↔ a ≤ k) from fun k hk => by rw [ha]; exact same_seg hk hper1)
  clear hkb hesd ha hb34 hb3
  have HST := Lib.hid (show DwRel w4 w.heap.size Av z cv a lz kb es (.slice (some ⟨w.heap.size + 3, 0, none⟩) 0 0) (.slice (some ⟨w.heap.size + 5, 0, none⟩) 0 0) (.int .i64 0) (.int .i64 0) w4 from
    ⟨0, rfl, Nat.zero_le _, by simp [cntE], by
      rw [lasK_zero]
      exact ⟨H14.out, H16.out, fun b hb => by simp [Value.ownBlock] at hb; omega, fun b hb => by simp [Value.ownBlock] at hb; omega, HX4.out.st, Keep.refl _ _, hs4⟩⟩)
  go_wp2
  go_loopw [14, 16, 17, 18, 19] (fun v14 v16 n i _ W => DwRel w4 w.heap.size Av z cv a lz kb es v14 v16 n i W) (fun _ _ _ i _ _ => z - (intOf i).toNat)
  case atStart => exact HST.out
  case round =>
    obtain ⟨k, rfl, hk, rfl, hD⟩ := hrel
    have HD := Lib.hid hD
    have hszr := hD.size
    have HBR := Lib.hid (show RowKit.Below w.heap.size w wr from (HB3.out.trans (HB34.out.mono (by omega))).trans (hD.kp.below (by omega) (fun k hk hf => by omega)))
    have hx : DnBox wr w.heap.size Av z cv (lasK kb z a lz es k) 3 A n c p f m := ⟨hD.st, (hD.kp.block _ (by omega) (by omega)).trans HX4.out.dj, (hD.kp.block _ (by omega) (by omega)).trans HX4.out.re⟩
    obtain ⟨c50, c51, c71, x80, x81, z80, z81⟩ := hx.cells
    have z51 : wr.frozen? ⟨w.heap.size, 1, none⟩ = false := frozen_of_row wr _ 1 _ _ hx.st
    have d72 : wr.cell? ⟨w.heap.size + 1, 2, none⟩ = some (.string ⟨p.toArray⟩) := cell_of_row wr _ 2 _ _ (0, 0) hx.dj
    clear hD hx
    by_cases hkz : k < z
    · have hkl : k < es.length := by rw [← HZ.out]; exact hkz
      obtain ⟨b', off, hA, hbb, hd⟩ := (HEN.out wr HBR.out).at_ k hkl
      subst hA
      obtain ⟨e0, e1, e2, e3, e4, e5, e6, e7, e8⟩ := hd
      have t1 : (k : Int) < z := by omega
      have HNX := Lib.hid (fun v14 v16 (W : World) (las m : Nat) (X : List Ev) (y : Option Ev) (h : DwS w4 w.heap.size (some ⟨b', off, none⟩) z cv las ((es.take k).map (erE kb) ++ [y]) X v14 v16 W) => DwRel.next (a := a) (lz := lz) (m := m) hkl HZ.out.symm rfl h)
      have hll := HD.out.e
      have hL : ((es.take k).map (erE kb)).length = k := by rw [List.length_map, List.length_take]; omega
      have hle := rdEv_le (es.take k)
      have hlt' : (es.take k).length ≤ 99 := by rw [List.length_take]; omega
      have HSK := Lib.hid (HSG.out k hkz)
      have HMK := Lib.hid (HMY.out)
      have hcm : cntE kb (es.take k) ≤ 99 := by unfold cntE; exact Nat.le_trans (List.length_filter_le _ _) hlt'
      generalize hxk : es[k] = x at *
      generalize (es.take k).map (erE kb) = L at *
      generalize rdEv (es.take k) = X at *
      generalize cntE kb (es.take k) = m0 at *
      generalize hlk : lasK kb z a lz es k = las at *
      have hlas0 : las ≤ z := by rw [← hlk]; exact lasK_le hlas
      obtain ⟨f0, f1, f2, f3, f4, f5, f6, f7, f8⟩ := REntIn.new wr x
      have HD5 := Lib.hid (HD.out.up (W' := wr.alloc (rentObj x)) ((Below.refl _ _).alloc (Nat.le_refl _) _))
      have HT5 := Lib.hid (heap_alloc_new wr (rentObj x))
      have HS5 := Lib.hid (show (wr.alloc (rentObj x)).heap.size = wr.heap.size + 1 by simp)
      go_upto_region 24 with fail
      obtain ⟨w5, hw5⟩ : ∃ w5, w5 = wr.alloc (rentObj x) := ⟨_, rfl⟩
      rw [← hw5] at f0 f1 f2 f3 f4 f5 f6 f7 f8 HD5 HT5 HS5 ⊢
      have HN14 := Lib.hid (show u14.ownBlock ≠ some wr.heap.size from fun e => by have := (HD.out.n14 _ e).1; omega)
      have HN16 := Lib.hid (show u16.ownBlock ≠ some wr.heap.size from fun e => by have := (HD.out.n16 _ e).1; omega)
      clear hw5 c50 c51 c71 x80 x81 z80 z81 z51 d72 e0 e1 e2 e3 e4 e5 e6 e7 e8 HD hlk hbb
      have HCL := Lib.hid (show ∀ (W : World) (las : Nat) (L : List (Option Ev)) (X : List Ev) (v14 v16 : Value), DwS w4 w.heap.size (some ⟨b', off, none⟩) z cv las L X v14 v16 W → W.cell? ⟨w.heap.size, 0, none⟩ = some (.slice (some ⟨b', off, none⟩) z cv) ∧ W.cell? ⟨w.heap.size, 1, none⟩ = some (.int .i64 las) ∧ W.cell? ⟨w.heap.size + 1, 2, none⟩ = some (.string ⟨p.toArray⟩) ∧ W.frozen? ⟨w.heap.size, 1, none⟩ = false from fun W las L X v14 v16 hD =>
        ⟨cell_of_row W _ 0 _ _ (0, 0) hD.st, cell_of_row W _ 1 _ _ (0, 0) hD.st, cell_of_row W _ 2 _ _ (0, 0) ((hD.kp.block _ (by omega) (by omega)).trans HX4.out.dj), frozen_of_row W _ 1 _ _ hD.st⟩)
      obtain ⟨c50, c51, d72, z51⟩ := HCL.out _ _ _ _ _ _ HD5.out
      obtain ⟨j0, hi, hz0, hz1, hz2⟩ := info_parts rent_info
      have KI := Lib.hid hi; have KZ0 := Lib.hid hz0; have KZ1 := Lib.hid hz1; have KZ2 := Lib.hid hz2
      clear hi hz0 hz1 hz2
      cases hxn : x.isNone
      · obtain ⟨e, rfl⟩ : ∃ e, x = some e := by cases x with
          | none => simp at hxn
          | some e => exact ⟨e, rfl⟩
        simp only [entE, Option.getD_some, Option.isNone_some] at f0 f1 f2 f3 f4 f5 f6 f7 f8
        obtain ⟨i0, hi, hz0, hz1, hz2⟩ := info_parts ev_info
        have HI := Lib.hid hi; have HZ0 := Lib.hid hz0; have HZ1 := Lib.hid hz1; have HZ2 := Lib.hid hz2
        clear hi hz0 hz1 hz2
        go_wp2_with (at_builtin; refine wpList_app (P := Tryz.prog) rfl (.tmp 112) (.tmp 115) 22 rfl 36 i0 _ 8 96 Tryz.underlying22 HI.out HZ0.out HZ1.out HZ2.out rfl (by decide) (w.heap.size + 5) _ X.length (evCells X) rfl ?c1 (w5.heap.size + 1) _ _ _ e.cells rfl ?c2 (cells_one e) ?c4 ?c5 ?c6 ?_)
        case c1 => exact World.ownsRow.alloc HD5.out.x _
        case c2 => exact Cel.new (size := 8) (n := 1) w5 #[.string ⟨e.src.toArray⟩, .int .i64 e.num, .int .i64 e.at_, .int .i64 e.kind, .string ⟨e.per.toArray⟩, .string ⟨e.item.toArray⟩, .int .i64 e.val, .string ⟨e.text.toArray⟩] 36 (by unfold maxLen; omega) rfl
        case c4 => unfold maxLen; omega
        case c5 => omega
        case c6 => have := HS5.out; first | omega | (simp; omega)
        intro v16 w6 ho6 hg6 hv6
        have HD6 := Lib.hid (DwS.app16 (HD5.out.up (W' := w5.alloc (evObj e)) ((Below.refl _ _).alloc (Nat.le_refl _) _)) (x := e) (by simp) ho6 hg6 (by simpa using hv6))
        have hl6 : w5.heap.size + 1 ≤ w6.heap.size := by have := hg6.size; simp at this; exact this
        have HT6 := Lib.hid (show w6.heap[wr.heap.size]? = some (rentObj (some e)) from (hg6.block _ (by have := HS5.out; simp; omega) (fun hq => HN16.out hq.symm)).trans ((heap_alloc_old _ _ (by have := HS5.out; omega)).trans HT5.out))
        have HM16 := Lib.hid (show v16.ownBlock ≠ some wr.heap.size from fun hq => by
          rcases hv6 with h1 | h1
          · exact HN16.out (h1 ▸ hq)
          · rw [h1] at hq; injection hq with hq; have := HS5.out; omega)
        clear ho6 hg6 hv6 f0 f1 f2 f3 f4 f5 f6 f7 f8 c50 c51 d72 z51
        obtain ⟨c50, c51, d72, z51⟩ := HCL.out _ _ _ _ _ _ HD6.out
        have g0 : w6.cell? ⟨wr.heap.size, 0, none⟩ = some (.string ⟨e.src.toArray⟩) := cell_of_row w6 _ 0 _ _ (0, 0) HT6.out
        have g1 : w6.cell? ⟨wr.heap.size, 1, none⟩ = some (.int .i64 e.num) := cell_of_row w6 _ 1 _ _ (0, 0) HT6.out
        have g2 : w6.cell? ⟨wr.heap.size, 2, none⟩ = some (.int .i64 e.at_) := cell_of_row w6 _ 2 _ _ (0, 0) HT6.out
        have g3 : w6.cell? ⟨wr.heap.size, 3, none⟩ = some (.int .i64 e.kind) := cell_of_row w6 _ 3 _ _ (0, 0) HT6.out
        have g4 : w6.cell? ⟨wr.heap.size, 4, none⟩ = some (.string ⟨e.per.toArray⟩) := cell_of_row w6 _ 4 _ _ (0, 0) HT6.out
        have g5 : w6.cell? ⟨wr.heap.size, 5, none⟩ = some (.string ⟨e.item.toArray⟩) := cell_of_row w6 _ 5 _ _ (0, 0) HT6.out
        have g6 : w6.cell? ⟨wr.heap.size, 6, none⟩ = some (.int .i64 e.val) := cell_of_row w6 _ 6 _ _ (0, 0) HT6.out
        have g7 : w6.cell? ⟨wr.heap.size, 7, none⟩ = some (.string ⟨e.text.toArray⟩) := cell_of_row w6 _ 7 _ _ (0, 0) HT6.out
        have g8 : w6.cell? ⟨wr.heap.size, 8, none⟩ = some (.bool false) := cell_of_row w6 _ 8 _ _ (0, 0) HT6.out
        go_upto_region 26 with fail
        have HKE := Lib.hid (show kb e = !(e.per == p) by rw [HKB.out]; rfl)
        cases hpe : e.per == p
        · have HK1 := Lib.hid (show erE kb (some e) = some e by simp [erE, HKE.out, hpe])
          have HK2 := Lib.hid (show goesB kb (some e) = false by simp [goesB, HKE.out, hpe])
          go_upto_region 31 with fail
          have HFD := Lib.hid (HD6.out)
          go_wp2_with (at_builtin; refine wpList_app (P := Tryz.prog) rfl (.tmp 140) (.tmp 142) 47 rfl 72 j0 _ 9 104 Tryz.underlying47 KI.out KZ0.out KZ1.out KZ2.out rfl (by decide) (w.heap.size + 3) _ k (entCells L) rfl ?c1 (w6.heap.size + 1) _ _ _ (entC (some e)) rfl ?c2 (entC_one (some e)) ?c4 ?c5 ?c6 ?_)
          case c1 => (have := HFD.out.e; unfold OwnR at this; rw [hL] at this; exact World.ownsRow.alloc this _)
          case c2 => exact Cel.new (size := 9) (n := 1) w6 #[.string ⟨e.src.toArray⟩, .int .i64 e.num, .int .i64 e.at_, .int .i64 e.kind, .string ⟨e.per.toArray⟩, .string ⟨e.item.toArray⟩, .int .i64 e.val, .string ⟨e.text.toArray⟩, .bool false] 72 (by unfold maxLen; omega) rfl
          case c4 => unfold maxLen; omega
          case c5 => omega
          case c6 => have := HFD.out.size; first | omega | (simp; omega)
          intro v14 w9 ho9 hg9 hv9
          have HD9 := Lib.hid (DwS.app14 (HFD.out.up (W' := w6.alloc _) ((Below.refl _ _).alloc (Nat.le_refl _) _)) (x := (some e)) (n := k + 1) (by simp [hL]) ho9 hg9 (by simpa using hv9))
          have HRL := Lib.hid (HNX.out _ _ _ _ m0 _ _ HD9.out HK1.out.symm rfl (by rw [HK2.out]; simp) (by rw [HK2.out]; simp))
          clear ho9 hg9 hv9
          go_wp2
          go_roundw
          case rel => exact HRL.out
          case measure => simp [intOf]; omega
        · have HK1 := Lib.hid (show erE kb (some e) = none by simp [erE, HKE.out, hpe])
          have HK2 := Lib.hid (show goesB kb (some e) = true by simp [goesB, HKE.out, hpe])
          go_upto_region 27 with fail
          have y0 := frozen_of_row w6 wr.heap.size 0 _ _ HT6.out
          have y1 := frozen_of_row w6 wr.heap.size 1 _ _ HT6.out
          have y2 := frozen_of_row w6 wr.heap.size 2 _ _ HT6.out
          have y3 := frozen_of_row w6 wr.heap.size 3 _ _ HT6.out
          have y4 := frozen_of_row w6 wr.heap.size 4 _ _ HT6.out
          have y5 := frozen_of_row w6 wr.heap.size 5 _ _ HT6.out
          have y6 := frozen_of_row w6 wr.heap.size 6 _ _ HT6.out
          have y7 := frozen_of_row w6 wr.heap.size 7 _ _ HT6.out
          have y8 := frozen_of_row w6 wr.heap.size 8 _ _ HT6.out
          go_upto_region 28 with fail
          obtain ⟨w7, hw7⟩ : ∃ w7, w7 = (((((((((w6.setCell ⟨wr.heap.size, 0, none⟩ (.string ⟨#[]⟩)).setCell ⟨wr.heap.size, 1, none⟩ (.int .i64 0)).setCell ⟨wr.heap.size, 2, none⟩ (.int .i64 0)).setCell ⟨wr.heap.size, 3, none⟩ (.int .i64 0)).setCell ⟨wr.heap.size, 4, none⟩ (.string ⟨#[]⟩)).setCell ⟨wr.heap.size, 5, none⟩ (.string ⟨#[]⟩)).setCell ⟨wr.heap.size, 6, none⟩ (.int .i64 0)).setCell ⟨wr.heap.size, 7, none⟩ (.string ⟨#[]⟩)).setCell ⟨wr.heap.size, 8, none⟩ (.bool true)) := ⟨_, rfl⟩
          have HT7 := Lib.hid (show w7.heap[wr.heap.size]? = some (rentObj none) from by rw [hw7]; exact rent_wipe HT6.out)
          have HD7 := Lib.hid (show DwS w4 w.heap.size (some ⟨b', off, none⟩) z cv las L (X ++ [e]) u14 v16 w7 from by rw [hw7]; exact HD6.out.wipe hszr HN14.out HM16.out)
          rw [← hw7]
          clear hw7 y0 y1 y2 y3 y4 y5 y6 y7 y8 g0 g1 g2 g3 g4 g5 g6 g7 g8 c50 c51 d72 z51
          obtain ⟨c50, c51, d72, z51⟩ := HCL.out _ _ _ _ _ _ HD7.out
          have hp0 : ((pr : Int) == 0) = false := by simp; omega
          have hq1 : k / pr ≤ k := Nat.div_le_self _ _
          have hq2 : (z - 1) / pr ≤ z - 1 := Nat.div_le_self _ _
          have hd1 : (k : Int).tdiv (pr : Int) = ((k / pr : Nat) : Int) := (Int.ofNat_tdiv _ _).symm
          have hd2 : ((z : Int) - 1).tdiv (pr : Int) = (((z - 1) / pr : Nat) : Int) := by rw [show (z : Int) - 1 = ((z - 1 : Nat) : Int) by omega, ← Int.ofNat_tdiv]
          have HSK2 := HSK
          generalize k / pr = d1 at *
          generalize (z - 1) / pr = d2 at *
          by_cases hsg : a ≤ k
          · have hdd : d1 = d2 := HSK.out.2 hsg
            subst hdd
            go_upto_region 29 with fail
            go_quiet (fail)
            rename_i nq
            go_upto_region 31 with fail
            have HD8 := Lib.hid ((HD7.out.up (W' := w7.drewN nq) (below_drewN (Below.refl _ _) nq)).lasts z)
            have HT8 := Lib.hid (show ((w7.drewN nq).setCell ⟨w.heap.size, 1, none⟩ (.int .i64 (z : Int))).heap[wr.heap.size]? = some (rentObj none) from (Below.heap_setCell _ ⟨w.heap.size, 1, none⟩ _ _ (by show wr.heap.size ≠ w.heap.size; omega)).trans HT7.out)
            obtain ⟨w8, hw8⟩ : ∃ w8, w8 = (w7.drewN nq).setCell ⟨w.heap.size, 1, none⟩ (.int .i64 (z : Int)) := ⟨_, rfl⟩
            rw [← hw8] at HD8 HT8 ⊢
            clear hw8 c50 c51 d72 z51
            have g0 : w8.cell? ⟨wr.heap.size, 0, none⟩ = some (.string ⟨#[]⟩) := cell_of_row w8 _ 0 _ _ (0, 0) HT8.out
            have g1 : w8.cell? ⟨wr.heap.size, 1, none⟩ = some (.int .i64 0) := cell_of_row w8 _ 1 _ _ (0, 0) HT8.out
            have g2 : w8.cell? ⟨wr.heap.size, 2, none⟩ = some (.int .i64 0) := cell_of_row w8 _ 2 _ _ (0, 0) HT8.out
            have g3 : w8.cell? ⟨wr.heap.size, 3, none⟩ = some (.int .i64 0) := cell_of_row w8 _ 3 _ _ (0, 0) HT8.out
            have g4 : w8.cell? ⟨wr.heap.size, 4, none⟩ = some (.string ⟨#[]⟩) := cell_of_row w8 _ 4 _ _ (0, 0) HT8.out
            have g5 : w8.cell? ⟨wr.heap.size, 5, none⟩ = some (.string ⟨#[]⟩) := cell_of_row w8 _ 5 _ _ (0, 0) HT8.out
            have g6 : w8.cell? ⟨wr.heap.size, 6, none⟩ = some (.int .i64 0) := cell_of_row w8 _ 6 _ _ (0, 0) HT8.out
            have g7 : w8.cell? ⟨wr.heap.size, 7, none⟩ = some (.string ⟨#[]⟩) := cell_of_row w8 _ 7 _ _ (0, 0) HT8.out
            have g8 : w8.cell? ⟨wr.heap.size, 8, none⟩ = some (.bool true) := cell_of_row w8 _ 8 _ _ (0, 0) HT8.out
            have HFD := Lib.hid (HD8.out)
            go_wp2_with (at_builtin; refine wpList_app (P := Tryz.prog) rfl (.tmp 140) (.tmp 142) 47 rfl 72 j0 _ 9 104 Tryz.underlying47 KI.out KZ0.out KZ1.out KZ2.out rfl (by decide) (w.heap.size + 3) _ k (entCells L) rfl ?c1 (w8.heap.size + 1) _ _ _ (entC none) rfl ?c2 (entC_one none) ?c4 ?c5 ?c6 ?_)
            case c1 => (have := HFD.out.e; unfold OwnR at this; rw [hL] at this; exact World.ownsRow.alloc this _)
            case c2 => exact Cel.new (size := 9) (n := 1) w8 #[.string ⟨#[]⟩, .int .i64 0, .int .i64 0, .int .i64 0, .string ⟨#[]⟩, .string ⟨#[]⟩, .int .i64 0, .string ⟨#[]⟩, .bool true] 72 (by unfold maxLen; omega) rfl
            case c4 => unfold maxLen; omega
            case c5 => omega
            case c6 => have := HFD.out.size; first | omega | (simp; omega)
            intro v14 w9 ho9 hg9 hv9
            have HD9 := Lib.hid (DwS.app14 (HFD.out.up (W' := w8.alloc _) ((Below.refl _ _).alloc (Nat.le_refl _) _)) (x := none) (n := k + 1) (by simp [hL]) ho9 hg9 (by simpa using hv9))
            have HRL := Lib.hid (HNX.out _ _ _ _ (m0 + 1) _ _ HD9.out HK1.out.symm rfl (by rw [HK2.out]; simp) (by rw [HK2.out, if_pos ⟨hsg, rfl⟩]))
            clear ho9 hg9 hv9
            go_wp2
            go_roundw
            case rel => exact HRL.out
            case measure => simp [intOf]; omega
          · have hdd : ¬ d1 = d2 := fun h => hsg (HSK.out.1 h)
            have hdd2 : ¬ (d1 : Int) = d2 := by omega
            go_upto_region 29 with fail
            go_quiet (fail)
            rename_i nq
            go_upto_region 31 with fail
            have HD8 := Lib.hid (HD7.out.up (W' := w7.drewN nq) (below_drewN (Below.refl _ _) nq))
            have HT8 := Lib.hid (show (w7.drewN nq).heap[wr.heap.size]? = some (rentObj none) from HT7.out)
            obtain ⟨w8, hw8⟩ : ∃ w8, w8 = w7.drewN nq := ⟨_, rfl⟩
            rw [← hw8] at HD8 HT8 ⊢
            clear hw8 c50 c51 d72 z51
            have g0 : w8.cell? ⟨wr.heap.size, 0, none⟩ = some (.string ⟨#[]⟩) := cell_of_row w8 _ 0 _ _ (0, 0) HT8.out
            have g1 : w8.cell? ⟨wr.heap.size, 1, none⟩ = some (.int .i64 0) := cell_of_row w8 _ 1 _ _ (0, 0) HT8.out
            have g2 : w8.cell? ⟨wr.heap.size, 2, none⟩ = some (.int .i64 0) := cell_of_row w8 _ 2 _ _ (0, 0) HT8.out
            have g3 : w8.cell? ⟨wr.heap.size, 3, none⟩ = some (.int .i64 0) := cell_of_row w8 _ 3 _ _ (0, 0) HT8.out
            have g4 : w8.cell? ⟨wr.heap.size, 4, none⟩ = some (.string ⟨#[]⟩) := cell_of_row w8 _ 4 _ _ (0, 0) HT8.out
            have g5 : w8.cell? ⟨wr.heap.size, 5, none⟩ = some (.string ⟨#[]⟩) := cell_of_row w8 _ 5 _ _ (0, 0) HT8.out
            have g6 : w8.cell? ⟨wr.heap.size, 6, none⟩ = some (.int .i64 0) := cell_of_row w8 _ 6 _ _ (0, 0) HT8.out
            have g7 : w8.cell? ⟨wr.heap.size, 7, none⟩ = some (.string ⟨#[]⟩) := cell_of_row w8 _ 7 _ _ (0, 0) HT8.out
            have g8 : w8.cell? ⟨wr.heap.size, 8, none⟩ = some (.bool true) := cell_of_row w8 _ 8 _ _ (0, 0) HT8.out
            have HFD := Lib.hid (HD8.out)
            go_wp2_with (at_builtin; refine wpList_app (P := Tryz.prog) rfl (.tmp 140) (.tmp 142) 47 rfl 72 j0 _ 9 104 Tryz.underlying47 KI.out KZ0.out KZ1.out KZ2.out rfl (by decide) (w.heap.size + 3) _ k (entCells L) rfl ?c1 (w8.heap.size + 1) _ _ _ (entC none) rfl ?c2 (entC_one none) ?c4 ?c5 ?c6 ?_)
            case c1 => (have := HFD.out.e; unfold OwnR at this; rw [hL] at this; exact World.ownsRow.alloc this _)
            case c2 => exact Cel.new (size := 9) (n := 1) w8 #[.string ⟨#[]⟩, .int .i64 0, .int .i64 0, .int .i64 0, .string ⟨#[]⟩, .string ⟨#[]⟩, .int .i64 0, .string ⟨#[]⟩, .bool true] 72 (by unfold maxLen; omega) rfl
            case c4 => unfold maxLen; omega
            case c5 => omega
            case c6 => have := HFD.out.size; first | omega | (simp; omega)
            intro v14 w9 ho9 hg9 hv9
            have HD9 := Lib.hid (DwS.app14 (HFD.out.up (W' := w8.alloc _) ((Below.refl _ _).alloc (Nat.le_refl _) _)) (x := none) (n := k + 1) (by simp [hL]) ho9 hg9 (by simpa using hv9))
            have HRL := Lib.hid (HNX.out _ _ _ _ (m0 + 1) _ _ HD9.out HK1.out.symm rfl (by rw [HK2.out]; simp) (by rw [if_neg (fun h => hsg h.1)]))
            clear ho9 hg9 hv9
            go_wp2
            go_roundw
            case rel => exact HRL.out
            case measure => simp [intOf]; omega
      · have hx0 : x = none := by cases x with
          | none => rfl
          | some e => simp at hxn
        subst hx0
        have HK1 := Lib.hid (show erE kb none = none from rfl)
        have HK2 := Lib.hid (show goesB kb none = false from rfl)
        clear f0 f1 f2 f3 f4 f5 f6 f7 f8
        have g0 : w5.cell? ⟨wr.heap.size, 0, none⟩ = some (.string ⟨#[]⟩) := cell_of_row w5 _ 0 _ _ (0, 0) HT5.out
        have g1 : w5.cell? ⟨wr.heap.size, 1, none⟩ = some (.int .i64 0) := cell_of_row w5 _ 1 _ _ (0, 0) HT5.out
        have g2 : w5.cell? ⟨wr.heap.size, 2, none⟩ = some (.int .i64 0) := cell_of_row w5 _ 2 _ _ (0, 0) HT5.out
        have g3 : w5.cell? ⟨wr.heap.size, 3, none⟩ = some (.int .i64 0) := cell_of_row w5 _ 3 _ _ (0, 0) HT5.out
        have g4 : w5.cell? ⟨wr.heap.size, 4, none⟩ = some (.string ⟨#[]⟩) := cell_of_row w5 _ 4 _ _ (0, 0) HT5.out
        have g5 : w5.cell? ⟨wr.heap.size, 5, none⟩ = some (.string ⟨#[]⟩) := cell_of_row w5 _ 5 _ _ (0, 0) HT5.out
        have g6 : w5.cell? ⟨wr.heap.size, 6, none⟩ = some (.int .i64 0) := cell_of_row w5 _ 6 _ _ (0, 0) HT5.out
        have g7 : w5.cell? ⟨wr.heap.size, 7, none⟩ = some (.string ⟨#[]⟩) := cell_of_row w5 _ 7 _ _ (0, 0) HT5.out
        have g8 : w5.cell? ⟨wr.heap.size, 8, none⟩ = some (.bool true) := cell_of_row w5 _ 8 _ _ (0, 0) HT5.out
        go_upto_region 31 with fail
        have HFD := Lib.hid (HD5.out)
        go_wp2_with (at_builtin; refine wpList_app (P := Tryz.prog) rfl (.tmp 140) (.tmp 142) 47 rfl 72 j0 _ 9 104 Tryz.underlying47 KI.out KZ0.out KZ1.out KZ2.out rfl (by decide) (w.heap.size + 3) _ k (entCells L) rfl ?c1 (w5.heap.size + 1) _ _ _ (entC none) rfl ?c2 (entC_one none) ?c4 ?c5 ?c6 ?_)
        case c1 => (have := HFD.out.e; unfold OwnR at this; rw [hL] at this; exact World.ownsRow.alloc this _)
        case c2 => exact Cel.new (size := 9) (n := 1) w5 #[.string ⟨#[]⟩, .int .i64 0, .int .i64 0, .int .i64 0, .string ⟨#[]⟩, .string ⟨#[]⟩, .int .i64 0, .string ⟨#[]⟩, .bool true] 72 (by unfold maxLen; omega) rfl
        case c4 => unfold maxLen; omega
        case c5 => omega
        case c6 => have := HFD.out.size; first | omega | (simp; omega)
        intro v14 w9 ho9 hg9 hv9
        have HD9 := Lib.hid (DwS.app14 (HFD.out.up (W' := w5.alloc _) ((Below.refl _ _).alloc (Nat.le_refl _) _)) (x := none) (n := k + 1) (by simp [hL]) ho9 hg9 (by simpa using hv9))
        have HRL := Lib.hid (HNX.out _ _ _ _ m0 _ _ HD9.out HK1.out.symm (show X = X ++ (none : Option Ev).toList by simp) (by rw [HK2.out]; simp) (by rw [HK2.out]; simp))
        clear ho9 hg9 hv9
        go_wp2
        go_roundw
        case rel => exact HRL.out
        case measure => simp [intOf]; omega
    · obtain rfl : k = z := by omega
      have hte : es.take k = es := List.take_of_length_le (by rw [← HZ.out]; exact Nat.le_refl _)
      have hlk : lasK kb k a lz es k = j'.lasts := by unfold lasK; rw [hte, HLA.out]
      rw [hte, hlk] at HD
      rw [hlk] at c51
      rw [hte]
      have hlasj : j'.lasts ≤ k := by rw [← hlk]; exact lasK_le hlas
      obtain ⟨las, hlasd⟩ : ∃ las, las = j'.lasts := ⟨_, rfl⟩
      rw [← hlasd] at HD c51 hlasj
      have HLS := Lib.hid hlasd
      have t1 : ¬ (k : Int) < k := by omega
      obtain ⟨A14, c14, h14⟩ := ownsRow_form HD.out.e
      obtain ⟨A16, c16, h16⟩ := ownsRow_form HD.out.x
      subst h14 h16
      have hL14 : (es.map (erE kb)).length = k := by rw [List.length_map]; exact HZ.out.symm
      rw [hL14] at HD ⊢
      have hr1 : (rdEv es).length ≤ 99 := Nat.le_trans (rdEv_le es) (by rw [← HZ.out]; exact hn)
      generalize cntE kb es = m1 at *
      have z50 : wr.frozen? ⟨w.heap.size, 0, none⟩ = false := frozen_of_row wr _ 0 _ _ HD.out.st
      clear hlk hlasd hte x80 x81 z80 z81 z51 d72 c71
      go_upto_region 33 with fail
      have hs5 : (wr.setCell ⟨w.heap.size, 0, none⟩ (.slice A14 k c14)).heap.size = wr.heap.size := by simp [World.setCell]
      have HK5 := Lib.hid (show Keep (fun b => b = w.heap.size ∨ b = w.heap.size + 3 ∨ b = w.heap.size + 5) w4 (wr.setCell ⟨w.heap.size, 0, none⟩ (.slice A14 k c14)) from HD.out.kp.setCell (fun _ => .inl rfl) _)
      have HB5 := Lib.hid (show RowKit.Below w.heap.size w (wr.setCell ⟨w.heap.size, 0, none⟩ (.slice A14 k c14)) from (HB3.out.trans (HB34.out.mono (by omega))).trans (HK5.out.below (by omega) (fun k hk hf => by omega)))
      have HST5 := Lib.hid (show (wr.setCell ⟨w.heap.size, 0, none⟩ (.slice A14 k c14)).heap[w.heap.size]? = some (stObj A14 k c14 las) from heap_set_row HD.out.st)
      have HO14 := Lib.hid (show OwnR (wr.setCell ⟨w.heap.size, 0, none⟩ (.slice A14 k c14)) (w.heap.size + 3) (.slice A14 k c14) (es.map (erE kb)) from HD.out.e.keepB fun b hb => Below.heap_setCell _ ⟨w.heap.size, 0, none⟩ _ b (HD.out.n14 b hb).2)
      have HO16 := Lib.hid (show OwnE (wr.setCell ⟨w.heap.size, 0, none⟩ (.slice A14 k c14)) (w.heap.size + 5) (.slice A16 (rdEv es).length c16) (rdEv es) from HD.out.x.keepB fun b hb => Below.heap_setCell _ ⟨w.heap.size, 0, none⟩ _ b (HD.out.n16 b hb).2)
      obtain ⟨w5, hw5⟩ : ∃ w5, w5 = wr.setCell ⟨w.heap.size, 0, none⟩ (.slice A14 k c14) := ⟨_, rfl⟩
      rw [← hw5] at hs5 HK5 HB5 HST5 HO14 HO16 ⊢
      clear hw5 c50 c51 z50
      have hk5 : ∀ b, b < w.heap.size + 7 → b ≠ w.heap.size → b ≠ w.heap.size + 3 → b ≠ w.heap.size + 5 → w5.heap[b]? = w4.heap[b]? := fun b h1 h2 h3 h4 => HK5.out.block b (by omega) (by omega)
      have HAI := Lib.hid (show AskI (w.heap.size + 6) (w.heap.size + 1) p [] (fun b => b = w.heap.size + 6 ∨ b = w.heap.size + 1 ∨ b = w.heap.size + 4) w5 from
        ⟨⟨_, (hk5 _ (by omega) (by omega) (by omega) (by omega)).trans HBA.out, OwnE.low0 (H95.out.keepB fun b hb => by simp [Value.ownBlock] at hb; subst hb; exact hk5 _ (by omega) (by omega) (by omega) (by omega)), fun b hb => by simp [Value.ownBlock] at hb; subst hb; exact ⟨.inr (.inr rfl), by omega, by omega⟩⟩,
          cell_of_row w5 _ 2 _ _ (0, 0) ((hk5 _ (by omega) (by omega) (by omega) (by omega)).trans HX4.out.dj), .inl rfl, .inr (.inl rfl), by omega, fun b hb => by omega⟩)
      have HRC := Lib.hid (jlrewr_any (AskI.asker (w.heap.size + 6) (w.heap.size + 1) p) (HS.out.jl.up HB5.out) HAI.out (fun b hb hg => by have := hlt b hg; omega) (by rw [← HED.out, ← HZ.out]; exact hn) (by simp) (HMX.out.up HB5.out) (fun hm => by
        rcases hm with hm | hm | hm
        · exact HBL.out.1 hm
        · exact HBL.out.2 hm
        · have := HMX.out.lt; omega))
      rw [← HKB.out, HRW.out] at HRC
      clear hk5
      go_wp2_with fail
      refine HRC.out.mono ?_
      rintro r w6 ⟨rfl, G6, F6, H6, aq6, hj6, hi6, haq6, hap6, hG6, hF6, hH6, hk6⟩
      obtain ⟨⟨va, hva, hoa, hba⟩, _, _, _, _, hl6⟩ := hi6
      rw [haq6 rfl, List.nil_append, ← HED.out] at hoa
      obtain ⟨Aa, ca, rfl, hEa⟩ := hoa.form
      have hs6 := hk6.size
      have hn6 : ∀ b, w.heap.size ≤ b → b < w5.heap.size → b ≠ w.heap.size + 6 → b ≠ w.heap.size + 1 → b ≠ w.heap.size + 4 → w6.heap[b]? = w5.heap[b]? := fun b h1 h2 h3 h4 h5 => hk6.block b h2 (fun h => by
        rcases h with h | h | h
        · have := hlt b (.inl h); omega
        · have := hlt b (.inr h); omega
        · omega)
      have hE16 : Evs w6 w6.heap.size A16 (rdEv es).length c16 (rdEv es) := by
        refine Cel.of_own (OwnE.keepB HO16.out fun b hb => ?_)
        have h1 := HD.out.b16 b hb
        have h2 := World.ownsRow.lt HO16.out b hb
        exact hn6 b (by omega) h2.2 (by omega) (by omega) (by omega)
      have hst6 := (hn6 w.heap.size (Nat.le_refl _) (by omega) (by omega) (by omega) (by omega)).trans HST5.out
      have hre6 := (hn6 (w.heap.size + 1 + 1) (by omega) (by omega) (by omega) (by omega) (by omega)).trans ((HK5.out.block (w.heap.size + 1 + 1) (by omega) (by omega)).trans HX4.out.re)
      have HEA := Lib.hid hEa; have HE16 := Lib.hid hE16; have HVA := Lib.hid hva; have HST6 := Lib.hid hst6; have HRE6 := Lib.hid hre6
      have HFN := Lib.hid (show ∀ (w7 w9 : World), RowKit.Below w6.heap.size w6 w7 → w7.heap.size ≤ w9.heap.size → (∀ b, b ≠ w.heap.size + 1 + 1 → w9.heap[b]? = w7.heap[b]?) → (Keep (fun b => G b ∨ F b) w w7 → Keep (fun b => G b ∨ F b) w w9) → DonePost w G F bj bd j' (.returned (.tuple #[.agg #[.slice A14 k c14, .int .i64 (las : Int)], .bool true])) w9 from fun w7 w9 hb7 h9 hblk hk9 => by
        have := finR (v14 := .slice A14 k c14) (b8 := w.heap.size + 1 + 1) (base := w.heap.size + 3) HB5.out hlt hj6 hG6 hF6 (H := fun b => b = w.heap.size + 6 ∨ b = w.heap.size + 1 ∨ b = w.heap.size + 4) (fun b hb => by omega) hk6 (by rw [HES.out]; exact HO14.out) (fun b hb => by
          have h1 := HD.out.b14 b hb
          exact ⟨by omega, by omega, by omega⟩) hb7 ⟨by omega, by omega⟩ h9 hblk hk9
        rw [← HLS.out] at this
        exact this)
      have HCW := Lib.hid (show ∀ W, RowKit.Below w6.heap.size w6 W → (W.cell? ⟨w.heap.size, 0, none⟩ = some (.slice A14 k c14) ∧ W.cell? ⟨w.heap.size, 1, none⟩ = some (.int .i64 (las : Int)) ∧ W.cell? ⟨w.heap.size + 1 + 1 + 1 + 1 + 1 + 1, 0, none⟩ = some (.slice Aa (rdEv es).length ca)) ∧ W.heap[w.heap.size + 1 + 1]? = some (stObj none 0 0 0) from fun W hW =>
        ⟨⟨cell_of_row W _ 0 _ _ (0, 0) ((hW.block _ (by omega)).trans HST6.out), cell_of_row W _ 1 _ _ (0, 0) ((hW.block _ (by omega)).trans HST6.out), cell_of_row W _ 0 _ _ (0, 0) ((hW.block _ (by omega)).trans HVA.out)⟩, (hW.block _ (by omega)).trans HRE6.out⟩)
      have HSM := Lib.hid (show Calls Tryz.prog 38 #[.slice Aa (rdEv es).length ca, .slice A16 (rdEv es).length c16] w6.drew (fun r w' => r = .returned (.bool true) ∧ RowKit.Below w6.heap.size w6 w') from (same02_any w6.drew w6.heap.size w6.heap.size Aa A16 _ ca c16 _ (Cel.drewN HEA.out 1) (Cel.drewN HE16.out 1) (by omega)).mono fun r w' ⟨h1, q, h2⟩ => ⟨h1, h2 ▸ below_drewN (below_drewN (Below.refl _ _) 1) q⟩)
      have HST3 := Lib.hid (show ∀ w2 : World, (w2.cell? ⟨w.heap.size, 0, none⟩ = some (.slice A14 k c14) ∧ w2.cell? ⟨w.heap.size, 1, none⟩ = some (.int .i64 (las : Int)) ∧ w2.cell? ⟨w.heap.size + 1 + 1 + 1 + 1 + 1 + 1, 0, none⟩ = some (.slice Aa (rdEv es).length ca)) → (((w2.setCell ⟨w.heap.size + 1 + 1, 0, none⟩ (.slice A14 k c14)).setCell ⟨w.heap.size + 1 + 1, 1, none⟩ (.int .i64 (las : Int))).cell? ⟨w.heap.size, 0, none⟩ = some (.slice A14 k c14) ∧ ((w2.setCell ⟨w.heap.size + 1 + 1, 0, none⟩ (.slice A14 k c14)).setCell ⟨w.heap.size + 1 + 1, 1, none⟩ (.int .i64 (las : Int))).cell? ⟨w.heap.size, 1, none⟩ = some (.int .i64 (las : Int)) ∧ ((w2.setCell ⟨w.heap.size + 1 + 1, 0, none⟩ (.slice A14 k c14)).setCell ⟨w.heap.size + 1 + 1, 1, none⟩ (.int .i64 (las : Int))).cell? ⟨w.heap.size + 1 + 1 + 1 + 1 + 1 + 1, 0, none⟩ = some (.slice Aa (rdEv es).length ca)) from fun w2 hS2 => by
        have key : ∀ b, b ≠ w.heap.size + 1 + 1 → ((w2.setCell ⟨w.heap.size + 1 + 1, 0, none⟩ (.slice A14 k c14)).setCell ⟨w.heap.size + 1 + 1, 1, none⟩ (.int .i64 (las : Int))).heap[b]? = w2.heap[b]? := fun b hb => (Below.heap_setCell _ ⟨w.heap.size + 1 + 1, 1, none⟩ _ b hb).trans (Below.heap_setCell _ ⟨w.heap.size + 1 + 1, 0, none⟩ _ b hb)
        exact ⟨(World.cell?_of_block (w := w2) (a := ⟨w.heap.size, 0, none⟩) (key _ (by show w.heap.size ≠ _; omega))).trans hS2.1, (World.cell?_of_block (w := w2) (a := ⟨w.heap.size, 1, none⟩) (key _ (by show w.heap.size ≠ _; omega))).trans hS2.2.1, (World.cell?_of_block (w := w2) (a := ⟨w.heap.size + 1 + 1 + 1 + 1 + 1 + 1, 0, none⟩) (key _ (by show w.heap.size + 1 + 1 + 1 + 1 + 1 + 1 ≠ _; omega))).trans hS2.2.2⟩)
      obtain ⟨⟨c50, c51, c60⟩, _⟩ := HCW.out w6 (Below.refl _ _)
      clear hva hoa hba hEa hn6 hE16 hst6 hre6 hj6 haq6 hap6 hG6 hF6 hH6 hk6 hl6 hlt hs3 hs4 hs5 hs6 hszr HRC HAI HX4 HEN HSG
      go_upto_region 34 with fail
      generalize (rdEv es).length = q at *
      go_region_held3 (fun wx => wx.cell? ⟨w.heap.size, 0, none⟩ = some (.slice A14 k c14) ∧ wx.cell? ⟨w.heap.size, 1, none⟩ = some (.int .i64 (las : Int)) ∧ wx.cell? ⟨w.heap.size + 1 + 1 + 1 + 1 + 1 + 1, 0, none⟩ = some (.slice Aa q ca)) (first | assumption | go_keep) (first
        | (go_at_call 38; (with_reducible refine HSM.out.mono ?_); rintro r9 w8 ⟨rfl, hb8⟩; have HB8 := Lib.hid hb8; obtain ⟨hS8, h88⟩ := HCW.out w8 hb8; have hS9 := HST3.out w8 hS8;
            have x80 : w8.cell? ⟨w.heap.size + 1 + 1, 0, none⟩ = some (.slice none 0 0) := cell_of_row w8 _ 0 _ _ (0, 0) h88;
            have x81 : w8.cell? ⟨w.heap.size + 1 + 1, 1, none⟩ = some (.int .i64 0) := cell_of_row w8 _ 1 _ _ (0, 0) h88;
            have z80 : w8.frozen? ⟨w.heap.size + 1 + 1, 0, none⟩ = false := frozen_of_row w8 _ 0 _ _ h88;
            have z81 : w8.frozen? ⟨w.heap.size + 1 + 1, 1, none⟩ = false := frozen_of_row w8 _ 1 _ _ h88;
            have H88 := Lib.hid h88; clear hb8 h88))
      have r80 : ((w8.setCell ⟨w.heap.size + 1 + 1, 0, none⟩ (.slice A14 k c14)).setCell ⟨w.heap.size + 1 + 1, 1, none⟩ (.int .i64 (las : Int))).cell? ⟨w.heap.size + 1 + 1, 0, none⟩ = some (.slice A14 k c14) := cell_of_row _ _ 0 _ _ (0, 0) (heap_set_row (heap_set_row H88.out))
      have r81 : ((w8.setCell ⟨w.heap.size + 1 + 1, 0, none⟩ (.slice A14 k c14)).setCell ⟨w.heap.size + 1 + 1, 1, none⟩ (.int .i64 (las : Int))).cell? ⟨w.heap.size + 1 + 1, 1, none⟩ = some (.int .i64 (las : Int)) := cell_of_row _ _ 1 _ _ (0, 0) (heap_set_row (heap_set_row H88.out))
      have HR := Lib.hid (HFN.out w8 ((w8.setCell ⟨w.heap.size + 1 + 1, 0, none⟩ (.slice A14 k c14)).setCell ⟨w.heap.size + 1 + 1, 1, none⟩ (.int .i64 (las : Int))) HB8.out (by simp [World.setCell]) (fun b hb => (Below.heap_setCell _ ⟨w.heap.size + 1 + 1, 1, none⟩ _ b hb).trans (Below.heap_setCell _ ⟨w.heap.size + 1 + 1, 0, none⟩ _ b hb)) (fun hk => (hk.setCell (p := ⟨w.heap.size + 1 + 1, 0, none⟩) (fun h => by simp at h; omega) _).setCell (p := ⟨w.heap.size + 1 + 1, 1, none⟩) (fun h => by simp at h; omega) _))
      clear hS8 hS9 x80 x81 z80 z81 c50 c51 c60
      generalize (w8.setCell ⟨w.heap.size + 1 + 1, 0, none⟩ (.slice A14 k c14)).setCell ⟨w.heap.size + 1 + 1, 1, none⟩ (.int .i64 (las : Int)) = w9 at *
      go_wp2
      exact bodyPost_ret (v := .tuple #[.agg #[.slice A14 k c14, .int .i64 (las : Int)], .bool true]) (by simp [results, Tryz.results83, go_sem, r80, r81]) rfl HR.out
end Go.Proofs.YtejjfhhppjdcaaaGreatDoor
