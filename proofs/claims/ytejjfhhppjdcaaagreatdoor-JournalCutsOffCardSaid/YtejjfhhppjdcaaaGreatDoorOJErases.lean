/-
  The law JournalErases, walked.
-/
import Derived.Test.YtejjfhhppjdcaaaGreatDoorOJOpens
import Derived.Test.YtejjfhhppjdcaaaGreatDoorOPerAsk
namespace Go.Proofs.YtejjfhhppjdcaaaGreatDoor
open Go.RowKit Go.Maps Go.Sort Go.Shelf

/-- the document's row while it grows: its box is b10, w8 the world ahead of the loop -/
def ElRel (w8 : World) (b10 : Nat) (kb : Ev → Bool) (ds : List Ev) (i : Value) (W : World) : Prop :=
  ∃ (k c : Nat) (A : Option Addr), i = .int .i64 k ∧ k ≤ ds.length ∧ W.heap[b10]? = some (stObj A k c 0) ∧ OwnR W w8.heap.size (.slice A k c) (((ds.take k).map some).map (erE kb)) ∧ Keep (fun b => b = b10) w8 W
theorem EntIn.of_heap' {W : World} {b : Nat} {x : Option Ev} (h : W.heap[b]? = some (rentObj x)) : EntIn W b x :=
  ⟨cell_of_row W b 0 _ _ (0, 0) h, cell_of_row W b 1 _ _ (0, 0) h, cell_of_row W b 2 _ _ (0, 0) h, cell_of_row W b 3 _ _ (0, 0) h, cell_of_row W b 4 _ _ (0, 0) h, cell_of_row W b 5 _ _ (0, 0) h, cell_of_row W b 6 _ _ (0, 0) h, cell_of_row W b 7 _ _ (0, 0) h, cell_of_row W b 8 _ _ (0, 0) h⟩
abbrev wiped (W : World) (t : Nat) : World := (((((((((W.setCell ⟨t, 0, none⟩ (.string ⟨#[]⟩)).setCell ⟨t, 1, none⟩ (.int .i64 0)).setCell ⟨t, 2, none⟩ (.int .i64 0)).setCell ⟨t, 3, none⟩ (.int .i64 0)).setCell ⟨t, 4, none⟩ (.string ⟨#[]⟩)).setCell ⟨t, 5, none⟩ (.string ⟨#[]⟩)).setCell ⟨t, 6, none⟩ (.int .i64 0)).setCell ⟨t, 7, none⟩ (.string ⟨#[]⟩)).setCell ⟨t, 8, none⟩ (.bool true))
theorem wiped_keep (W : World) (t : Nat) : Keep (fun b => b = t) W (wiped W t) ∧ (wiped W t).heap.size = W.heap.size := by
  have key : ∀ {W' : World} (o : Nat) (u : Value), Keep (fun b => b = t) W W' → Keep (fun b => b = t) W (W'.setCell ⟨t, o, none⟩ u) := fun o u h => h.setCell (p := ⟨t, o, none⟩) (fun _ => rfl) u
  refine ⟨key _ _ (key _ _ (key _ _ (key _ _ (key _ _ (key _ _ (key _ _ (key _ _ (key _ _ (Keep.refl _ _))))))))), ?_⟩
  simp [World.setCell]
set_option maxRecDepth 100000 in
set_option maxHeartbeats 8000000 in
theorem jerases_any (w : World) (pr : Int) (A : Option Addr) (n c : Nat) (ds : List Ev) (h : Evs w w.heap.size A n c ds) (hn : n ≤ 140737488355328) (p : List UInt8) (_hp : p.length ≤ 140737488355328) (hmx : MaxAt w) :
    Calls Tryz.prog 6 #[.int .i64 pr, .slice A n c, .string ⟨p.toArray⟩] w (Says true w) := by
  have hb00 : RowKit.Below w.heap.size w (w.alloc (.cells #[.string ⟨p.toArray⟩] 9)) := (Below.refl _ _).alloc (Nat.le_refl _) _
  have HB00 := Lib.hid hb00
  have hp0 : (w.alloc (.cells #[.string ⟨p.toArray⟩] 9)).heap[w.heap.size]? = some (.cells #[.string ⟨p.toArray⟩] 9) := heap_alloc_new w _
  have HP0 := Lib.hid hp0
  have HH := Lib.hid h; clear h
  have HMX := Lib.hid hmx; clear hmx
  have hs0 : (w.alloc (.cells #[.string ⟨p.toArray⟩] 9)).heap.size = w.heap.size + 1 := by simp
  go_enter Tryz.func6, Tryz.ntmps6
  obtain ⟨w0, hw0⟩ : ∃ w0, w0 = w.alloc (.cells #[.string ⟨p.toArray⟩] 9) := ⟨_, rfl⟩
  rw [← hw0] at HB00 HP0 hs0
  go_upto_region 1 with fail
  rw [← hw0]
  clear hw0 hb00 hp0
  have hb00 := HB00.out
  go_wp2_with fail
  refine (jlives_any w0 (HMX.out.up hb00)).mono ?_
  rintro r w1 ⟨rfl, hb1⟩
  have hbw1 : RowKit.Below w0.heap.size w0 w1 := hb1
  have hs1 := hb1.size
  have HW0 := Lib.hid (show ∀ W, RowKit.Below w0.heap.size w0 W → Says true w (.returned (.bool true)) W from fun W hW => ⟨rfl, HB00.out.trans (hW.mono HB00.out.size)⟩)
  by_cases h1 : pr < 1
  · have HR := Lib.hid (HW0.out w1 hbw1)
    go_wp2
    go_ret
    exact HR.out
  by_cases h2 : 8 < pr
  · have HR := Lib.hid (HW0.out w1 hbw1)
    go_wp2
    go_ret
    exact HR.out
  by_cases h3 : (60 : Int) < n
  · have HR := Lib.hid (HW0.out w1 hbw1)
    go_wp2
    go_ret
    exact HR.out
  have HEV := Lib.hid (show ∀ W, RowKit.Below w0.heap.size w0 W → Evs W W.heap.size A n c ds from fun W hW => by
    have h1 := HB00.out.trans (hW.mono HB00.out.size)
    exact Cel.more (Cel.below HH.out h1) h1.size)
  have hq1 : ¬ 60 < n := by omega
  have hH1 := HEV.out w1 hbw1
  go_wp2_with fail
  refine (some_any w1 A n c ds hH1 hn 300).mono ?_
  rintro r w2 ⟨rfl, hb2⟩
  have hbw2 : RowKit.Below w0.heap.size w0 w2 := hbw1.trans (hb2.mono hs1)
  clear hb2 hb1 hH1 hbw1
  cases hsm : ds.any (fun d => bigB d 300)
  case true =>
    have HR := Lib.hid (HW0.out w2 hbw2)
    clear hsm
    go_wp2
    go_ret
    exact HR.out
  have HSM := Lib.hid (some_small hsm)
  clear hsm
  have hH2 := HEV.out w2 hbw2
  go_wp2_with fail
  refine (all02_any w2 A n c ds hH2 hn HSM.out).mono ?_
  rintro r w3 ⟨rfl, hb3⟩
  have hbw3 : RowKit.Below w0.heap.size w0 w3 := hbw2.trans (hb3.mono hbw2.size)
  clear hb3 hbw2 hH2
  cases hal : ds.all mayB
  case false =>
    have HR := Lib.hid (HW0.out w3 hbw3)
    clear hal
    go_wp2
    go_ret
    exact HR.out
  have HAL := Lib.hid hal
  clear hal
  obtain ⟨per, rfl⟩ := Int.eq_ofNat_of_zero_le (show 0 ≤ pr by omega)
  have HB3 := Lib.hid hbw3
  have hl := HH.out.len
  have HL := Lib.hid hl
  have hs3 := hbw3.size
  clear hbw3 hl
  go_wp2_with fail
  refine (dknew_any w3).mono ?_
  rintro r w4 ⟨bd, G4, rfl, hd4, hG4, hb4⟩
  have HD4 := Lib.hid hd4; have HG4 := Lib.hid hG4
  have HB4 := Lib.hid (show RowKit.Below w0.heap.size w0 w4 from HB3.out.trans (hb4.mono hs3))
  have hs4 := hb4.size
  clear hd4 hG4 hb4
  go_wp2_with fail
  refine (jlopen0_any w4 G4 bd Dk.new HD4.out rfl rfl [106] (by decide) per (by omega) (by omega)).mono ?_
  rintro r w5 ⟨bj, G5, F5, rfl, hj5, hG5, hF5, hk5⟩
  have HJ5 := Lib.hid hj5
  have HLO5 := Lib.hid (show ∀ b, G5 b ∨ F5 b → w3.heap.size ≤ b from fun b hb => by
    rcases hb with hb | hb
    · rcases hG5 b hb with h | h
      · exact HG4.out b h
      · omega
    · have := hF5 b hb; omega)
  have HB5 := Lib.hid (show RowKit.Below w3.heap.size w3 w5 → RowKit.Below w0.heap.size w0 w5 from fun h => HB3.out.trans (h.mono hs3))
  have hk5' : RowKit.Below w0.heap.size w0 w5 := HB4.out.trans (hk5.below (by omega) (fun k hk hg => by have := HG4.out k hg; omega))
  have HB5 := Lib.hid hk5'
  have hs5 := hk5.size
  obtain ⟨j0, hj0⟩ : ∃ j0, j0 = Jl.new Dk.new [106] per := ⟨_, rfl⟩
  rw [← hj0] at HJ5
  have HG0 := Lib.hid (show j0.Good from by rw [hj0]; exact Jl.good_new [106] per (by simp) (by omega))
  have he0 : j0.es = [] := by rw [hj0]; rfl
  have hn0 : j0.name = [106] := by rw [hj0]; rfl
  have hp0 : j0.per = per := by rw [hj0]; rfl
  have HA := Lib.hid (HG0.out.app (l := ds) (by rw [he0, HL.out]; simp; omega) HAL.out)
  have hsw0 := HB00.out.size
  have HAPP := Lib.hid (jlapp_any w5 G5 F5 bj bd j0 HJ5.out A n c ds (HEV.out w5 HB5.out) (fun b off e h0 hg => by
    obtain ⟨b', off', e', hb', _⟩ := Cel.cell HH.out h0
    rw [e'] at e; injection e with e; injection e with e
    have := HLO5.out b hg; omega) HSM.out (by rw [he0, HL.out]; simp; omega) (HMX.out.up (HB00.out.trans (HB5.out.mono HB00.out.size))) ⟨fun hg => by have := HLO5.out _ (.inl hg); have := HMX.out.lt; omega, fun hg => by have := HLO5.out _ (.inr hg); have := HMX.out.lt; omega⟩)
  obtain ⟨j1, hj1⟩ : ∃ j1, j1 = j0.app ds := ⟨_, rfl⟩
  rw [← hj1] at HAPP HA
  have he1 : j1.es = ds.map some := by have := HA.out.2.2.2.1; rw [he0] at this; simpa using this
  have hn1 : j1.name = [106] := by rw [HA.out.2.2.2.2.1, hn0]
  have hp1 : j1.per = per := by rw [HA.out.2.2.2.2.2.1, hp0]
  clear hj5 hG5 hF5 hk5 hk5' hj0 he0 hn0 hp0
  go_wp2_with fail
  refine HAPP.out.mono ?_
  rintro r w6 ⟨rfl, G6, F6, hj6, hG6, hF6, hk6⟩
  have HJ6 := Lib.hid hj6
  have HLO6 := Lib.hid (show ∀ b, G6 b ∨ F6 b → w3.heap.size ≤ b from fun b hb => by
    rcases hb with hb | hb
    · rcases hG6 b hb with h | h
      · exact HLO5.out b (.inl h)
      · omega
    · rcases hF6 b hb with h | h
      · exact HLO5.out b (.inr h)
      · omega)
  have HB6 := Lib.hid (show RowKit.Below w0.heap.size w0 w6 from HB5.out.trans (hk6.below (by omega) (fun k hk hg => by have := HLO5.out k hg; omega)))
  have hs6 := hk6.size
  have HPI := Lib.hid (show PerI w.heap.size p [] (fun b => b = w.heap.size) w6 from ⟨(cell_of_row w6 w.heap.size 0 _ _ (0, 0) ((HB6.out.block _ (by omega)).trans HP0.out)).trans rfl, fun b => Iff.rfl⟩)
  have HRW := Lib.hid (jlrewr_any (per_erases_asker w.heap.size p) HJ6.out HPI.out (fun b hb hg => by have := HLO6.out b hg; omega) (by rw [he1, List.length_map, HL.out]; omega) (by simp) (HMX.out.up (HB00.out.trans (HB6.out.mono HB00.out.size))) (fun hg => by
    have hm := HMX.out.lt
    rcases hg with hg | hg | hg
    · have := HLO6.out _ (.inl hg); omega
    · have := HLO6.out _ (.inr hg); omega
    · omega))
  obtain ⟨j2, hrw, hg2, he2, hn2, hp2, _⟩ := HA.out.1.rewr (by rw [he1, List.length_map, HL.out]; omega) (stayP p)
  rw [hrw] at HRW
  have HG2 := Lib.hid hg2
  rw [he1] at he2
  rw [hn1] at hn2
  rw [hp1] at hp2
  clear hj6 hG6 hF6 hk6 hg2 hrw HAPP he1 hn1 hp1 hj1
  go_wp2_with fail
  refine HRW.out.mono ?_
  rintro r w7 ⟨rfl, G7, F7, H7, aq7, hj7, hi7, _, _, hG7, hF7, hH7, hk7⟩
  have HJ7 := Lib.hid hj7
  have HLO7 := Lib.hid (show ∀ b, G7 b → w3.heap.size ≤ b from fun b hb => by
    rcases hG7 b hb with h | h
    · exact HLO6.out b (.inl h)
    · omega)
  have HC7 := Lib.hid hi7.cell
  have HB7 := Lib.hid (show RowKit.Below w.heap.size w w7 from (HB00.out.trans (HB6.out.mono HB00.out.size)).trans (hk7.below (by omega) (fun k hk hg => by
    rcases hg with hg | hg | hg
    · have := HLO6.out k (.inl hg); omega
    · have := HLO6.out k (.inr hg); omega
    · omega)))
  have hs7 := hk7.size
  have HE2 := Lib.hid he2
  clear hj7 hG7 hF7 hH7 hk7 hi7 HRW he2
  have HHX := HH.out
  clear HHX
  -- the document's row
  have hb78 : RowKit.Below w7.heap.size w7 (w7.alloc (stObj none 0 0 0)) := (Below.refl _ _).alloc (Nat.le_refl _) _
  have HB78 := Lib.hid hb78
  have HT8 := Lib.hid (heap_alloc_new w7 (stObj none 0 0 0))
  have HS8 := Lib.hid (show (w7.alloc (stObj none 0 0 0)).heap.size = w7.heap.size + 1 by simp)
  go_upto_region 10 with fail
  obtain ⟨w8, hw8⟩ : ∃ w8, w8 = w7.alloc (stObj none 0 0 0) := ⟨_, rfl⟩
  rw [← hw8] at HB78 HT8 HS8 ⊢
  obtain ⟨b10, hb10⟩ : ∃ b10, b10 = w7.heap.size := ⟨_, rfl⟩
  rw [← hb10] at HT8 HS8 ⊢
  have HBT := Lib.hid hb10
  clear hw8 hb78 hb10
  have HB8 := Lib.hid (show RowKit.Below w.heap.size w w8 from HB7.out.trans (HB78.out.mono HB7.out.size))
  have HJ8 := Lib.hid (HJ7.out.up HB78.out)
  have hsz8 := HS8.out
  have hs78 := HB7.out.size
  have hbt : w.heap.size < b10 := by have := HBT.out; omega
  have hbt2 : b10 < w8.heap.size := by have := HBT.out; omega
  have HST := Lib.hid (show ElRel w8 b10 (stayP p) ds (.int .i64 0) w8 from ⟨0, 0, none, rfl, Nat.zero_le _, HT8.out, World.ownsRow_nil _ _ _ _, Keep.refl _ _⟩)
  have hln := HL.out
  have HEV8 := Lib.hid (show ∀ W, Keep (fun b => b = b10) w8 W → RowKit.Below w.heap.size w W from fun W hW => HB8.out.trans (hW.below (by omega) (fun k hk e => by omega)))
  obtain ⟨j0i, hi, hz0, hz1, hz2⟩ := info_parts rent_info
  have KI := Lib.hid hi; have KZ0 := Lib.hid hz0; have KZ1 := Lib.hid hz1; have KZ2 := Lib.hid hz2
  clear hi hz0 hz1 hz2 hs78 HPI hsz8
  go_wp2
  go_loopw [11, 12] (fun i _ W => ElRel w8 b10 (stayP p) ds i W) (fun i _ _ => n - (intOf i).toNat)
  case atStart => exact HST.out
  case round =>
    obtain ⟨k, cm, Am, rfl, hk, hbx, hor, hkp⟩ := hrel
    have HBX := Lib.hid hbx; have HOR := Lib.hid hor; have HKP := Lib.hid hkp
    have hsr := hkp.size
    have hbw := HEV8.out wr hkp
    by_cases hkn : k < n
    · have hkl : k < ds.length := by omega
      have t1 : (k : Int) < n := by omega
      obtain ⟨b', off, hA, hbb, hd⟩ := (show Evs wr wr.heap.size A n c ds from Cel.more (Cel.below HH.out hbw) hbw.size).ev k hkl
      subst hA
      obtain ⟨e0, e1, e2, e3, e4, e5, e6, e7⟩ := hd
      have HTK := Lib.hid (show ((ds.take (k + 1)).map some).map (erE (stayP p)) = ((ds.take k).map some).map (erE (stayP p)) ++ [erE (stayP p) (some ds[k])] by
        rw [List.take_add_one, List.getElem?_eq_getElem hkl, Option.toList_some, List.map_append, List.map_append]; rfl)
      have hL : (((ds.take k).map some).map (erE (stayP p))).length = k := by rw [List.length_map, List.length_map, List.length_take]; omega
      generalize hxk : ds[k] = x at *
      generalize ((ds.take k).map some).map (erE (stayP p)) = L at *
      have HD5 := Lib.hid (heap_alloc_new wr (rentObj (some x)))
      have HS5 := Lib.hid (show (wr.alloc (rentObj (some x))).heap.size = wr.heap.size + 1 by simp)
      have hb5 : RowKit.Below wr.heap.size wr (wr.alloc (rentObj (some x))) := (Below.refl _ _).alloc (Nat.le_refl _) _
      have HB5 := Lib.hid hb5
      have hbpl : w.heap.size < w8.heap.size := by omega
      have cp : wr.cell? ⟨w.heap.size, 0, none⟩ = some (.string ⟨p.toArray⟩) := (hkp.cell (p := ⟨w.heap.size, 0, none⟩) hbpl (by show ¬ w.heap.size = b10; omega)).trans ((HB78.out.cell (p := ⟨w.heap.size, 0, none⟩) (by show w.heap.size < w7.heap.size; omega)).trans HC7.out)
      have g4 : (wr.alloc (rentObj (some x))).cell? ⟨b', off + k * 8 + 4, none⟩ = some (.string ⟨x.per.toArray⟩) := (hb5.cell (p := ⟨b', off + k * 8 + 4, none⟩) hbb).trans e4
      have gp : (wr.alloc (rentObj (some x))).cell? ⟨w.heap.size, 0, none⟩ = some (.string ⟨p.toArray⟩) := (hb5.cell (p := ⟨w.heap.size, 0, none⟩) (by show w.heap.size < wr.heap.size; omega)).trans cp
      clear hb5 hxk hbx hor
      go_upto_region 14 with fail
      obtain ⟨w9, hw9⟩ : ∃ w9, w9 = wr.alloc (.cells #[.string ⟨x.src.toArray⟩, .int .i64 x.num, .int .i64 x.at_, .int .i64 x.kind, .string ⟨x.per.toArray⟩, .string ⟨x.item.toArray⟩, .int .i64 x.val, .string ⟨x.text.toArray⟩, .bool false] 72) := ⟨_, rfl⟩
      have HD5 := Lib.hid (show w9.heap[wr.heap.size]? = some (rentObj (some x)) from by rw [hw9]; exact HD5.out)
      have HS5 := Lib.hid (show w9.heap.size = wr.heap.size + 1 from by rw [hw9]; exact HS5.out)
      have HB5 := Lib.hid (show RowKit.Below wr.heap.size wr w9 from by rw [hw9]; exact HB5.out)
      have g4 : w9.cell? ⟨b', off + k * 8 + 4, none⟩ = some (.string ⟨x.per.toArray⟩) := by rw [hw9]; exact g4
      have gp : w9.cell? ⟨w.heap.size, 0, none⟩ = some (.string ⟨p.toArray⟩) := by rw [hw9]; exact gp
      rw [← hw9]
      clear hw9
      have HBX9 := Lib.hid (show w9.heap[b10]? = some (stObj Am k cm 0) from (HB5.out.block b10 (by omega)).trans HBX.out)
      have HOR9 := Lib.hid (show OwnR w9 w8.heap.size (.slice Am k cm) L from HOR.out.keepB fun b hb => HB5.out.block b (World.ownsRow.lt HOR.out b hb).2)
      have HKP9 := Lib.hid (show Keep (fun b => b = b10) w8 w9 from HKP.out.trans (Keep.of_below (F := fun _ => False) HB5.out) (fun _ _ h => h.elim))
      have HNR := Lib.hid (show ∀ b, (Value.slice Am k cm).ownBlock = some b → b ≠ wr.heap.size ∧ b ≠ b10 from fun b hb => ⟨by have := (World.ownsRow.lt HOR.out b hb).2; omega, by have := (World.ownsRow.lt HOR.out b hb).1; omega⟩)
      clear e0 e1 e2 e3 e4 e5 e6 e7 cp
      -- what the box holds behind the test
      go_region_held3 (fun W => W.cell? ⟨b', off + k * 8 + 4, none⟩ = some (.string ⟨x.per.toArray⟩) ∧ W.cell? ⟨w.heap.size, 0, none⟩ = some (.string ⟨p.toArray⟩)) (first | assumption | go_keep) (fail)
      go_upto_if 71 with fail
      go_cut [] (fun wc => wc.heap[wr.heap.size]? = some (rentObj (erE (stayP p) (some x))) ∧ wc.heap[b10]? = some (stObj Am k cm 0) ∧ OwnR wc w8.heap.size (.slice Am k cm) L ∧ Keep (fun b => b = b10) w8 wc ∧ wc.heap.size = wr.heap.size + 1)
      case first =>
        have HKB := Lib.hid (show stayP p x = !(x.per == p) from rfl)
        cases hpe : x.per == p
        · have HK1 := Lib.hid (show erE (stayP p) (some x) = some x by simp [erE, HKB.out, hpe])
          go_wp2
          go_meet
          refine ⟨by rw [HK1.out]; exact HD5.out, HBX9.out, HOR9.out, ?_, HS5.out⟩
          first | exact HKP9.out | exact HKP9.out.drewN 1
        · have HK1 := Lib.hid (show erE (stayP p) (some x) = none by simp [erE, HKB.out, hpe])
          go_upto_region 15 with fail
          obtain ⟨wz, hwz⟩ : ∃ wz, wz = w9.drew := ⟨_, rfl⟩
          have hzT : wz.heap[wr.heap.size]? = some (rentObj (some x)) := by rw [hwz]; exact HD5.out
          have hzk : ∀ b : Nat, wz.heap[b]? = w9.heap[b]? := fun b => by rw [hwz]; rfl
          have hzs : wz.heap.size = w9.heap.size := by rw [hwz]; rfl
          have hzK : Keep (fun b => b = b10) w8 wz := by rw [hwz]; exact HKP9.out.drewN 1
          rw [← hwz]
          have HZ := Lib.hid (show (wiped wz wr.heap.size).heap[wr.heap.size]? = some (rentObj (erE (stayP p) (some x))) ∧ (wiped wz wr.heap.size).heap[b10]? = some (stObj Am k cm 0) ∧ OwnR (wiped wz wr.heap.size) w8.heap.size (.slice Am k cm) L ∧ Keep (fun b => b = b10) w8 (wiped wz wr.heap.size) ∧ (wiped wz wr.heap.size).heap.size = wr.heap.size + 1 from by
            obtain ⟨h1, h2⟩ := wiped_keep wz wr.heap.size
            have hb : ∀ b, b < wr.heap.size → (wiped wz wr.heap.size).heap[b]? = w9.heap[b]? := fun b hb => (h1.block b (by rw [hzs, HS5.out]; omega) (by omega)).trans (hzk b)
            refine ⟨by rw [HK1.out]; exact rent_wipe hzT, (hb b10 (by omega)).trans HBX9.out, HOR9.out.keepB fun b hb' => hb b (World.ownsRow.lt HOR.out b hb').2, hzK.trans h1 (fun b hb e => by omega), by rw [h2, hzs, HS5.out]⟩)
          have y0 := frozen_of_row wz wr.heap.size 0 _ _ hzT
          have y1 := frozen_of_row wz wr.heap.size 1 _ _ hzT
          have y2 := frozen_of_row wz wr.heap.size 2 _ _ hzT
          have y3 := frozen_of_row wz wr.heap.size 3 _ _ hzT
          have y4 := frozen_of_row wz wr.heap.size 4 _ _ hzT
          have y5 := frozen_of_row wz wr.heap.size 5 _ _ hzT
          have y6 := frozen_of_row wz wr.heap.size 6 _ _ hzT
          have y7 := frozen_of_row wz wr.heap.size 7 _ _ hzT
          have y8 := frozen_of_row wz wr.heap.size 8 _ _ hzT
          have q0 : wz.cell? ⟨wr.heap.size, 0, none⟩ = some (.string ⟨x.src.toArray⟩) := cell_of_row wz _ 0 _ _ (0, 0) hzT
          have q1 : wz.cell? ⟨wr.heap.size, 1, none⟩ = some (.int .i64 x.num) := cell_of_row wz _ 1 _ _ (0, 0) hzT
          have q2 : wz.cell? ⟨wr.heap.size, 2, none⟩ = some (.int .i64 x.at_) := cell_of_row wz _ 2 _ _ (0, 0) hzT
          have q3 : wz.cell? ⟨wr.heap.size, 3, none⟩ = some (.int .i64 x.kind) := cell_of_row wz _ 3 _ _ (0, 0) hzT
          have q4 : wz.cell? ⟨wr.heap.size, 4, none⟩ = some (.string ⟨x.per.toArray⟩) := cell_of_row wz _ 4 _ _ (0, 0) hzT
          have q5 : wz.cell? ⟨wr.heap.size, 5, none⟩ = some (.string ⟨x.item.toArray⟩) := cell_of_row wz _ 5 _ _ (0, 0) hzT
          have q6 : wz.cell? ⟨wr.heap.size, 6, none⟩ = some (.int .i64 x.val) := cell_of_row wz _ 6 _ _ (0, 0) hzT
          have q7 : wz.cell? ⟨wr.heap.size, 7, none⟩ = some (.string ⟨x.text.toArray⟩) := cell_of_row wz _ 7 _ _ (0, 0) hzT
          have q8 : wz.cell? ⟨wr.heap.size, 8, none⟩ = some (.bool false) := cell_of_row wz _ 8 _ _ (0, 0) hzT
          clear hwz hzT hzk hzs hzK
          go_wp2
          go_meet
          exact HZ.out
      case rest =>
        obtain ⟨hcx, hcb, hcr, hck, hcs⟩ := hcut
        have HCR := Lib.hid hcr; have HCK := Lib.hid hck; have HCB := Lib.hid hcb; have HCS := Lib.hid hcs
        have hcs' : wr.heap.size < wc.heap.size := by omega
        obtain ⟨y, hy⟩ : ∃ y, y = erE (stayP p) (some x) := ⟨_, rfl⟩
        rw [← hy] at hcx HTK
        obtain ⟨f0, f1, f2, f3, f4, f5, f6, f7, f8⟩ := EntIn.of_heap' hcx
        have m0 : wc.cell? ⟨b10, 0, none⟩ = some (.slice Am k cm) := (cell_of_row wc b10 0 _ _ (0, 0) hcb).trans rfl
        clear hcx hcb hcr hck g4 gp hy hcs
        go_wp2_with (at_builtin; refine wpList_app (P := Tryz.prog) rfl (.tmp 74) (.tmp 76) 47 rfl 72 j0i _ 9 104 Tryz.underlying47 KI.out KZ0.out KZ1.out KZ2.out rfl (by decide) w8.heap.size _ k (entCells L) rfl ?c1 (wc.heap.size + 1) _ _ _ (entC y) rfl ?c2 (entC_one y) ?c4 ?c5 ?c6 ?_)
        case c1 => (have := HCR.out; unfold OwnR at this; rw [hL] at this; exact World.ownsRow.alloc this _)
        case c2 =>
          have := Cel.new (size := 9) (n := 1) wc #[.string ⟨(entE y).src.toArray⟩, .int .i64 (entE y).num, .int .i64 (entE y).at_, .int .i64 (entE y).kind, .string ⟨(entE y).per.toArray⟩, .string ⟨(entE y).item.toArray⟩, .int .i64 (entE y).val, .string ⟨(entE y).text.toArray⟩, .bool y.isNone] 72 (by unfold maxLen; omega) rfl
          rw [entC_eq]; exact this
        case c4 => unfold maxLen; omega
        case c5 => omega
        case c6 => simp; omega
        intro v9 w10 ho9 hg9 hv9
        obtain ⟨A9, c9, hvf⟩ := ownsRow_form ho9
        subst hvf
        have HO9 := Lib.hid ho9
        have hnb : b10 < wc.heap.size := by omega
        have hb10 : w10.heap[b10]? = some (stObj Am k cm 0) := (hg9.block b10 (by simp; omega) (fun e => (HNR.out b10 e.symm).2 rfl)).trans ((heap_alloc_old _ _ hnb).trans HCB.out)
        have HRL := Lib.hid (show ElRel w8 b10 (stayP p) ds (.int .i64 ((k : Int) + 1)) (w10.setCell ⟨b10, 0, none⟩ (.slice A9 (k + 1) c9)) from by
          refine ⟨k + 1, c9, A9, rfl, by omega, by rw [heap_set_row hb10]; rfl, ?_, ?_⟩
          · rw [HTK.out]
            have h1 : OwnR w10 w8.heap.size (.slice A9 (k + 1) c9) (L ++ [y]) := by
              unfold OwnR; rw [entCells_one, List.length_append, hL]; exact HO9.out
            exact h1.keepB fun b hb => Below.heap_setCell _ _ _ _ (fun e => by
              have e' : b = b10 := e
              have := (World.ownsRow.lt h1 b hb).1
              omega)
          · exact ((HCK.out.alloc _).trans (Keep.of_grown (F := fun b => w8.heap.size ≤ b) hg9 (fun b e => (World.ownsRow.lt HOR.out b e).1)) (fun b hb e => by omega)).setCell (p := ⟨b10, 0, none⟩) (fun _ => rfl) _)
        have m1 : w10.cell? ⟨b10, 0, none⟩ = some (.slice Am k cm) := (cell_of_row w10 b10 0 _ _ (0, 0) hb10).trans rfl
        have m1f : w10.frozen? ⟨b10, 0, none⟩ = false := frozen_of_row w10 b10 0 _ _ hb10
        clear ho9 hg9 hv9 hb10 m0 f0 f1 f2 f3 f4 f5 f6 f7 f8
        go_wp2
        go_roundw
        case rel => exact HRL.out
        case measure => simp [intOf]; omega
    · obtain rfl : k = n := by omega
      have t1 : ¬ (k : Int) < k := by omega
      have hte : ((ds.take k).map some).map (erE (stayP p)) = j2.es := by rw [HE2.out, List.take_of_length_le (by rw [hln]; exact Nat.le_refl _)]
      rw [hte] at hor HOR
      have hG8 : ∀ b, G7 b → b < b10 := fun b hb => by have := HJ7.out.lt b (.inl hb); have := HBT.out; omega
      have HDK := Lib.hid (show DkIn wr G7 bd j2.dk from HJ8.out.dk.keep hkp.size fun b hb => hkp.block b (by have := hG8 b hb; omega) (by have := hG8 b hb; omega))
      have HBX0 := Lib.hid (show BxS w b10 Am k cm j2.es 0 G7 wr from ⟨hbw, HBX.out, by
        refine ⟨HOR.out.1, ?_⟩
        rcases HOR.out.2 with ⟨e, hl⟩ | ⟨g, cap, cur, e, hb', hg, hr⟩
        · exact .inl ⟨e, hl⟩
        · exact .inr ⟨g, cap, cur, e, Nat.zero_le _, hg, hr⟩, fun hg => by have := hG8 _ hg; omega, fun b hb hg => by have := (World.ownsRow.lt HOR.out b hb).1; have := hG8 b hg; omega, fun b hb => by have := HLO7.out b hb; omega, by omega⟩)
      have hl2 : j2.es.length = k := by rw [HE2.out, List.length_map, List.length_map, hln]
      have HL2 := Lib.hid hl2
      have HOP := Lib.hid (show Calls Tryz.prog 18 #[.pointer (some ⟨bd, 0, none⟩), .string ⟨#[106]⟩, .int .i64 (per : Int)] wr (OpenPost wr G7 bd j2.again) from by
        have := jlopen_any wr G7 bd j2.dk HDK.out [106] (by decide) per j2.files j2.es [] (by have := HG2.out.opIn (by rw [HL2.out]; omega) (by rw [hp2]; omega); rw [hn2, hp2] at this; exact this) (HMX.out.up HBX0.out.kp) (fun hg => by have := HBX0.out.lo _ hg; have := HMX.out.lt; omega)
        have e : j2.again = Jl.opened j2.dk [106] per j2.files j2.es [] := by unfold Jl.again; rw [hn2, hp2]
        rw [e]; exact this)
      have HG3 := Lib.hid (HG2.out.again (by rw [HL2.out]; omega) (by rw [hp2]; omega))
      clear hbx hor hl2 hte hG8
      go_wp2_with fail
      refine HOP.out.mono ?_
      rintro r w11 ⟨bj2, G11, F11, rfl, hj11, hG11, hF11, hk11⟩
      have HBX1 := Lib.hid (HBX0.out.next hk11 hG11)
      have HJ11 := Lib.hid hj11
      obtain ⟨c0, c1, c1f⟩ := HBX1.out.cells
      have HBX2 := Lib.hid (HBX1.out.set (k : Int))
      have hne6 : ¬ (G11 b10 ∨ F11 b10) := fun hb => hb.elim HBX1.out.n7 (fun hf => by have := hF11 b10 hf; omega)
      have HJ12 := Lib.hid (show JlIn (w11.setCell ⟨b10, 1, none⟩ (.int .i64 (k : Int))) G11 F11 bj2 bd j2.again from hj11.keep (by simp [World.setCell]) (fun b hb => Below.heap_setCell _ _ _ _ (fun e => hne6 (by have e' : b = b10 := e; rw [← e']; exact hb))))
      obtain ⟨j3, hj3⟩ : ∃ j3, j3 = j2.again := ⟨_, rfl⟩
      have hj3e : j3.es = j2.es := by rw [hj3]; rfl
      have hj3l : j3.lasts = j2.es.length := by rw [hj3]; rfl
      have hj3n : j3.name = [106] := by rw [hj3, ← hn2]; rfl
      have hj3p : j3.per = per := by rw [hj3, ← hp2]; rfl
      rw [← hj3] at HJ12 HG3
      have HJE := Lib.hid hj3e; have HJL := Lib.hid hj3l
      clear hj11 hG11 hF11 hk11 hne6 HOP hj3
      go_upto_region 19 with fail
      obtain ⟨w12, hw12⟩ : ∃ w12, w12 = w11.setCell ⟨b10, 1, none⟩ (.int .i64 (k : Int)) := ⟨_, rfl⟩
      rw [← hw12] at HBX2 HJ12 ⊢
      clear hw12 c0 c1 c1f
      obtain ⟨c0, c1, c1f⟩ := HBX2.out.cells
      have HEV := Lib.hid (bx_even HBX2.out HJ12.out HJE.out (by rw [HJL.out, HL2.out]))
      go_wp2_with fail
      refine HEV.out.mono ?_
      rintro r w13 ⟨rfl, hb13⟩
      have HBX3 := Lib.hid (HBX2.out.below hb13)
      have HJ13 := Lib.hid (HJ12.out.up hb13)
      clear c0 c1 c1f hb13 HEV
      obtain ⟨m, hm⟩ : ∃ m, m = nseg k per := ⟨_, rfl⟩
      have hm60 : m ≤ 60 := by rw [hm]; have := nseg_few (n := k) (show 1 ≤ per by omega); omega
      have HM := Lib.hid hm
      have HFI := Lib.hid (show ∀ q, q < m → j3.dk.read (segF [106] q) = bytesL (segL per q j2.es) ∧ j3.dk.found (segF [106] q) = 0 from fun q hq => by
        obtain ⟨a1, a2⟩ := HG3.out.data (by rw [HJE.out, HL2.out]; omega) (k := q) (by rw [hj3p, HJE.out, HL2.out, ← HM.out]; exact hq)
        rw [hj3n] at a1 a2
        rw [hj3p, HJE.out] at a2
        exact ⟨by unfold Dk.read; rw [if_pos a1, a2], a1⟩)
      have HRD := Lib.hid (show ∀ W q, RowKit.Below w13.heap.size w13 W → q < m → Calls Tryz.prog 24 #[.pointer (some ⟨bd, 0, none⟩), .string ⟨(segF [106] q).toArray⟩] W (RdPost W (bytesL (segL per q j2.es)) 0) from fun W q hW hq => by
        have := dkread_any W G11 bd j3.dk (HJ13.out.up hW).dk (segF [106] q) (by have := (segF_len [106] (k := q) (by omega)).2; simp at this ⊢; omega)
        rw [(HFI.out q hq).1, (HFI.out q hq).2] at this
        exact this)
      have HMY := Lib.hid (show ∀ e, some e ∈ j2.es → mayB e = true from HG2.out.sm)
      have HBC := Lib.hid (show ∀ W, RowKit.Below w13.heap.size w13 W → W.cell? ⟨b10, 0, none⟩ = some (.slice Am k cm) ∧ Ents W W.heap.size Am k cm j2.es ∧ RowKit.Below w.heap.size w W from fun W hW => by
        have := HBX3.out.below hW
        exact ⟨this.cells.1, this.ents, this.kp⟩)
      have HST0 := Lib.hid (show PlRel w13 m (.int .i64 0) w13 from ⟨0, rfl, Nat.zero_le _, Below.refl _ _⟩)
      have hs13 := HBX3.out.kp.size
      clear hm
      go_wp2
      go_loopw [15, 16, 17] (fun i _ _ W => PlRel w13 m i W) (fun i _ _ _ => m - (intOf i).toNat)
      case atStart => exact HST0.out
      case round =>
        obtain ⟨q, rfl, hq, hbr⟩ := hrel
        have HBR := Lib.hid hbr
        have hsr2 := hbr.size
        clear hbr
        go_wp2_with fail
        refine (rsegs_any _ k per (by omega) (by omega) (by omega)).mono ?_
        rintro r w14 ⟨rfl, rfl⟩
        rw [← HM.out]
        by_cases hqm : q < m
        · have t2 : (q : Int) < m := by omega
          go_wp2_with fail
          refine (rfile_any _ [106] q (by simp) (by omega)).mono ?_
          rintro r w15 ⟨rfl, hb15⟩
          have HB15 := Lib.hid (show RowKit.Below w13.heap.size w13 w15 from HBR.out.trans (hb15.mono hsr2))
          clear hb15
          go_wp2_with fail
          refine (HRD.out w15 q HB15.out hqm).mono ?_
          rintro r w16 ⟨v8, rfl, ho8, hb16⟩
          obtain ⟨A8, c8, hv8⟩ := ho8.form
          subst hv8
          have HB16 := Lib.hid (show RowKit.Below w13.heap.size w13 w16 from HB15.out.trans (hb16.mono HB15.out.size))
          have HBY := Lib.hid ho8.byt
          have hkz : q * per ≤ k := by
            have h1 : (q + 1) * per ≤ m * per := Nat.mul_le_mul_right _ (by omega)
            have h2 := nseg_lt (n := k) (per := per)
            rw [← HM.out] at h2
            rw [Nat.succ_mul] at h1; omega
          have HCX := Lib.hid (show ∀ W, RowKit.Below w16.heap.size w16 W → W.cell? ⟨b10, 0, none⟩ = some (.slice Am k cm) ∧ (convert 41 9 (.slice A8 (bytesL (segL per q j2.es)).length c8)).run Tryz.prog W = .ok (.string ⟨(bytesL (segL per q j2.es)).toArray⟩) W from fun W hW =>
            ⟨(HBC.out W (HB16.out.trans (hW.mono HB16.out.size))).1, (HBY.out.below hW).str (P := Tryz.prog) 41 5 9 Tryz.underlying41 Tryz.underlying5 Tryz.underlying9⟩)
          have HSEG := Lib.hid (show Calls Tryz.prog 42 #[.slice Am k cm, .int .i64 (per : Int), .int .i64 (q : Int)] w16.drew (SegP w16.drew (segL per q j2.es) w16.heap.size) from rsegment_any w16.drew w16.heap.size Am k cm j2.es (Cel.drewN (HBC.out w16 HB16.out).2.1 1) (by omega) per q (by omega) hkz (by omega))
          have HBYT := Lib.hid (show ∀ A3 n3 c3, Ents w16.drew w16.heap.size A3 n3 c3 (segL per q j2.es) → Calls Tryz.prog 41 #[.slice A3 n3 c3] w16.drew (StrP w16.drew (bytesL (segL per q j2.es))) from fun A3 n3 c3 h3 => rbytes_any w16.drew A3 n3 c3 _ h3 (fun e he => HMY.out e (by unfold segL at he; exact List.mem_of_mem_drop (List.mem_of_mem_take he))) (by
            have h1 := h3.len
            have h2 := segL_le per q j2.es
            omega))
          have HRL := Lib.hid (show ∀ W, RowKit.Below w16.heap.size w16 W → PlRel w13 m (.int .i64 ((q : Int) + 1)) W from fun W hW => ⟨q + 1, rfl, by omega, HB16.out.trans (hW.mono HB16.out.size)⟩)
          obtain ⟨c70, kc⟩ := HCX.out w16 (Below.refl _ _)
          clear ho8 hb16
          generalize bytesL (segL per q j2.es) = bs at *
          go_upto_region 25 with fail
          go_region_held3 (fun W => W.cell? ⟨b10, 0, none⟩ = some (.slice Am k cm) ∧ (convert 41 9 (.slice A8 bs.length c8)).run Tryz.prog W = .ok (.string ⟨bs.toArray⟩) W) (first | assumption | exact HCX.out _ (below_drewN (Below.refl _ _) 1) | go_keep) (first
            | (go_at_call 42; (with_reducible refine HSEG.out.mono ?_); rintro r9 w9 ⟨A3, n3, c3, rfl, he3, rfl⟩; have HE3 := Lib.hid he3; clear he3)
            | (go_at_call 41; (with_reducible refine (HBYT.out A3 n3 c3 HE3.out).mono ?_); rintro r9 w9 ⟨rfl, hb9⟩; have HB9 := Lib.hid (show RowKit.Below w16.heap.size w16 w9 from (below_drewN (Below.refl _ _) 1).trans hb9); have hS9 := HCX.out w9 HB9.out; clear hb9))
          have HRR := Lib.hid (HRL.out w9 HB9.out)
          clear hS9 c70 kc
          go_wp2
          go_roundw
          case rel => exact HRR.out
          case measure => simp [intOf]; omega
        · obtain rfl : q = m := by omega
          have HR := Lib.hid (show Says true w (.returned (.bool true)) _ from ⟨rfl, (HBC.out _ HBR.out).2.2⟩)
          go_wp2
          go_ret
          exact HR.out
end Go.Proofs.YtejjfhhppjdcaaaGreatDoor
