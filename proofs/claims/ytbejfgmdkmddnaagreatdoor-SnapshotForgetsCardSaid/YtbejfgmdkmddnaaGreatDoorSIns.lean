/-
  slices.Insert of one element.
  slices.Insert of one element.
  slices.Delete of one element, at ranges.
-/
import Derived.Test.YtbejfgmdkmddnaaGreatDoorSHdRgs
import Derived.Laws.Externs
namespace Go.Proofs.YtbejfgmdkmddnaaGreatDoor
open Go.RowKit

set_option maxHeartbeats 2000000 in
set_option maxRecDepth 100000 in
theorem insE_room (w : World) (base g cap n i vb : Nat) (cur : Array Value) (xs ys : List Value) (hi : i < n) (hroom : n + 1 ≤ cap) (hcap : cap ≤ maxLen) (hn : n ≤ 1000000) (hbg : base ≤ g)
    (hg : w.heap[g]? = some (.cells cur 31 (0, 0))) (hcs : cur.size = cap * 8) (hx : cur.toList.take (n * 8) = xs) (hxl : xs.length = n * 8) (hyl : ys.length = 8)
    (hvb : w.heap[vb]? = some (.cells ys.toArray 31 (0, 0))) (hne : vb ≠ g) (h1x : ∀ u ∈ xs, u.oneCell' = true) (h1y : ∀ u ∈ ys, u.oneCell' = true) :
    Calls Tryz.prog 89 #[.slice (some ⟨g, 0, none⟩) n cap, .int .i64 i, .slice (some ⟨vb, 0, none⟩) 1 1] w (InsPost 31 8 base w (.slice (some ⟨g, 0, none⟩) n cap) n i xs ys) := by
  unfold maxLen at hcap
  have HG := Lib.hid hg; have HV := Lib.hid hvb; have HX := Lib.hid hx; have HXL := Lib.hid hxl; have HYL := Lib.hid hyl; have HCS := Lib.hid hcs; have H1X := Lib.hid h1x; have H1Y := Lib.hid h1y
  clear hg hvb hx hxl hyl hcs h1x h1y
  have hb2 : ¬ (cap = i + 1) := by omega
  have hb4 : ¬ (cap = i) := by omega
  have hz2 : ¬ ((i : Int) = (n : Int)) := by omega
  have hz3 : ¬ ((cap : Int) < (n : Int) + 1) := by omega
  have htn : ((i : Int) + 1).toNat = i + 1 := by omega
  have hin : i ≤ n := by omega
  have hov : ∀ lb cb, (callFunc 150 #[.slice (some ⟨vb, 0, none⟩) 1 1, .slice (some ⟨g, (i + 1) * 8, none⟩) lb cb]).run Tryz.prog w = .ok (.value (.bool false)) w := fun lb cb => by
    have hu := Tryz.underlying22
    rw [run_callFunc_extern Tryz.func150 (by kernel_rfl) (by kernel_rfl) (by kernel_rfl) (e := Extern.SlicesOverlaps.overlaps #[22, 22] #[4]) (by kernel_rfl),
      Lib.run_overlaps_apart w 22 4 31 hu 8 (fun w => by kernel_rfl) ⟨vb, 0, none⟩ ⟨g, (i + 1) * 8, none⟩ 1 1 lb cb hne 31 31 ys.length cur.size (by simp [World.shape?, HV.out]) (by simp [World.shape?, HG.out]) (by have := HCS.out; omega) (frozen_of_row w vb 0 _ _ HV.out) (frozen_of_row w vb _ _ _ HV.out)]
    rfl
  have hsz : (Tryz.prog.info? 31).map (·.size) = some 8 := by kernel_rfl
  have HSZ := Lib.hid hsz; clear hsz
  go_enter Tryz.func89, Tryz.ntmps89
  go_wp2_with (simp only [hov])
  have hdl : (xs.drop (i * 8)).length = (n - i) * 8 := by rw [List.length_drop, HXL.out, Nat.sub_mul]
  have HS1 := Lib.hid (show ∀ j v, (xs.drop (i * 8))[j]? = some v → w.drew.cell? ((⟨g, i * 8, none⟩ : Addr).add j) = some v from fun j v hj => by
    have hlt : i * 8 + j < n * 8 := by
      rw [List.getElem?_drop] at hj
      have := (List.getElem?_eq_some_iff.1 hj).1
      rw [HXL.out] at this; exact this
    have e : (⟨g, i * 8, none⟩ : Addr).add j = ⟨g, i * 8 + j, none⟩ := by unfold Addr.add; split <;> simp_all
    rw [e]
    show w.cell? _ = _
    rw [cell_of_row w g _ _ _ (0, 0) HG.out, ← Array.getElem?_toList]
    rw [List.getElem?_drop, ← HX.out, List.getElem?_take, if_pos hlt] at hj
    exact hj)
  have HC1 := Lib.hid (show n - i = Nat.min (n + 1 - i) (n - i) by simp only [Nat.min_def]; split <;> omega)
  have HC2 := Lib.hid hdl
  have HC3 := Lib.hid (show (i + 1) * 8 + (xs.drop (i * 8)).length ≤ cur.size by rw [hdl, HCS.out]; omega)
  have HC4 := Lib.hid (show ∀ v ∈ xs.drop (i * 8), v.oneCell' = true from fun v hv => H1X.out v (List.mem_of_mem_drop hv))
  have HG1 := Lib.hid (show w.drew.heap[g]? = some (.cells cur 31 (0, 0)) from HG.out)
  clear hdl
  have hb1 : (0 : Int) ≤ (i : Int) + 1 := by omega
  have hb6 : (i : Int) ≤ (n : Int) + 1 := by omega
  have hn1 : n + 1 - (i + 1) = n - i := by omega
  have hw1 : IntKind.i64.wrap ((i : Int) + 1) = (i : Int) + 1 := by rw [IntKind.wrap_i64]; omega
  go_region_law (refine step_copy_k rfl (.tmp 73) (.tmp 76) 22 22 rfl 31 8 Tryz.underlying22 HSZ.out g ((i + 1) * 8) (n - i) (cap - (i + 1)) ⟨g, i * 8, none⟩ (n + 1 - i) (cap - i) (by simp [Act.eval, Act.put]) (by simp [Act.eval, Act.put]) cur _ HG1.out (xs.drop (i * 8)) (n - i) HC1.out HC2.out HS1.out HC3.out HC4.out ?_; intro w3 hsp3)
  clear hw1 hb1 hb6 hn1
  have hrow3 := hsp3.row
  obtain ⟨C1, hC1⟩ : ∃ C1 : Array Value, C1 = (cur.toList.take ((i + 1) * 8) ++ xs.drop (i * 8) ++ cur.toList.drop ((i + 1) * 8 + (xs.drop (i * 8)).length)).toArray := ⟨_, rfl⟩
  rw [← hC1] at hrow3
  have HG3 := Lib.hid hrow3
  have HV3 := Lib.hid (show w3.heap[vb]? = some (.cells ys.toArray 31 (0, 0)) from (hsp3.grown.block vb (heap_lt HV.out) (fun h => hne (by injection h))).trans HV.out)
  have HB3 := Lib.hid (show w.grownBy w3 (some g) from ⟨hsp3.grown.os, hsp3.grown.tape, hsp3.grown.output, hsp3.grown.size, hsp3.grown.block⟩)
  have hsz3 : w3.heap.size = w.heap.size := hsp3.size
  have HCC := Lib.hid hC1
  have hC1s : C1.size = cap * 8 := by
    rw [hC1]
    have := HCS.out; have := HC2.out; have := HC3.out
    simp only [List.size_toArray, List.length_append, List.length_take, List.length_drop, Array.length_toList, HXL.out]
    omega
  have HC1S := Lib.hid hC1s
  clear hsp3 hrow3 hC1 hC1s
  have HS2 := Lib.hid (show ∀ j v, ys[j]? = some v → w3.cell? ((⟨vb, 0, none⟩ : Addr).add j) = some v from fun j v hj => by
    have e : (⟨vb, 0, none⟩ : Addr).add j = ⟨vb, j, none⟩ := by unfold Addr.add; split <;> simp_all
    rw [e, cell_of_row w3 vb _ _ _ (0, 0) HV3.out]
    simpa using hj)
  have HD1 := Lib.hid (show 1 = Nat.min 1 (n + 1 - i) by simp only [Nat.min_def]; split <;> omega)
  have HD2 := Lib.hid (show ys.length = 1 * 8 by rw [HYL.out])
  have HD3 := Lib.hid (show i * 8 + ys.length ≤ C1.size by rw [HC1S.out, HYL.out]; omega)
  go_wp2_with (with_reducible refine wpList_copy_k rfl (.tmp 80) (.tmp 81) 22 22 rfl 31 8 Tryz.underlying22 HSZ.out g (i * 8) (n + 1 - i) (cap - i) ⟨vb, 0, none⟩ 1 1 rfl rfl C1 _ HG3.out ys 1 HD1.out HD2.out HS2.out HD3.out H1Y.out ?_; intro w4 hsp4)
  go_ret
  refine ⟨_, rfl, ⟨?_, .inr ⟨g, cap, _, rfl, hbg, hsp4.row, by omega, by unfold maxLen; omega, ?_, ?_⟩⟩, HB3.out.andThen hsp4.grown (fun j hj => .inr hj), .inl rfl⟩
  · simp only [List.length_append, List.length_take, List.length_drop, HXL.out, HYL.out]; omega
  · have := HC1S.out; have := HYL.out
    simp only [List.size_toArray, List.length_append, List.length_take, List.length_drop, Array.length_toList]; omega
  · have h := splice_ins cur.toList xs ys (i * 8) 8 (n * 8) HX.out HXL.out (by omega) HYL.out (by simp [HCS.out]; omega)
    rw [HCC.out]
    simp only
    rw [show (i + 1) * 8 = i * 8 + 8 by omega, show (n + 1) * 8 = n * 8 + 8 by omega]
    exact h

set_option maxHeartbeats 2000000 in
set_option maxRecDepth 100000 in
theorem insE_grow (w : World) (base g n i vb : Nat) (cur : Array Value) (xs ys : List Value) (hi : i < n) (hn : n ≤ 1000000) (hbase : base ≤ w.heap.size)
    (hg : w.heap[g]? = some (.cells cur 31 (0, 0))) (hcs : cur.size = n * 8) (hx : cur.toList.take (n * 8) = xs) (hxl : xs.length = n * 8) (hyl : ys.length = 8)
    (hvb : w.heap[vb]? = some (.cells ys.toArray 31 (0, 0))) (h1x : ∀ u ∈ xs, u.oneCell' = true) (h1y : ∀ u ∈ ys, u.oneCell' = true) :
    Calls Tryz.prog 89 #[.slice (some ⟨g, 0, none⟩) n n, .int .i64 i, .slice (some ⟨vb, 0, none⟩) 1 1] w (InsPost 31 8 base w (.slice (some ⟨g, 0, none⟩) n n) n i xs ys) := by
  have HG := Lib.hid hg; have HV := Lib.hid hvb; have HX := Lib.hid hx; have HXL := Lib.hid hxl; have HYL := Lib.hid hyl; have HCS := Lib.hid hcs; have H1X := Lib.hid h1x; have H1Y := Lib.hid h1y
  have hglt := heap_lt hg
  have hvlt := heap_lt hvb
  clear hg hvb hx hxl hyl hcs h1x h1y
  obtain ⟨i0, hi0, hz0, hzs, hzb⟩ := info_parts ev_info
  have hcell : ∀ j v, xs[j]? = some v → w.cell? ⟨g, j, none⟩ = some v := fun j v hj => by
    have hlt : j < n * 8 := by have := (List.getElem?_eq_some_iff.1 hj).1; rw [HXL.out] at this; exact this
    rw [cell_of_row w g _ _ _ (0, 0) HG.out, ← Array.getElem?_toList]
    rw [← HX.out, List.getElem?_take, if_pos hlt] at hj
    exact hj
  have hadd : ∀ (b o j : Nat), (⟨b, o, none⟩ : Addr).add j = ⟨b, o + j, none⟩ := fun b o j => by unfold Addr.add; split <;> simp_all
  have hold : (Builtin.firstCells i0.size i (.slice (some ⟨g, 0, none⟩) i n)).run Tryz.prog w.drew = .ok (xs.take (i * 8)).toArray w.drew := by
    rw [hzs]
    exact run_firstCells_some w.drew 8 i ⟨g, 0, none⟩ i n (xs.take (i * 8)) (by rw [List.length_take, HXL.out]; omega) (fun j v hj => by
      rw [hadd, Nat.zero_add]
      rw [List.getElem?_take] at hj
      split at hj
      · exact hcell j v hj
      · cases hj)
  have hik : i + (n + 1 - i) = n + 1 := by omega
  have hrz : ∃ G row w1, (∀ ty, (Builtin.append_ #[22, 3] ty #[.slice (some ⟨g, 0, none⟩) i n, .int .i64 ((n : Int) + 1 - (i : Int))]).run Tryz.prog w = .ok (.slice (some ⟨w.heap.size, 0, none⟩) (n + 1) G) w1) ∧
      w1.heap[w.heap.size]? = some (.cells row 31 (0, 0)) ∧ Below w.heap.size w w1 ∧ w1.heap.size = w.heap.size + 1 ∧ n + 1 ≤ G ∧ G ≤ maxLen ∧ row.size = G * 8 ∧ row.toList.take (i * 8) = xs.take (i * 8) := by
    have h := fun ty => Lib.run_append_grow_zeros w 22 3 ty 31 i0 _ .i64 .i64 Tryz.underlying22 Tryz.underlying3 hi0 hz0 (some ⟨g, 0, none⟩) i n (xs.take (i * 8)) hold (n + 1 - i) (by omega) (by omega) (by omega) (by omega) (by rw [hzb]; omega) (by rw [hzb, hik]; exact growslice_fits_wide (by omega) (by omega))
    simp only [hik] at h
    refine ⟨_, _, _, by rw [show (n : Int) + 1 - (i : Int) = ((n + 1 - i : Nat) : Int) by omega]; exact h, heap_alloc_new w.drew _, (Below.refl _ _).drew.alloc (Nat.le_refl _) _, by simp, grownCap_ge w _ _ _, grownCap_le_maxLen w _ _ _ (by unfold maxLen; omega), ?_, ?_⟩
    · have hge := grownCap_ge w (n + 1) n 31
      simp only [Array.size_append, List.size_toArray, List.length_take, HXL.out, size_zeroCells]
      simp only [Value.cells, List.size_toArray, List.length_cons, List.length_nil]
      omega
    · rw [Array.toList_append, Array.toList_append, List.append_assoc]
      exact List.take_left' (by simp only [List.length_take, HXL.out]; omega)
  obtain ⟨G, row, w1, hr, hrow, hb1, hs1, hG1, hG2, hrs, hrt⟩ := hrz
  have HR := Lib.hid hr; have HROW := Lib.hid hrow; have HB1 := Lib.hid hb1; have HS1 := Lib.hid hs1; have HRS := Lib.hid hrs; have HRT := Lib.hid hrt
  have HCELL := Lib.hid hcell
  unfold maxLen at hG2
  clear hold hik hr hrow hb1 hs1 hrs hrt hi0 hz0 hzs hzb hcell
  have hsz : (Tryz.prog.info? 31).map (·.size) = some 8 := by kernel_rfl
  have HSZ := Lib.hid hsz; clear hsz
  have HV1 := Lib.hid (show w1.heap[vb]? = some (.cells ys.toArray 31 (0, 0)) from (HB1.out.block vb hvlt).trans HV.out)
  have hb4 : ¬ (n = i) := by omega
  have hb5 : ¬ (G = i) := by omega
  have hb7 : ¬ (G = i + 1) := by omega
  have hz2 : ¬ ((i : Int) = (n : Int)) := by omega
  have hz3 : (n : Int) < (n : Int) + 1 := by omega
  have htn : ((i : Int) + 1).toNat = i + 1 := by omega
  have hin : i ≤ n := by omega
  have hin1 : i ≤ n + 1 := by omega
  have hii : (i : Int) ≤ (n : Int) + 1 := by omega
  have hnd : n + 1 - (i + 1) = n - i := by omega
  have HA1 := Lib.hid (show ∀ j v, ys[j]? = some v → w1.cell? ((⟨vb, 0, none⟩ : Addr).add j) = some v from fun j v hj => by
    rw [hadd, Nat.zero_add, cell_of_row w1 vb _ _ _ (0, 0) HV1.out]
    simpa using hj)
  have HD1 := Lib.hid (show 1 = Nat.min 1 (n + 1 - i) by simp only [Nat.min_def]; split <;> omega)
  have HD2 := Lib.hid (show ys.length = 1 * 8 by rw [HYL.out])
  have HD3 := Lib.hid (show i * 8 + ys.length ≤ row.size by rw [HRS.out, HYL.out]; omega)
  go_enter Tryz.func89, Tryz.ntmps89
  go_wp2_with (first
    | (at_builtin; with_reducible refine Lib.wpList_append_run _ rfl (.tmp 34) (.tmp 39) 22 3 rfl _ _ rfl rfl _ _ (HR.out _) ?_)
    | (with_reducible refine wpList_copy_k rfl (.tmp 43) (.tmp 44) 22 22 rfl 31 8 Tryz.underlying22 HSZ.out w.heap.size (i * 8) (n + 1 - i) (G - i) ⟨vb, 0, none⟩ 1 1 rfl rfl row _ HROW.out ys 1 HD1.out HD2.out HA1.out HD3.out H1Y.out ?_; intro w2 hsp2))
  go_frame
  have hrow2 := hsp2.row
  obtain ⟨C1, hC1⟩ : ∃ C1 : Array Value, C1 = (row.toList.take (i * 8) ++ ys ++ row.toList.drop (i * 8 + ys.length)).toArray := ⟨_, rfl⟩
  rw [← hC1] at hrow2
  have HG2 := Lib.hid (show w2.drew.heap[w.heap.size]? = some (.cells C1 31 (0, 0)) from hrow2)
  have hOg : w2.drew.heap[g]? = some (.cells cur 31 (0, 0)) := by
    show w2.heap[g]? = _
    rw [hsp2.grown.block g (by rw [HS1.out]; omega) (fun h => by injection h with h; omega), HB1.out.block g hglt]
    exact HG.out
  have HOG := Lib.hid hOg
  have HB2 := Lib.hid (show Below w.heap.size w w2 from HB1.out.grown hsp2.grown (by rw [HS1.out]; omega) (fun k hk => by injection hk with hk; omega))
  have hsz2 : w2.heap.size = w.heap.size + 1 := hsp2.size.trans HS1.out
  have HSZ2 := Lib.hid hsz2
  have HCC := Lib.hid hC1
  have hC1s : C1.size = G * 8 := by
    rw [hC1]
    have := HRS.out; have := HYL.out; have := HD3.out
    simp only [List.size_toArray, List.length_append, List.length_take, List.length_drop, Array.length_toList]
    omega
  have HC1S := Lib.hid hC1s
  have hdl : (xs.drop (i * 8)).length = (n - i) * 8 := by rw [List.length_drop, HXL.out, Nat.sub_mul]
  have HE1 := Lib.hid (show ∀ j v, (xs.drop (i * 8))[j]? = some v → w2.drew.cell? ((⟨g, i * 8, none⟩ : Addr).add j) = some v from fun j v hj => by
    rw [hadd, cell_of_row w2.drew g _ _ _ (0, 0) HOG.out, ← cell_of_row w g _ _ _ (0, 0) HG.out]
    rw [List.getElem?_drop] at hj
    exact HCELL.out _ v hj)
  have HE2 := Lib.hid (show n - i = Nat.min (n - i) (n - i) by simp)
  have HE3 := Lib.hid hdl
  have HE4 := Lib.hid (show (i + 1) * 8 + (xs.drop (i * 8)).length ≤ C1.size by rw [hdl, HC1S.out]; omega)
  have HE5 := Lib.hid (show ∀ v ∈ xs.drop (i * 8), v.oneCell' = true from fun v hv => H1X.out v (List.mem_of_mem_drop hv))
  clear hsp2 hrow2 hC1 hC1s hdl hOg hsz2
  have hb1 : (0 : Int) ≤ (i : Int) + 1 := by omega
  have hw1 : IntKind.i64.wrap ((i : Int) + 1) = (i : Int) + 1 := by rw [IntKind.wrap_i64]; omega
  go_region_law (refine step_copy_k rfl (.tmp 50) (.tmp 53) 22 22 rfl 31 8 Tryz.underlying22 HSZ.out w.heap.size ((i + 1) * 8) (n - i) (G - (i + 1)) ⟨g, i * 8, none⟩ (n - i) (n - i) (by simp [Act.eval, Act.put]) (by simp [Act.eval, Act.put]) C1 _ HG2.out (xs.drop (i * 8)) (n - i) HE2.out HE3.out HE1.out HE4.out HE5.out ?_; intro w3 hsp3)
  clear hw1 hb1
  go_wp2
  go_ret
  have hbel : Below w.heap.size w w3 := (below_drewN HB2.out 1).grown hsp3.grown (by show w.heap.size ≤ w2.heap.size; rw [HSZ2.out]; omega) (fun k hk => by injection hk with hk; omega)
  refine ⟨_, rfl, ⟨?_, .inr ⟨w.heap.size, G, _, rfl, hbase, hsp3.row, by omega, by unfold maxLen; omega, ?_, ?_⟩⟩, ⟨hbel.os, hbel.tape, hbel.output, hbel.size, fun k hk _ => hbel.block k hk⟩, .inr ⟨_, rfl, Nat.le_refl _⟩⟩
  · simp only [List.length_append, List.length_take, List.length_drop, HXL.out, HYL.out]; omega
  · have := HC1S.out; have := HE3.out; have := HE4.out
    simp only [List.size_toArray, List.length_append, List.length_take, List.length_drop, Array.length_toList] at *; omega
  · have h := splice_grow row.toList xs ys (i * 8) 8 (n * 8) HRT.out HXL.out (by omega) HYL.out (by simp [HRS.out]; omega)
    rw [HCC.out]
    simp only
    rw [show (i + 1) * 8 = i * 8 + 8 by omega, show (n + 1) * 8 = n * 8 + 8 by omega]
    exact h

set_option maxHeartbeats 2000000 in
set_option maxRecDepth 100000 in
theorem insE_any (w : World) (base n i vb : Nat) (v : Value) (xs ys : List Value) (hi : i ≤ n) (hn : n ≤ 1000000) (hbase : base ≤ w.heap.size) (hown : w.ownsRow base 31 8 v n xs) (hyl : ys.length = 8)
    (hvb : w.heap[vb]? = some (.cells ys.toArray 31 (0, 0))) (hne : v.ownBlock ≠ some vb) (h1x : ∀ u ∈ xs, u.oneCell' = true) (h1y : ∀ u ∈ ys, u.oneCell' = true) :
    Calls Tryz.prog 89 #[v, .int .i64 i, .slice (some ⟨vb, 0, none⟩) 1 1] w (InsPost 31 8 base w v n i xs ys) := by
  have HXL := Lib.hid hown.1
  have HO := Lib.hid hown
  have HV := Lib.hid hvb; have HYL := Lib.hid hyl; have H1Y := Lib.hid h1y
  obtain ⟨i0, hi0, hz0, hzs, hzb⟩ := info_parts ev_info
  have HI := Lib.hid hi0; have HZ0 := Lib.hid hz0; have HZ1 := Lib.hid hzs; have HZ2 := Lib.hid hzb
  clear hi0 hz0 hzs hzb
  have HCEL := Lib.hid (show Cel w (vb + 1) 8 (some ⟨vb, 0, none⟩) 1 1 ys from ⟨by rw [HYL.out], Nat.le_refl _, by unfold maxLen; omega, fun _ => ⟨vb, 0, rfl, by omega, fun j u hj => by rw [Nat.zero_add, cell_of_row w vb _ _ _ (0, 0) HV.out]; simpa using hj⟩⟩)
  have done : ∀ (e : Ending) (w' : World) (v' : Value), e = .returned v' → n = i → w'.ownsRow base 31 8 v' (n + 1) (xs ++ ys) → w.grownBy w' v.ownBlock → (v'.ownBlock = v.ownBlock ∨ v'.ownBlock = some w.heap.size) → InsPost 31 8 base w v n i xs ys e w'   := fun e w' v' he hin h1 h2 h3 => by
    subst hin
    refine ⟨v', he, ?_, h2, h3.imp id fun h => ⟨_, h, Nat.le_refl _⟩⟩
    rw [List.take_of_length_le (by rw [HXL.out]; omega), List.drop_of_length_le (by rw [HXL.out]; omega), List.append_nil]
    exact h1
  have HDONE := Lib.hid done
  clear done
  rcases hown.2 with ⟨hnil, hn0⟩ | ⟨g, cap, cur, hv, hbg, hg, hnc, hm, hs, ht⟩
  · subst hnil hn0
    have h0 : i = 0 := by omega
    subst h0
    clear hown hvb hyl h1y h1x
    go_enter Tryz.func89, Tryz.ntmps89
    go_wp2_with (at_builtin; refine wpList_app (P := Tryz.prog) rfl (.tmp 23) (.tmp 24) 22 rfl 31 i0 _ 8 96 Tryz.underlying22 HI.out HZ0.out HZ1.out HZ2.out rfl (by decide) base _ 0 xs rfl HO.out (vb + 1) _ 1 1 ys rfl HCEL.out H1Y.out (by unfold maxLen; omega) (by omega) hbase ?_; intro v' w' ho' hg' hb')
    go_ret
    first | exact HDONE.out _ _ _ rfl rfl ho' hg' hb' | exact HDONE.out _ _ _ rfl trivial ho' hg' hb'
  · subst hv
    have hgv : g ≠ vb := fun e => hne (by rw [e]; rfl)
    by_cases hin : i = n
    · subst hin
      clear hown hvb hyl h1y h1x hg hs ht
      unfold maxLen at hm
      by_cases hcn : cap = i
      · subst hcn
        go_enter Tryz.func89, Tryz.ntmps89
        go_wp2_with (at_builtin; refine wpList_app (P := Tryz.prog) rfl (.tmp 23) (.tmp 24) 22 rfl 31 i0 _ 8 96 Tryz.underlying22 HI.out HZ0.out HZ1.out HZ2.out rfl (by decide) base _ cap xs rfl HO.out (vb + 1) _ 1 1 ys rfl HCEL.out H1Y.out (by unfold maxLen; omega) (by omega) hbase ?_; intro v' w' ho' hg' hb')
        go_ret
        first | exact HDONE.out _ _ _ rfl rfl ho' hg' hb' | exact HDONE.out _ _ _ rfl trivial ho' hg' hb'
      · go_enter Tryz.func89, Tryz.ntmps89
        go_wp2_with (at_builtin; refine wpList_app (P := Tryz.prog) rfl (.tmp 23) (.tmp 24) 22 rfl 31 i0 _ 8 96 Tryz.underlying22 HI.out HZ0.out HZ1.out HZ2.out rfl (by decide) base _ i xs rfl HO.out (vb + 1) _ 1 1 ys rfl HCEL.out H1Y.out (by unfold maxLen; omega) (by omega) hbase ?_; intro v' w' ho' hg' hb')
        go_ret
        first | exact HDONE.out _ _ _ rfl rfl ho' hg' hb' | exact HDONE.out _ _ _ rfl trivial ho' hg' hb'
    · by_cases hr : n + 1 ≤ cap
      · exact insE_room w base g cap n i vb cur xs ys (by omega) hr hm hn hbg hg hs ht HXL.out hyl hvb (Ne.symm hgv) h1x h1y
      · have hcn : cap = n := by omega
        subst hcn
        exact insE_grow w base g cap i vb cur xs ys (by omega) hn hbase hg hs ht HXL.out hyl hvb h1x h1y
end Go.Proofs.YtbejfgmdkmddnaaGreatDoor
namespace Go.Proofs.YtbejfgmdkmddnaaGreatDoor
open Go.RowKit

set_option maxHeartbeats 2000000 in
set_option maxRecDepth 100000 in
theorem insR_room (w : World) (base g cap n i vb : Nat) (cur : Array Value) (xs ys : List Value) (hi : i < n) (hroom : n + 1 ≤ cap) (hcap : cap ≤ maxLen) (hn : n ≤ 1000000) (hbg : base ≤ g)
    (hg : w.heap[g]? = some (.cells cur 173 (0, 0))) (hcs : cur.size = cap * 2) (hx : cur.toList.take (n * 2) = xs) (hxl : xs.length = n * 2) (hyl : ys.length = 2)
    (hvb : w.heap[vb]? = some (.cells ys.toArray 173 (0, 0))) (hne : vb ≠ g) (h1x : ∀ u ∈ xs, u.oneCell' = true) (h1y : ∀ u ∈ ys, u.oneCell' = true) :
    Calls Tryz.prog 146 #[.slice (some ⟨g, 0, none⟩) n cap, .int .i64 i, .slice (some ⟨vb, 0, none⟩) 1 1] w (InsPost 173 2 base w (.slice (some ⟨g, 0, none⟩) n cap) n i xs ys) := by
  unfold maxLen at hcap
  have HG := Lib.hid hg; have HV := Lib.hid hvb; have HX := Lib.hid hx; have HXL := Lib.hid hxl; have HYL := Lib.hid hyl; have HCS := Lib.hid hcs; have H1X := Lib.hid h1x; have H1Y := Lib.hid h1y
  clear hg hvb hx hxl hyl hcs h1x h1y
  have hb2 : ¬ (cap = i + 1) := by omega
  have hb4 : ¬ (cap = i) := by omega
  have hz2 : ¬ ((i : Int) = (n : Int)) := by omega
  have hz3 : ¬ ((cap : Int) < (n : Int) + 1) := by omega
  have htn : ((i : Int) + 1).toNat = i + 1 := by omega
  have hin : i ≤ n := by omega
  have hov : ∀ lb cb, (callFunc 190 #[.slice (some ⟨vb, 0, none⟩) 1 1, .slice (some ⟨g, (i + 1) * 2, none⟩) lb cb]).run Tryz.prog w = .ok (.value (.bool false)) w := fun lb cb => by
    have hu := Tryz.underlying171
    rw [run_callFunc_extern Tryz.func190 (by kernel_rfl) (by kernel_rfl) (by kernel_rfl) (e := Extern.SlicesOverlaps.overlaps #[171, 171] #[4]) (by kernel_rfl),
      Lib.run_overlaps_apart w 171 4 173 hu 2 (fun w => by kernel_rfl) ⟨vb, 0, none⟩ ⟨g, (i + 1) * 2, none⟩ 1 1 lb cb hne 173 173 ys.length cur.size (by simp [World.shape?, HV.out]) (by simp [World.shape?, HG.out]) (by have := HCS.out; omega) (frozen_of_row w vb 0 _ _ HV.out) (frozen_of_row w vb _ _ _ HV.out)]
    rfl
  have hsz : (Tryz.prog.info? 173).map (·.size) = some 2 := by kernel_rfl
  have HSZ := Lib.hid hsz; clear hsz
  go_enter Tryz.func146, Tryz.ntmps146
  go_wp2_with (simp only [hov])
  have hdl : (xs.drop (i * 2)).length = (n - i) * 2 := by rw [List.length_drop, HXL.out, Nat.sub_mul]
  have HS1 := Lib.hid (show ∀ j v, (xs.drop (i * 2))[j]? = some v → w.drew.cell? ((⟨g, i * 2, none⟩ : Addr).add j) = some v from fun j v hj => by
    have hlt : i * 2 + j < n * 2 := by
      rw [List.getElem?_drop] at hj
      have := (List.getElem?_eq_some_iff.1 hj).1
      rw [HXL.out] at this; exact this
    have e : (⟨g, i * 2, none⟩ : Addr).add j = ⟨g, i * 2 + j, none⟩ := by unfold Addr.add; split <;> simp_all
    rw [e]
    show w.cell? _ = _
    rw [cell_of_row w g _ _ _ (0, 0) HG.out, ← Array.getElem?_toList]
    rw [List.getElem?_drop, ← HX.out, List.getElem?_take, if_pos hlt] at hj
    exact hj)
  have HC1 := Lib.hid (show n - i = Nat.min (n + 1 - i) (n - i) by simp only [Nat.min_def]; split <;> omega)
  have HC2 := Lib.hid hdl
  have HC3 := Lib.hid (show (i + 1) * 2 + (xs.drop (i * 2)).length ≤ cur.size by rw [hdl, HCS.out]; omega)
  have HC4 := Lib.hid (show ∀ v ∈ xs.drop (i * 2), v.oneCell' = true from fun v hv => H1X.out v (List.mem_of_mem_drop hv))
  have HG1 := Lib.hid (show w.drew.heap[g]? = some (.cells cur 173 (0, 0)) from HG.out)
  clear hdl
  have hb1 : (0 : Int) ≤ (i : Int) + 1 := by omega
  have hb6 : (i : Int) ≤ (n : Int) + 1 := by omega
  have hn1 : n + 1 - (i + 1) = n - i := by omega
  have hw1 : IntKind.i64.wrap ((i : Int) + 1) = (i : Int) + 1 := by rw [IntKind.wrap_i64]; omega
  go_region_law (refine step_copy_k rfl (.tmp 73) (.tmp 76) 171 171 rfl 173 2 Tryz.underlying171 HSZ.out g ((i + 1) * 2) (n - i) (cap - (i + 1)) ⟨g, i * 2, none⟩ (n + 1 - i) (cap - i) (by simp [Act.eval, Act.put]) (by simp [Act.eval, Act.put]) cur _ HG1.out (xs.drop (i * 2)) (n - i) HC1.out HC2.out HS1.out HC3.out HC4.out ?_; intro w3 hsp3)
  clear hw1 hb1 hb6 hn1
  have hrow3 := hsp3.row
  obtain ⟨C1, hC1⟩ : ∃ C1 : Array Value, C1 = (cur.toList.take ((i + 1) * 2) ++ xs.drop (i * 2) ++ cur.toList.drop ((i + 1) * 2 + (xs.drop (i * 2)).length)).toArray := ⟨_, rfl⟩
  rw [← hC1] at hrow3
  have HG3 := Lib.hid hrow3
  have HV3 := Lib.hid (show w3.heap[vb]? = some (.cells ys.toArray 173 (0, 0)) from (hsp3.grown.block vb (heap_lt HV.out) (fun h => hne (by injection h))).trans HV.out)
  have HB3 := Lib.hid (show w.grownBy w3 (some g) from ⟨hsp3.grown.os, hsp3.grown.tape, hsp3.grown.output, hsp3.grown.size, hsp3.grown.block⟩)
  have hsz3 : w3.heap.size = w.heap.size := hsp3.size
  have HCC := Lib.hid hC1
  have hC1s : C1.size = cap * 2 := by
    rw [hC1]
    have := HCS.out; have := HC2.out; have := HC3.out
    simp only [List.size_toArray, List.length_append, List.length_take, List.length_drop, Array.length_toList, HXL.out]
    omega
  have HC1S := Lib.hid hC1s
  clear hsp3 hrow3 hC1 hC1s
  have HS2 := Lib.hid (show ∀ j v, ys[j]? = some v → w3.cell? ((⟨vb, 0, none⟩ : Addr).add j) = some v from fun j v hj => by
    have e : (⟨vb, 0, none⟩ : Addr).add j = ⟨vb, j, none⟩ := by unfold Addr.add; split <;> simp_all
    rw [e, cell_of_row w3 vb _ _ _ (0, 0) HV3.out]
    simpa using hj)
  have HD1 := Lib.hid (show 1 = Nat.min 1 (n + 1 - i) by simp only [Nat.min_def]; split <;> omega)
  have HD2 := Lib.hid (show ys.length = 1 * 2 by rw [HYL.out])
  have HD3 := Lib.hid (show i * 2 + ys.length ≤ C1.size by rw [HC1S.out, HYL.out]; omega)
  go_wp2_with (with_reducible refine wpList_copy_k rfl (.tmp 80) (.tmp 81) 171 171 rfl 173 2 Tryz.underlying171 HSZ.out g (i * 2) (n + 1 - i) (cap - i) ⟨vb, 0, none⟩ 1 1 rfl rfl C1 _ HG3.out ys 1 HD1.out HD2.out HS2.out HD3.out H1Y.out ?_; intro w4 hsp4)
  go_ret
  refine ⟨_, rfl, ⟨?_, .inr ⟨g, cap, _, rfl, hbg, hsp4.row, by omega, by unfold maxLen; omega, ?_, ?_⟩⟩, HB3.out.andThen hsp4.grown (fun j hj => .inr hj), .inl rfl⟩
  · simp only [List.length_append, List.length_take, List.length_drop, HXL.out, HYL.out]; omega
  · have := HC1S.out; have := HYL.out
    simp only [List.size_toArray, List.length_append, List.length_take, List.length_drop, Array.length_toList]; omega
  · have h := splice_ins cur.toList xs ys (i * 2) 2 (n * 2) HX.out HXL.out (by omega) HYL.out (by simp [HCS.out]; omega)
    rw [HCC.out]
    simp only
    rw [show (i + 1) * 2 = i * 2 + 2 by omega, show (n + 1) * 2 = n * 2 + 2 by omega]
    exact h

set_option maxHeartbeats 2000000 in
set_option maxRecDepth 100000 in
theorem insR_grow (w : World) (base g n i vb : Nat) (cur : Array Value) (xs ys : List Value) (hi : i < n) (hn : n ≤ 1000000) (hbase : base ≤ w.heap.size)
    (hg : w.heap[g]? = some (.cells cur 173 (0, 0))) (hcs : cur.size = n * 2) (hx : cur.toList.take (n * 2) = xs) (hxl : xs.length = n * 2) (hyl : ys.length = 2)
    (hvb : w.heap[vb]? = some (.cells ys.toArray 173 (0, 0))) (h1x : ∀ u ∈ xs, u.oneCell' = true) (h1y : ∀ u ∈ ys, u.oneCell' = true) :
    Calls Tryz.prog 146 #[.slice (some ⟨g, 0, none⟩) n n, .int .i64 i, .slice (some ⟨vb, 0, none⟩) 1 1] w (InsPost 173 2 base w (.slice (some ⟨g, 0, none⟩) n n) n i xs ys) := by
  have HG := Lib.hid hg; have HV := Lib.hid hvb; have HX := Lib.hid hx; have HXL := Lib.hid hxl; have HYL := Lib.hid hyl; have HCS := Lib.hid hcs; have H1X := Lib.hid h1x; have H1Y := Lib.hid h1y
  have hglt := heap_lt hg
  have hvlt := heap_lt hvb
  clear hg hvb hx hxl hyl hcs h1x h1y
  obtain ⟨i0, hi0, hz0, hzs, hzb⟩ := info_parts rg_info
  have hcell : ∀ j v, xs[j]? = some v → w.cell? ⟨g, j, none⟩ = some v := fun j v hj => by
    have hlt : j < n * 2 := by have := (List.getElem?_eq_some_iff.1 hj).1; rw [HXL.out] at this; exact this
    rw [cell_of_row w g _ _ _ (0, 0) HG.out, ← Array.getElem?_toList]
    rw [← HX.out, List.getElem?_take, if_pos hlt] at hj
    exact hj
  have hadd : ∀ (b o j : Nat), (⟨b, o, none⟩ : Addr).add j = ⟨b, o + j, none⟩ := fun b o j => by unfold Addr.add; split <;> simp_all
  have hold : (Builtin.firstCells i0.size i (.slice (some ⟨g, 0, none⟩) i n)).run Tryz.prog w.drew = .ok (xs.take (i * 2)).toArray w.drew := by
    rw [hzs]
    exact run_firstCells_some w.drew 2 i ⟨g, 0, none⟩ i n (xs.take (i * 2)) (by rw [List.length_take, HXL.out]; omega) (fun j v hj => by
      rw [hadd, Nat.zero_add]
      rw [List.getElem?_take] at hj
      split at hj
      · exact hcell j v hj
      · cases hj)
  have hik : i + (n + 1 - i) = n + 1 := by omega
  have hrz : ∃ G row w1, (∀ ty, (Builtin.append_ #[171, 3] ty #[.slice (some ⟨g, 0, none⟩) i n, .int .i64 ((n : Int) + 1 - (i : Int))]).run Tryz.prog w = .ok (.slice (some ⟨w.heap.size, 0, none⟩) (n + 1) G) w1) ∧
      w1.heap[w.heap.size]? = some (.cells row 173 (0, 0)) ∧ Below w.heap.size w w1 ∧ w1.heap.size = w.heap.size + 1 ∧ n + 1 ≤ G ∧ G ≤ maxLen ∧ row.size = G * 2 ∧ row.toList.take (i * 2) = xs.take (i * 2) := by
    have h := fun ty => Lib.run_append_grow_zeros w 171 3 ty 173 i0 _ .i64 .i64 Tryz.underlying171 Tryz.underlying3 hi0 hz0 (some ⟨g, 0, none⟩) i n (xs.take (i * 2)) hold (n + 1 - i) (by omega) (by omega) (by omega) (by omega) (by rw [hzb]; omega) (by rw [hzb, hik]; exact growslice_fits_wide (by omega) (by omega))
    simp only [hik] at h
    refine ⟨_, _, _, by rw [show (n : Int) + 1 - (i : Int) = ((n + 1 - i : Nat) : Int) by omega]; exact h, heap_alloc_new w.drew _, (Below.refl _ _).drew.alloc (Nat.le_refl _) _, by simp, grownCap_ge w _ _ _, grownCap_le_maxLen w _ _ _ (by unfold maxLen; omega), ?_, ?_⟩
    · have hge := grownCap_ge w (n + 1) n 173
      simp only [Array.size_append, List.size_toArray, List.length_take, HXL.out, size_zeroCells]
      simp only [Value.cells, List.size_toArray, List.length_cons, List.length_nil]
      omega
    · rw [Array.toList_append, Array.toList_append, List.append_assoc]
      exact List.take_left' (by simp only [List.length_take, HXL.out]; omega)
  obtain ⟨G, row, w1, hr, hrow, hb1, hs1, hG1, hG2, hrs, hrt⟩ := hrz
  have HR := Lib.hid hr; have HROW := Lib.hid hrow; have HB1 := Lib.hid hb1; have HS1 := Lib.hid hs1; have HRS := Lib.hid hrs; have HRT := Lib.hid hrt
  have HCELL := Lib.hid hcell
  unfold maxLen at hG2
  clear hold hik hr hrow hb1 hs1 hrs hrt hi0 hz0 hzs hzb hcell
  have hsz : (Tryz.prog.info? 173).map (·.size) = some 2 := by kernel_rfl
  have HSZ := Lib.hid hsz; clear hsz
  have HV1 := Lib.hid (show w1.heap[vb]? = some (.cells ys.toArray 173 (0, 0)) from (HB1.out.block vb hvlt).trans HV.out)
  have hb4 : ¬ (n = i) := by omega
  have hb5 : ¬ (G = i) := by omega
  have hb7 : ¬ (G = i + 1) := by omega
  have hz2 : ¬ ((i : Int) = (n : Int)) := by omega
  have hz3 : (n : Int) < (n : Int) + 1 := by omega
  have htn : ((i : Int) + 1).toNat = i + 1 := by omega
  have hin : i ≤ n := by omega
  have hin1 : i ≤ n + 1 := by omega
  have hii : (i : Int) ≤ (n : Int) + 1 := by omega
  have hnd : n + 1 - (i + 1) = n - i := by omega
  have HA1 := Lib.hid (show ∀ j v, ys[j]? = some v → w1.cell? ((⟨vb, 0, none⟩ : Addr).add j) = some v from fun j v hj => by
    rw [hadd, Nat.zero_add, cell_of_row w1 vb _ _ _ (0, 0) HV1.out]
    simpa using hj)
  have HD1 := Lib.hid (show 1 = Nat.min 1 (n + 1 - i) by simp only [Nat.min_def]; split <;> omega)
  have HD2 := Lib.hid (show ys.length = 1 * 2 by rw [HYL.out])
  have HD3 := Lib.hid (show i * 2 + ys.length ≤ row.size by rw [HRS.out, HYL.out]; omega)
  go_enter Tryz.func146, Tryz.ntmps146
  go_wp2_with (first
    | (at_builtin; with_reducible refine Lib.wpList_append_run _ rfl (.tmp 34) (.tmp 39) 171 3 rfl _ _ rfl rfl _ _ (HR.out _) ?_)
    | (with_reducible refine wpList_copy_k rfl (.tmp 43) (.tmp 44) 171 171 rfl 173 2 Tryz.underlying171 HSZ.out w.heap.size (i * 2) (n + 1 - i) (G - i) ⟨vb, 0, none⟩ 1 1 rfl rfl row _ HROW.out ys 1 HD1.out HD2.out HA1.out HD3.out H1Y.out ?_; intro w2 hsp2))
  go_frame
  have hrow2 := hsp2.row
  obtain ⟨C1, hC1⟩ : ∃ C1 : Array Value, C1 = (row.toList.take (i * 2) ++ ys ++ row.toList.drop (i * 2 + ys.length)).toArray := ⟨_, rfl⟩
  rw [← hC1] at hrow2
  have HG2 := Lib.hid (show w2.drew.heap[w.heap.size]? = some (.cells C1 173 (0, 0)) from hrow2)
  have hOg : w2.drew.heap[g]? = some (.cells cur 173 (0, 0)) := by
    show w2.heap[g]? = _
    rw [hsp2.grown.block g (by rw [HS1.out]; omega) (fun h => by injection h with h; omega), HB1.out.block g hglt]
    exact HG.out
  have HOG := Lib.hid hOg
  have HB2 := Lib.hid (show Below w.heap.size w w2 from HB1.out.grown hsp2.grown (by rw [HS1.out]; omega) (fun k hk => by injection hk with hk; omega))
  have hsz2 : w2.heap.size = w.heap.size + 1 := hsp2.size.trans HS1.out
  have HSZ2 := Lib.hid hsz2
  have HCC := Lib.hid hC1
  have hC1s : C1.size = G * 2 := by
    rw [hC1]
    have := HRS.out; have := HYL.out; have := HD3.out
    simp only [List.size_toArray, List.length_append, List.length_take, List.length_drop, Array.length_toList]
    omega
  have HC1S := Lib.hid hC1s
  have hdl : (xs.drop (i * 2)).length = (n - i) * 2 := by rw [List.length_drop, HXL.out, Nat.sub_mul]
  have HE1 := Lib.hid (show ∀ j v, (xs.drop (i * 2))[j]? = some v → w2.drew.cell? ((⟨g, i * 2, none⟩ : Addr).add j) = some v from fun j v hj => by
    rw [hadd, cell_of_row w2.drew g _ _ _ (0, 0) HOG.out, ← cell_of_row w g _ _ _ (0, 0) HG.out]
    rw [List.getElem?_drop] at hj
    exact HCELL.out _ v hj)
  have HE2 := Lib.hid (show n - i = Nat.min (n - i) (n - i) by simp)
  have HE3 := Lib.hid hdl
  have HE4 := Lib.hid (show (i + 1) * 2 + (xs.drop (i * 2)).length ≤ C1.size by rw [hdl, HC1S.out]; omega)
  have HE5 := Lib.hid (show ∀ v ∈ xs.drop (i * 2), v.oneCell' = true from fun v hv => H1X.out v (List.mem_of_mem_drop hv))
  clear hsp2 hrow2 hC1 hC1s hdl hOg hsz2
  have hb1 : (0 : Int) ≤ (i : Int) + 1 := by omega
  have hw1 : IntKind.i64.wrap ((i : Int) + 1) = (i : Int) + 1 := by rw [IntKind.wrap_i64]; omega
  go_region_law (refine step_copy_k rfl (.tmp 50) (.tmp 53) 171 171 rfl 173 2 Tryz.underlying171 HSZ.out w.heap.size ((i + 1) * 2) (n - i) (G - (i + 1)) ⟨g, i * 2, none⟩ (n - i) (n - i) (by simp [Act.eval, Act.put]) (by simp [Act.eval, Act.put]) C1 _ HG2.out (xs.drop (i * 2)) (n - i) HE2.out HE3.out HE1.out HE4.out HE5.out ?_; intro w3 hsp3)
  clear hw1 hb1
  go_wp2
  go_ret
  have hbel : Below w.heap.size w w3 := (below_drewN HB2.out 1).grown hsp3.grown (by show w.heap.size ≤ w2.heap.size; rw [HSZ2.out]; omega) (fun k hk => by injection hk with hk; omega)
  refine ⟨_, rfl, ⟨?_, .inr ⟨w.heap.size, G, _, rfl, hbase, hsp3.row, by omega, by unfold maxLen; omega, ?_, ?_⟩⟩, ⟨hbel.os, hbel.tape, hbel.output, hbel.size, fun k hk _ => hbel.block k hk⟩, .inr ⟨_, rfl, Nat.le_refl _⟩⟩
  · simp only [List.length_append, List.length_take, List.length_drop, HXL.out, HYL.out]; omega
  · have := HC1S.out; have := HE3.out; have := HE4.out
    simp only [List.size_toArray, List.length_append, List.length_take, List.length_drop, Array.length_toList] at *; omega
  · have h := splice_grow row.toList xs ys (i * 2) 2 (n * 2) HRT.out HXL.out (by omega) HYL.out (by simp [HRS.out]; omega)
    rw [HCC.out]
    simp only
    rw [show (i + 1) * 2 = i * 2 + 2 by omega, show (n + 1) * 2 = n * 2 + 2 by omega]
    exact h

set_option maxHeartbeats 2000000 in
set_option maxRecDepth 100000 in
theorem insR_any (w : World) (base n i vb : Nat) (v : Value) (xs ys : List Value) (hi : i ≤ n) (hn : n ≤ 1000000) (hbase : base ≤ w.heap.size) (hown : w.ownsRow base 173 2 v n xs) (hyl : ys.length = 2)
    (hvb : w.heap[vb]? = some (.cells ys.toArray 173 (0, 0))) (hne : v.ownBlock ≠ some vb) (h1x : ∀ u ∈ xs, u.oneCell' = true) (h1y : ∀ u ∈ ys, u.oneCell' = true) :
    Calls Tryz.prog 146 #[v, .int .i64 i, .slice (some ⟨vb, 0, none⟩) 1 1] w (InsPost 173 2 base w v n i xs ys) := by
  have HXL := Lib.hid hown.1
  have HO := Lib.hid hown
  have HV := Lib.hid hvb; have HYL := Lib.hid hyl; have H1Y := Lib.hid h1y
  obtain ⟨i0, hi0, hz0, hzs, hzb⟩ := info_parts rg_info
  have HI := Lib.hid hi0; have HZ0 := Lib.hid hz0; have HZ1 := Lib.hid hzs; have HZ2 := Lib.hid hzb
  clear hi0 hz0 hzs hzb
  have HCEL := Lib.hid (show Cel w (vb + 1) 2 (some ⟨vb, 0, none⟩) 1 1 ys from ⟨by rw [HYL.out], Nat.le_refl _, by unfold maxLen; omega, fun _ => ⟨vb, 0, rfl, by omega, fun j u hj => by rw [Nat.zero_add, cell_of_row w vb _ _ _ (0, 0) HV.out]; simpa using hj⟩⟩)
  have done : ∀ (e : Ending) (w' : World) (v' : Value), e = .returned v' → n = i → w'.ownsRow base 173 2 v' (n + 1) (xs ++ ys) → w.grownBy w' v.ownBlock → (v'.ownBlock = v.ownBlock ∨ v'.ownBlock = some w.heap.size) → InsPost 173 2 base w v n i xs ys e w'   := fun e w' v' he hin h1 h2 h3 => by
    subst hin
    refine ⟨v', he, ?_, h2, h3.imp id fun h => ⟨_, h, Nat.le_refl _⟩⟩
    rw [List.take_of_length_le (by rw [HXL.out]; omega), List.drop_of_length_le (by rw [HXL.out]; omega), List.append_nil]
    exact h1
  have HDONE := Lib.hid done
  clear done
  rcases hown.2 with ⟨hnil, hn0⟩ | ⟨g, cap, cur, hv, hbg, hg, hnc, hm, hs, ht⟩
  · subst hnil hn0
    have h0 : i = 0 := by omega
    subst h0
    clear hown hvb hyl h1y h1x
    go_enter Tryz.func146, Tryz.ntmps146
    go_wp2_with (at_builtin; refine wpList_app (P := Tryz.prog) rfl (.tmp 23) (.tmp 24) 171 rfl 173 i0 _ 2 16 Tryz.underlying171 HI.out HZ0.out HZ1.out HZ2.out rfl (by decide) base _ 0 xs rfl HO.out (vb + 1) _ 1 1 ys rfl HCEL.out H1Y.out (by unfold maxLen; omega) (by omega) hbase ?_; intro v' w' ho' hg' hb')
    go_ret
    first | exact HDONE.out _ _ _ rfl rfl ho' hg' hb' | exact HDONE.out _ _ _ rfl trivial ho' hg' hb'
  · subst hv
    have hgv : g ≠ vb := fun e => hne (by rw [e]; rfl)
    by_cases hin : i = n
    · subst hin
      clear hown hvb hyl h1y h1x hg hs ht
      unfold maxLen at hm
      by_cases hcn : cap = i
      · subst hcn
        go_enter Tryz.func146, Tryz.ntmps146
        go_wp2_with (at_builtin; refine wpList_app (P := Tryz.prog) rfl (.tmp 23) (.tmp 24) 171 rfl 173 i0 _ 2 16 Tryz.underlying171 HI.out HZ0.out HZ1.out HZ2.out rfl (by decide) base _ cap xs rfl HO.out (vb + 1) _ 1 1 ys rfl HCEL.out H1Y.out (by unfold maxLen; omega) (by omega) hbase ?_; intro v' w' ho' hg' hb')
        go_ret
        first | exact HDONE.out _ _ _ rfl rfl ho' hg' hb' | exact HDONE.out _ _ _ rfl trivial ho' hg' hb'
      · go_enter Tryz.func146, Tryz.ntmps146
        go_wp2_with (at_builtin; refine wpList_app (P := Tryz.prog) rfl (.tmp 23) (.tmp 24) 171 rfl 173 i0 _ 2 16 Tryz.underlying171 HI.out HZ0.out HZ1.out HZ2.out rfl (by decide) base _ i xs rfl HO.out (vb + 1) _ 1 1 ys rfl HCEL.out H1Y.out (by unfold maxLen; omega) (by omega) hbase ?_; intro v' w' ho' hg' hb')
        go_ret
        first | exact HDONE.out _ _ _ rfl rfl ho' hg' hb' | exact HDONE.out _ _ _ rfl trivial ho' hg' hb'
    · by_cases hr : n + 1 ≤ cap
      · exact insR_room w base g cap n i vb cur xs ys (by omega) hr hm hn hbg hg hs ht HXL.out hyl hvb (Ne.symm hgv) h1x h1y
      · have hcn : cap = n := by omega
        subst hcn
        exact insR_grow w base g cap i vb cur xs ys (by omega) hn hbase hg hs ht HXL.out hyl hvb h1x h1y
end Go.Proofs.YtbejfgmdkmddnaaGreatDoor
namespace Go.Proofs.YtbejfgmdkmddnaaGreatDoor
open Go.RowKit

section
variable {P : Program}
theorem step_app_k {ops : Array Oper} {o : Oper} {a : Act} {w : World} {K : Act → World → Prop} {Q : Exit → Act → World → Prop} {E : Prop}
    (hgd : o.guard = none) (s x : Operand) (t : TypeId) (hop : o.op = Op.call { callee := Callee.builtin Builtin.append, args := #[s, x], argTypes := #[t, t] })
    (e : TypeId) (i : TypeInfo) (size : Nat) (h1 : P.underlying t = some (.slice e)) (h2 : P.info? e = some i) (h4 : i.size = size)
    (g n cap : Nat) (hs : a.eval s = .slice (some ⟨g, 0, none⟩) n cap) (cur : Array Value) (hg : w.heap[g]? = some (.cells cur e (0, 0)))
    (ad : Addr) (m c : Nat) (news : List Value) (hx : a.eval x = .slice (some ad) m c) (hn : news.length = m * size) (hc : ∀ j u, news[j]? = some u → w.cell? (ad.add j) = some u) (h1c : ∀ u ∈ news, u.oneCell' = true)
    (hroom : n + m ≤ cap) (hfit : n * size + news.length ≤ cur.size)
    (hK : ∀ w', Spliced w w' g (n * size) cur e news → K (a.put o.dst (.slice (some ⟨g, 0, none⟩) (n + m) cap)) w') :
    if Region.wanted o (yielded ops a.tmps) = true then Oper.wp P o a w K Q else E := by
  have hw : Region.wanted o (yielded ops a.tmps) = true := by simp [Region.wanted, hgd]
  rw [if_pos hw]
  subst h4
  have hrun := run_append_room (P := P) w t o.type e i h1 h2 g n cap cur hg ad m c news hn hc h1c hroom hfit
  unfold Oper.wp
  simp [execOp, hop, resolve, invoke, builtin, hs, hx, hrun, Result.andThen]
  have := spliced_setRow w g (n * i.size) cur e news hg
  refine hK _ ?_
  simpa using this

theorem wpList_clear_k {w : World} {ops : Array Oper} {rest : List Oper} {o : Oper} {a : Act} {Q : Exit → Act → World → Prop} (hgd : o.guard = none) (x : Operand) (t : TypeId)
    (ho : o.op = .call { callee := .builtin .clear, args := #[x], argTypes := #[t] }) (e : TypeId) (ht : P.underlying t = some (.slice e)) (z : Value) (hz : ∀ w, (zeroValue e).run P w = .ok z w)
    (g off cap : Nat) (hx : a.eval x = .slice (some ⟨g, off, none⟩) 1 cap) (cur : Array Value) (t' : TypeId) (hg : w.heap[g]? = some (.cells cur t' (0, 0))) (zs : List Value) (hzs : (Builtin.zeroCells z.cells 1).toList = zs)
    (hfit : off + zs.length ≤ cur.size) (h1 : ∀ u ∈ zs, u.oneCell' = true)
    (h : ∀ w', Spliced w w' g off cur t' zs → wpList P ops Q rest (a.put o.dst (.tuple #[])) w') : wpList P ops Q (o :: rest) a w := by
  refine wpList_plain hgd fun K hK => ?_
  have hst := run_storeCells_at P g off t' zs 0 cur w hg (by simpa using hfit) h1
  have hrun : (Builtin.clear_ #[t] o.type #[.slice (some ⟨g, off, none⟩) 1 cap]).run P w = .ok (.tuple #[]) (w.setRow g (cur.toList.take off ++ zs ++ cur.toList.drop (off + zs.length)).toArray) := by
    simp only [Nat.add_zero] at hst
    simp [Builtin.clear_, run_underlying ht, hz, hzs, hst]
  unfold Oper.wp
  simp [execOp, ho, resolve, invoke, builtin, hx, hrun, Result.andThen]
  have := spliced_setRow w g off cur t' zs hg
  refine hK _ _ (h _ ?_)
  simpa using this
end

def DelPost (w : World) (base : Nat) (v : Value) (n i : Nat) (xs : List Value) (r : Ending) (w' : World) : Prop :=
  ∃ v', r = .returned v' ∧ w'.ownsRow base 173 2 v' (n - 1) (xs.take (i * 2) ++ xs.drop ((i + 1) * 2)) ∧ w.grownBy w' v.ownBlock ∧ v'.ownBlock = v.ownBlock

theorem splice_del {α : Type} (cur xs zs : List α) (a s n : Nat) (hx : cur.take n = xs) (hxl : xs.length = n) (ha : a + s ≤ n) (hc : n ≤ cur.length) :
    (((cur.take a ++ xs.drop (a + s) ++ cur.drop (a + (xs.drop (a + s)).length)).take (n - s) ++ zs ++ (cur.take a ++ xs.drop (a + s) ++ cur.drop (a + (xs.drop (a + s)).length)).drop (n - s + zs.length)).take (n - s)) = xs.take a ++ xs.drop (a + s) := by
  have e1 : (cur.take a ++ xs.drop (a + s) ++ cur.drop (a + (xs.drop (a + s)).length)).take (n - s) = xs.take a ++ xs.drop (a + s) := by
    rw [List.take_left' (by simp; omega), take_at cur xs n a hx (by omega)]
  rw [e1, List.append_assoc, List.take_left' (by simp; omega)]

set_option maxHeartbeats 2000000 in
set_option maxRecDepth 100000 in
theorem delR_any (w : World) (base g cap n i : Nat) (cur : Array Value) (xs : List Value) (hi : i < n) (hnc : n ≤ cap) (hcap : cap ≤ maxLen) (hn : n ≤ 1000000) (hbg : base ≤ g)
    (hg : w.heap[g]? = some (.cells cur 173 (0, 0))) (hcs : cur.size = cap * 2) (hx : cur.toList.take (n * 2) = xs) (hxl : xs.length = n * 2) (h1x : ∀ u ∈ xs, u.oneCell' = true) :
    Calls Tryz.prog 145 #[.slice (some ⟨g, 0, none⟩) n cap, .int .i64 i, .int .i64 (i + 1 : Int)] w (DelPost w base (.slice (some ⟨g, 0, none⟩) n cap) n i xs) := by
  unfold maxLen at hcap
  have HG := Lib.hid hg; have HX := Lib.hid hx; have HXL := Lib.hid hxl; have HCS := Lib.hid hcs; have H1X := Lib.hid h1x
  clear hg hx hxl hcs h1x
  obtain ⟨i0, hi0, hz0, hzs, hzb⟩ := info_parts rg_info
  have HI := Lib.hid hi0; have HZ1 := Lib.hid hzs
  clear hi0 hz0 hzs hzb
  have hadd : ∀ (b o j : Nat), (⟨b, o, none⟩ : Addr).add j = ⟨b, o + j, none⟩ := fun b o j => by unfold Addr.add; split <;> simp_all
  have HADD := Lib.hid hadd
  clear hadd
  have hdl : (xs.drop ((i + 1) * 2)).length = (n - (i + 1)) * 2 := by rw [List.length_drop, HXL.out, Nat.sub_mul]
  have HC2 := Lib.hid hdl
  have HG1 := Lib.hid (show w.drew.heap[g]? = some (.cells cur 173 (0, 0)) from HG.out)
  have HC4 := Lib.hid (show ∀ v ∈ xs.drop ((i + 1) * 2), v.oneCell' = true from fun v hv => H1X.out v (List.mem_of_mem_drop hv))
  have HC3 := Lib.hid (show i * 2 + (xs.drop ((i + 1) * 2)).length ≤ cur.size by rw [hdl, HCS.out]; omega)
  have HC5 := Lib.hid (show i + (n - (i + 1)) ≤ cap by omega)
  have HS1 := Lib.hid (show ∀ o : Nat, (xs.drop ((i + 1) * 2) = [] ∨ o = (i + 1) * 2) → ∀ j v, (xs.drop ((i + 1) * 2))[j]? = some v → w.drew.cell? ((⟨g, o, none⟩ : Addr).add j) = some v from fun o ho j v hj => by
    rcases ho with ho | rfl
    · rw [ho] at hj; simp at hj
    have hlt : (i + 1) * 2 + j < n * 2 := by
      rw [List.getElem?_drop] at hj
      have := (List.getElem?_eq_some_iff.1 hj).1
      rw [HXL.out] at this; exact this
    rw [HADD.out]
    show w.cell? _ = _
    rw [cell_of_row w g _ _ _ (0, 0) HG.out, ← Array.getElem?_toList]
    rw [List.getElem?_drop, ← HX.out, List.getElem?_take, if_pos hlt] at hj
    exact hj)
  have HZV := Lib.hid (show ∀ w, (zeroValue 173).run Tryz.prog w = .ok (.agg #[.int .i64 0, .int .i64 0]) w from fun w => by kernel_rfl)
  have HZL := Lib.hid (show (Builtin.zeroCells (Value.agg #[.int .i64 0, .int .i64 0]).cells 1).toList = [Value.int .i64 0, Value.int .i64 0] by simp [Builtin.zeroCells, Value.cells]; rfl)
  have HZO := Lib.hid (show ∀ u ∈ [Value.int .i64 0, Value.int .i64 0], u.oneCell' = true from by intro u hu; simp at hu; rw [hu]; rfl)
  have hz1 : ((i : Int) == (i : Int) + 1) = false := by simp; omega
  have hin : i ≤ n := by omega
  have hic : i ≤ cap := by omega
  have hlt1 : i + 1 ≤ n := by omega
  have hii : (i : Int) ≤ (i : Int) + 1 := by omega
  have hb4 : ¬ (cap = i) := by omega
  have hb5 : ¬ (cap = n - 1) := by omega
  have hnn : i + (n - (i + 1)) = n - 1 := by omega
  have htn : ((i : Int) + 1).toNat = i + 1 := by omega
  have hb1 : (0 : Int) ≤ (i : Int) + 1 := by omega
  have hb6 : (i : Int) + 1 ≤ (n : Int) := by omega
  by_cases hci : cap = i + 1
  · obtain rfl : n = i + 1 := by omega
    subst hci
    have hE : xs.drop ((i + 1) * 2) = [] := List.eq_nil_of_length_eq_zero (by rw [HC2.out]; omega)
    rw [hE] at *
    have HSS := Lib.hid (show ∀ j v, ([] : List Value)[j]? = some v → w.drew.cell? ((⟨g, 0, none⟩ : Addr).add j) = some v from fun j v hj => by simp at hj)
    have HOO := Lib.hid (show ∀ u ∈ ([] : List Value), u.oneCell' = true from fun u hu => by simp at hu)
    have HLL := Lib.hid (show ([] : List Value).length = 0 * 2 from rfl)
    have HRR := Lib.hid (show i + 0 ≤ i + 1 by omega)
    have HFF := Lib.hid (show i * 2 + ([] : List Value).length ≤ cur.size by rw [HCS.out]; simp; omega)
    clear hdl hb5 hnn HS1 HC4 HC2 HC3 HC5 hE
    have hi1 : ¬ (i + 1 = i) := by omega
    have hi2 : i + 1 - i = 1 := by omega
    have hi3 : i ≤ i + 1 := by omega
    go_enter Tryz.func145, Tryz.ntmps145
    go_wp2
    go_region_law (refine step_app_k rfl (.tmp 22) (.tmp 25) 171 rfl 173 i0 2 Tryz.underlying171 HI.out HZ1.out g i (i + 1) (by simp [Act.eval, Act.put]) cur HG1.out ⟨g, 0, none⟩ 0 0 [] (by simp [Act.eval, Act.put]) HLL.out HSS.out HOO.out HRR.out HFF.out ?_; intro w3 hsp3)
    clear hb1 hb6 htn
    have hrow3 := hsp3.row
    have e3 : (cur.toList.take (i * 2) ++ [] ++ cur.toList.drop (i * 2 + ([] : List Value).length)).toArray = cur := by simp
    rw [e3] at hrow3
    have HG3 := Lib.hid hrow3
    have HB3 := Lib.hid (show w.grownBy w3 (some g) from ⟨hsp3.grown.os, hsp3.grown.tape, hsp3.grown.output, hsp3.grown.size, hsp3.grown.block⟩)
    have HF := Lib.hid (show i * 2 + [Value.int .i64 0, Value.int .i64 0].length ≤ cur.size by rw [HCS.out]; simp; omega)
    clear hsp3 hrow3 e3
    go_wp2_with (with_reducible refine wpList_clear_k rfl (.tmp 31) 171 rfl 173 Tryz.underlying171 (.agg #[.int .i64 0, .int .i64 0]) HZV.out g (i * 2) 1 rfl cur _ HG3.out [.int .i64 0, .int .i64 0] HZL.out HF.out HZO.out ?_; intro w4 hsp4)
    go_wp2
    go_ret
    refine ⟨_, rfl, ⟨?_, .inr ⟨g, i + 1, _, rfl, hbg, hsp4.row, by omega, by unfold maxLen; omega, ?_, ?_⟩⟩, HB3.out.andThen hsp4.grown (fun j hj => .inr hj), rfl⟩
    · simp only [List.length_append, List.length_take, List.length_drop, HXL.out]; omega
    · have := HCS.out; have := HF.out
      simp only [List.size_toArray, List.length_append, List.length_take, List.length_drop, Array.length_toList, List.length_cons, List.length_nil] at *; omega
    · have hE : xs.drop ((i + 1) * 2) = [] := List.eq_nil_of_length_eq_zero (by rw [List.length_drop, HXL.out]; omega)
      rw [hE, List.append_nil, Nat.add_sub_cancel, List.append_assoc]
      simp only
      rw [List.take_left' (by simp [HCS.out] <;> omega), take_at cur.toList xs ((i + 1) * 2) (i * 2) HX.out (by omega)]
  · go_enter Tryz.func145, Tryz.ntmps145
    go_wp2
    go_region_law (refine step_app_k rfl (.tmp 22) (.tmp 25) 171 rfl 173 i0 2 Tryz.underlying171 HI.out HZ1.out g i cap (by simp [Act.eval, Act.put]) cur HG1.out ⟨g, (i + 1) * 2, none⟩ (n - (i + 1)) (cap - (i + 1)) (xs.drop ((i + 1) * 2)) (by simp [Act.eval, Act.put]) HC2.out (HS1.out _ (.inr rfl)) HC4.out HC5.out HC3.out ?_; intro w3 hsp3)
    clear hb1 hb6 htn
    have hrow3 := hsp3.row
    obtain ⟨C1, hC1⟩ : ∃ C1 : Array Value, C1 = (cur.toList.take (i * 2) ++ xs.drop ((i + 1) * 2) ++ cur.toList.drop (i * 2 + (xs.drop ((i + 1) * 2)).length)).toArray := ⟨_, rfl⟩
    rw [← hC1] at hrow3
    have HG3 := Lib.hid hrow3
    have HB3 := Lib.hid (show w.grownBy w3 (some g) from ⟨hsp3.grown.os, hsp3.grown.tape, hsp3.grown.output, hsp3.grown.size, hsp3.grown.block⟩)
    have HCC := Lib.hid hC1
    have hC1s : C1.size = cap * 2 := by
      rw [hC1]
      have := HCS.out; have := HC2.out; have := HC3.out
      simp only [List.size_toArray, List.length_append, List.length_take, List.length_drop, Array.length_toList, HXL.out] at *
      omega
    have HC1S := Lib.hid hC1s
    have HF := Lib.hid (show (n - 1) * 2 + [Value.int .i64 0, Value.int .i64 0].length ≤ C1.size by rw [hC1s]; simp; omega)
    clear hsp3 hrow3 hC1 hC1s
    have hlo : (((n - 1 : Nat)) : Int) ≤ (n : Int) := by omega
    have hn1 : n - (n - 1) = 1 := by omega
    go_wp2_with (with_reducible refine wpList_clear_k rfl (.tmp 31) 171 rfl 173 Tryz.underlying171 (.agg #[.int .i64 0, .int .i64 0]) HZV.out g ((n - 1) * 2) (cap - (n - 1)) rfl C1 _ HG3.out [.int .i64 0, .int .i64 0] HZL.out HF.out HZO.out ?_; intro w4 hsp4)
    go_wp2
    go_ret
    refine ⟨_, rfl, ⟨?_, .inr ⟨g, cap, _, rfl, hbg, hsp4.row, by omega, by unfold maxLen; omega, ?_, ?_⟩⟩, HB3.out.andThen hsp4.grown (fun j hj => .inr hj), rfl⟩
    · simp only [List.length_append, List.length_take, List.length_drop, HXL.out]; omega
    · have := HC1S.out; have := HF.out
      simp only [List.size_toArray, List.length_append, List.length_take, List.length_drop, Array.length_toList, List.length_cons, List.length_nil] at *; omega
    · have h := splice_del cur.toList xs [Value.int .i64 0, Value.int .i64 0] (i * 2) 2 (n * 2) HX.out HXL.out (by omega) (by simp [HCS.out]; omega)
      rw [HCC.out]
      simp only
      rw [show (i + 1) * 2 = i * 2 + 2 by omega, show (n - 1) * 2 = n * 2 - 2 by omega]
      exact h
end Go.Proofs.YtbejfgmdkmddnaaGreatDoor
