/-
  A row of bytes in a box, that goes on: what a closure writes behind it.
  Layer 6: Sources.
  strconv.AppendInt, strconv.Atoi, as these proofs use them.
  Layer 6: a clock's bytes: a line of Encode.
  Layer 6: a clock's bytes: Encode.
-/
import Derived.Test.YtgbagjpokpchpaaGreatDoorRPnM
import Derived.Test.YtgbagjpokpchpaaGreatDoorRSearch
import Derived.Lib.OthersKept
import Derived.Lib.BufferKept
import Derived.Test.YtgbagjpokpchpaaGreatDoorROpenEvs
import Derived.Test.YtgbagjpokpchpaaGreatDoorRShelf
import Derived.Lib.ItoaLen
import Derived.Test.YtgbagjpokpchpaaGreatDoorRPtClk
import Derived.Lib.AppendZeros
import Derived.Test.YtgbagjpokpchpaaGreatDoorRClkHear
import Derived.Test.YtgbagjpokpchpaaGreatDoorRSets
import Derived.Test.YtgbagjpokpchpaaGreatDoorREvListing
import Derived.Deep.RegionHeld3
namespace Go.Proofs.YtgbagjpokpchpaaGreatDoor
open Go.RowKit Go.Maps Go.Sort

abbrev byBox (v : Value) : Obj := .cells #[v] 83
theorem OwnB.formS {w : World} {base : Nat} {v : Value} {l : List UInt8} {c : UInt8} (h : OwnB w base v (l ++ [c])) : ∃ A k, v = .slice A (l.length + 1) k := by
  obtain ⟨A, k, h⟩ := h.form; exact ⟨A, k, by simpa using h⟩
theorem OwnB.formA {w : World} {base : Nat} {v : Value} {l s : List UInt8} (h : OwnB w base v (l ++ s)) : ∃ A k, v = .slice A (l.length + s.length) k := by
  obtain ⟨A, k, h⟩ := h.form; exact ⟨A, k, by simpa using h⟩
/-- box bx holds a row that reads as l; of what was there but rows of bytes nothing has changed -/
structure BxSt (w : World) (base bx : Nat) (l : List UInt8) (v : Value) (W : World) : Prop where
  own : OwnB W base v l
  box : W.heap[bx]? = some (byBox v)
  bel : Below base w W
  kept : Lib.OthersKept 5 (some bx) w W
theorem OwnB.kind {w : World} {base : Nat} {v : Value} {l : List UInt8} (h : OwnB w base v l) : ∀ g, v.ownBlock = some g → base ≤ g ∧ ∃ c fz, w.heap[g]? = some (.cells c 5 fz) := fun g hg => by
  rcases h.2 with ⟨e, _⟩ | ⟨b, cap, cur, e, hb, hc, _⟩
  · rw [e] at hg; cases hg
  · rw [e] at hg; injection hg with hg; subst hg; exact ⟨hb, _, _, hc⟩
theorem OwnB.keepB9 {w w' : World} {base : Nat} {v : Value} {l : List UInt8} (h : OwnB w base v l) (hb : ∀ b, v.ownBlock = some b → w'.heap[b]? = w.heap[b]?) : OwnB w' base v l := by
  refine ⟨h.1, ?_⟩
  rcases h.2 with h' | ⟨g, cap, cur, rfl, hb', hg, hr⟩
  · exact .inl h'
  · exact .inr ⟨g, cap, cur, rfl, hb', (hb g rfl).trans hg, hr⟩
theorem bx_ne {W : World} {base bx : Nat} {l2 : List UInt8} {v v2 : Value} (hb : W.heap[bx]? = some (byBox v)) (ho : OwnB W base v2 l2) : v2.ownBlock ≠ some bx := fun e => by
  obtain ⟨_, c, fz, hc⟩ := ho.kind bx e
  rw [hb] at hc
  injection hc with hc; injection hc with _ hc; exact absurd hc (by decide)
theorem BxSt.blt {w W : World} {base bx : Nat} {l : List UInt8} {v : Value} (h : BxSt w base bx l v W) : bx < W.heap.size := (Array.getElem?_eq_some_iff.1 h.box).1
theorem BxSt.cell {w W : World} {base bx : Nat} {l : List UInt8} {v : Value} (h : BxSt w base bx l v W) : W.cell? ⟨bx, 0, none⟩ = some v ∧ W.frozen? ⟨bx, 0, none⟩ = false := ⟨(cell_of_row W bx 0 _ _ (0, 0) h.box).trans rfl, frozen_of_row W bx 0 _ _ h.box⟩
/-- the row has gone on, the box is written -/
theorem BxSt.put {w W W2 : World} {base bx : Nat} {l l2 : List UInt8} {v v2 : Value} (h : BxSt w base bx l v W) (ho : OwnB W2 base v2 l2) (hB : Below base W W2) (hk : Lib.OthersKept 5 none W W2) (hbx : base ≤ bx) : BxSt w base bx l2 v2 (W2.setCell ⟨bx, 0, none⟩ v2) := by
  have hb2 : W2.heap[bx]? = some (byBox v) := hk bx _ h.box (fun e => by cases e) (fun c fz e => by injection e with _ e; exact absurd e (by decide))
  have hne := bx_ne hb2 ho
  refine ⟨?_, by rw [heap_set_row hb2]; rfl, (h.bel.trans hB).setCell hbx _, ?_⟩
  · exact ho.keepB9 fun b hb => by
      have : b ≠ bx := fun e => hne (by rw [← e]; exact hb)
      rw [Below.heap_setCell _ _ _ _ this]
  · exact (h.kept.trans (fun k o hk1 _ ho1 => hk k o hk1 (fun e => by cases e) ho1)).setCell _ rfl _
/-- an append behind a new block, and the store -/
theorem BxSt.app {w W W2 : World} {base bx : Nat} {l l2 : List UInt8} {v v2 : Value} (h : BxSt w base bx l v W) (hsz : base ≤ W.heap.size) (o : Obj) (ho : OwnB W2 base v2 l2) (hg : (W.alloc o).grownBy W2 v.ownBlock) (hbx : base ≤ bx) : BxSt w base bx l2 v2 (W2.setCell ⟨bx, 0, none⟩ v2) := by
  have hk := h.own.kind
  have hal : OwnB (W.alloc o) base v l := OwnB.alloc h.own o
  refine h.put ho (Below.grown ((Below.refl base W).alloc hsz o) hg (by simp; omega) fun k hk1 => (hk k hk1).1) ?_ hbx
  exact ((Lib.OthersKept.refl _ _ W).alloc o).grown hg fun g hg1 => (hal.kind g hg1).2
theorem BxSt.str {w W W2 : World} {base bx : Nat} {l l2 : List UInt8} {v v2 : Value} (h : BxSt w base bx l v W) (hsz : base ≤ W.heap.size) (ho : OwnB W2 base v2 l2) (hg : W.grownBy W2 v.ownBlock) (hbx : base ≤ bx) : BxSt w base bx l2 v2 (W2.setCell ⟨bx, 0, none⟩ v2) := by
  have hk := h.own.kind
  refine h.put ho (Below.grown (Below.refl base W) hg hsz fun k hk1 => (hk k hk1).1) ?_ hbx
  exact (Lib.OthersKept.refl _ _ W).grown hg fun g hg1 => (hk g hg1).2
theorem app_str1 (w : World) (base : Nat) (v : Value) (l s : List UInt8) (ho : OwnB w base v l) (hb : base ≤ w.heap.size) (hl : l.length + s.length ≤ 1000000000000) (ty : TypeId) :
    ∃ v' w', (Builtin.append_ #[83, 9] ty #[v, .string ⟨s.toArray⟩]).run Tryz.prog w = .ok v' w' ∧ OwnB w' base v' (l ++ s) ∧ w.grownBy w' v.ownBlock := by
  obtain ⟨i0, hi, hz0, hz1, hz2⟩ := info_parts u8_info
  have hss : (⟨s.toArray⟩ : ByteArray).size = s.length := by simp [ByteArray.size]
  have hsc : Lib.strCells ⟨s.toArray⟩ = bvs s := by simp [Lib.strCells, bvs]
  obtain ⟨v', w', hr, h2, h3, _⟩ := Lib.run_append_own_string (P := Tryz.prog) w base 83 9 ty 5 i0 Tryz.underlying83 Tryz.underlying9 hi hz0 hz1 hz2 v l.length (bvs l) ho ⟨s.toArray⟩ (by rw [hss]; unfold maxLen; omega) (by rw [hss]; omega) hb
  refine ⟨v', w', hr, ?_, h3⟩
  unfold OwnB
  rw [bvs_append, List.length_append]
  rw [hss, hsc] at h2; exact h2
theorem BxSt.mid {w W W2 : World} {base bx : Nat} {l : List UInt8} {v : Value} (h : BxSt w base bx l v W) (o : Obj) (hg : (W.alloc o).grownBy W2 v.ownBlock) : W2.cell? ⟨bx, 0, none⟩ = some v ∧ W2.frozen? ⟨bx, 0, none⟩ = false := by
  have hb : W2.heap[bx]? = some (byBox v) := by
    refine (hg.block bx (by have := h.blt; simp; omega) (fun e => bx_ne h.box h.own e.symm)).trans ?_
    rw [Below.heap_alloc W o bx h.blt]; exact h.box
  exact ⟨(cell_of_row W2 bx 0 _ _ (0, 0) hb).trans rfl, frozen_of_row W2 bx 0 _ _ hb⟩
theorem BxSt.mid0 {w W W2 : World} {base bx : Nat} {l : List UInt8} {v : Value} (h : BxSt w base bx l v W) (hg : W.grownBy W2 v.ownBlock) : W2.cell? ⟨bx, 0, none⟩ = some v ∧ W2.frozen? ⟨bx, 0, none⟩ = false := by
  have hb : W2.heap[bx]? = some (byBox v) := (hg.block bx h.blt (fun e => bx_ne h.box h.own e.symm)).trans h.box
  exact ⟨(cell_of_row W2 bx 0 _ _ (0, 0) hb).trans rfl, frozen_of_row W2 bx 0 _ _ hb⟩
theorem BxSt.midK {w W W2 : World} {base bx : Nat} {l : List UInt8} {v : Value} (h : BxSt w base bx l v W) (hk : Lib.OthersKept 5 none W W2) : W2.cell? ⟨bx, 0, none⟩ = some v ∧ W2.frozen? ⟨bx, 0, none⟩ = false := by
  have hb : W2.heap[bx]? = some (byBox v) := hk bx _ h.box (fun e => by cases e) (fun c fz e => by injection e with _ e; exact absurd e (by decide))
  exact ⟨(cell_of_row W2 bx 0 _ _ (0, 0) hb).trans rfl, frozen_of_row W2 bx 0 _ _ hb⟩
end Go.Proofs.YtgbagjpokpchpaaGreatDoor
namespace Go.Proofs.YtgbagjpokpchpaaGreatDoor
open Go.RowKit Go.Maps Go.Sort Go.Shelf

set_option maxHeartbeats 2000000 in
theorem clksrc_any (w : World) (bc bm : Nat) (c : Clk) (h : ClockAt w bc bm c) (hml : c.src.length ≤ 100000) : Calls Tryz.prog 122 #[.pointer (some ⟨bc, 0, none⟩)] w (SrcPost w (c.src.map (·.1))) := by
  have c0 := h.cells.c4
  obtain ⟨row, hrw⟩ : ∃ row : Row Value, row = srcRow c.src := ⟨_, rfl⟩
  have HD := Lib.hid (show w.ownsMap Tryz.prog 9 raw bm row.length (mapD row) by rw [hrw]; exact h.map)
  have hds : Maps.size (mapD row) = c.src.length := by rw [hrw]; simp [mapD, Maps.size, srcRow]
  have HRW := Lib.hid (show row.map (·.1) = c.src.map (·.1) by rw [hrw]; unfold srcRow; simp)
  clear hrw
  have HKR := Lib.hid (keys_rising h.ok.rising)
  have hnd : (c.src.map (·.1)).Nodup := (List.pairwise_map.2 (h.ok.rising.imp fun {a b} h e => by rw [e, bb_irrefl] at h; cases h))
  have HND := Lib.hid hnd
  clear h hnd
  refine (callsIn_wide (n := 6)).1 ?_
  have hfK : Fence.wide.fn 166 := trivial
  have hfS : Fence.wide.fn 33 := trivial
  refine callsIn_of_wp Tryz.func122 rfl trivial ?_ rfl
  simp only [Tryz.ntmps122, List.size_toArray, List.length_cons, List.length_nil, Nat.reduceAdd, Nat.reduceSub, Array.replicate_succ, Array.replicate_zero, List.push_toArray, List.append_toArray, List.nil_append, List.cons_append]
  have HDS := Lib.hid hds
  clear hds
  gi_wp2_with fail
  refine (Tryz.maps_Keys_166 _ _).mono ?_
  rintro e w2 ⟨rfl, rfl⟩
  gi_wp2_with fail
  refine (Tryz.slices_Sorted_keys_33_166 bm row.length (mapD row) raw w HD.out (by rw [HDS.out]; unfold maxLen; omega) (by rw [HDS.out]; omega)).mono ?_
  rintro e w3 ⟨v, ss, rfl, hS, hrow, hnil, hb3⟩
  clear c0
  gi_wp2_with fail
  go_ret
  rw [strKeys_mapD] at hS
  rw [HRW.out] at hS
  have hr := rising_sort (hS.nodup_iff.2 HND.out) (fun x => hS.mem_iff)
  have he := rising_unique hr HKR.out
  rw [he] at hrow
  have hl : ss.length = (c.src.map (·.1)).length := hS.length_eq
  rw [hl] at hrow
  refine ⟨v, rfl, ?_, ((Below.refl _ _).alloc (Nat.le_refl _) _).trans (hb3.mono (by simp))⟩
  refine ⟨hrow.1, ?_⟩
  rcases hrow.2 with ⟨e, hl⟩ | ⟨g, cap, cur, e, hb', hg, hrr⟩
  · exact .inl ⟨e, hl⟩
  · exact .inr ⟨g, cap, cur, e, by simp at hb'; omega, hg, hrr⟩
end Go.Proofs.YtgbagjpokpchpaaGreatDoor
namespace Go.Proofs.YtgbagjpokpchpaaGreatDoor
open Go.RowKit Go.Maps Go.Sort

theorem appint_any (w : World) (base : Nat) (v : Value) (l : List UInt8) (ho : OwnB w base v l) (hb : base ≤ w.heap.size) (n : Int) (h0 : -9223372036854775808 ≤ n) (h1 : n ≤ 9223372036854775807) (hl : l.length ≤ 1000000000) (htab : Lib.TabBelow Tryz.prog base w "internal/strconv.uint64pow10" .u64 Lib.pow10Tab) :
    Calls Tryz.prog 121 #[v, .int .i64 n, .int .i64 10] w fun e w' => ∃ v', e = .returned v' ∧ OwnB w' base v' (l ++ Lib.itoa n) ∧ Below base w w' ∧ Lib.OthersKept 5 none w w' := by
  refine (Tryz.strconv_AppendInt_10 base l.length n h0 h1 v (bvs l) w ho hb (by omega) htab).mono ?_
  rintro e w' ⟨v', rfl, hown, hB, hk⟩
  refine ⟨v', rfl, ?_, hB, hk⟩
  unfold OwnB
  rw [bvs_append, List.length_append]
  exact hown
end Go.Proofs.YtgbagjpokpchpaaGreatDoor
namespace Go.Proofs.YtgbagjpokpchpaaGreatDoor
open Go.RowKit Go.Maps Go.Sort

def LnRel (w : World) (base bx : Nat) (l : List UInt8) (ns : List Int) (i : Value) (wr : World) : Prop := ∃ (k : Nat) (v : Value), i = .int .i64 k ∧ k ≤ ns.length ∧ BxSt w base bx (l ++ numsB (ns.take k)) v wr
def LnPost (w : World) (base bx : Nat) (l : List UInt8) (e : Ending) (w' : World) : Prop := e = .returned (.tuple #[]) ∧ ∃ v, BxSt w base bx l v w'
set_option maxRecDepth 100000 in
set_option maxHeartbeats 4000000 in
theorem enline_any (w : World) (base bx bn : Nat) (l : List UInt8) (v : Value) (ho : OwnB w base v l) (hbox : w.heap[bx]? = some (byBox v)) (hbx : base ≤ bx) (s : List UInt8) (ns : List Int) (hn : w.heap[bn]? = some (.cells (ns.map (Value.int .i64)).toArray 3 (0, 0)))
    (hns : ∀ n ∈ ns, -9223372036854775808 ≤ n ∧ n ≤ 9223372036854775807) (hl : l.length + s.length + 22 * ns.length ≤ 100000000) (htab : Lib.TabBelow Tryz.prog base w "internal/strconv.uint64pow10" .u64 Lib.pow10Tab) :
    Calls Tryz.prog 120 #[.string ⟨s.toArray⟩, .slice (some ⟨bn, 0, none⟩) ns.length ns.length, .pointer (some ⟨bx, 0, none⟩)] w (LnPost w base bx (l ++ lineB s ns)) := by
  have hblt : bx < w.heap.size := (Array.getElem?_eq_some_iff.1 hbox).1
  have hbase : base ≤ w.heap.size := by omega
  have HST := Lib.hid (show BxSt w base bx l v w from ⟨ho, hbox, Below.refl _ _, Lib.OthersKept.refl _ _ _⟩)
  have HN := Lib.hid hn; have HNS := Lib.hid hns; have HT := Lib.hid htab
  have HLB := Lib.hid (show l ++ lineB s ns = l ++ s ++ numsB ns ++ [10] from by unfold lineB; simp)
  have HNL := Lib.hid (show ∀ k, (numsB (ns.take k)).length ≤ 22 * ns.length from fun k => by
    have h1 := numsB_len (ns.take k) fun n hn => hns n (List.mem_of_mem_take hn)
    have h2 : (ns.take k).length ≤ ns.length := by rw [List.length_take]; omega
    omega)
  have HNK := Lib.hid (show ∀ W, Lib.OthersKept 5 (some bx) w W → W.heap[bn]? = some (.cells (ns.map (Value.int .i64)).toArray 3 (0, 0)) from fun W hW => hW bn _ hn (fun e => by
    injection e with e; rw [e] at hn; rw [hbox] at hn; injection hn with hn; injection hn with _ hn; exact absurd hn (by decide)) (fun c fz e => by injection e with _ e; exact absurd e (by decide)))
  clear ho hbox hn hns htab
  obtain ⟨c0, f0⟩ := HST.out.cell
  obtain ⟨v1, w1, hr1, ho1, hg1⟩ := app_str1 w base v l s HST.out.own hbase (by omega) 83
  obtain ⟨A1, k1, rfl⟩ := ho1.formA
  have HR1 := Lib.hid hr1
  have HS1 := Lib.hid (HST.out.str hbase ho1 hg1 hbx)
  obtain ⟨c1, f1⟩ := HST.out.mid0 hg1
  clear hr1 ho1 hg1 HST
  go_enter Tryz.func120, Tryz.ntmps120
  go_wp2_with (at_builtin; refine Lib.wpList_append_run _ rfl (.tmp 7) (.tmp 8) _ _ rfl _ _ rfl rfl _ _ HR1.out ?_)
  clear c0 f0 c1 f1 HR1
  generalize w1.setCell ⟨bx, 0, none⟩ (.slice A1 (l.length + s.length) k1) = w2 at *
  have HR0 := Lib.hid (show LnRel w base bx (l ++ s) ns (.int .i64 ((0 : Nat) : Int)) w2 from ⟨0, _, rfl, Nat.zero_le _, by simpa [numsB] using HS1.out⟩)
  have HLS := Lib.hid (show (l ++ s).length = l.length + s.length from List.length_append)
  generalize l ++ s = L at *
  clear HS1
  go_wp2
  go_loopw [6, 12] (fun _ i wr => LnRel w base bx L ns i wr) (fun _ i _ => ns.length - (intOf i).toNat)
  case atStart => exact HR0.out
  case round =>
    obtain ⟨k, vk, rfl, hk, hst⟩ := hrel
    have HS := Lib.hid hst
    obtain ⟨c0, f0⟩ := hst.cell
    have hsr := hst.bel.size
    have hxl := hst.blt
    have HPL := Lib.hid (show (L ++ numsB (ns.take k)).length ≤ 100000000 from by have := HNL.out k; have := HLS.out; rw [List.length_append]; omega)
    clear hst HR0
    by_cases hkn : k < ns.length
    · have t1 : (k : Int) < ns.length := by omega
      have hnk := HNS.out ns[k] (List.getElem_mem hkn)
      have HTK := Lib.hid (numsB_take ns k hkn)
      have hcn : wr.cell? ⟨bn, k, none⟩ = some (.int .i64 ns[k]) := by
        rw [cell_of_row wr bn k _ _ (0, 0) (HNK.out wr HS.out.kept)]
        simp [hkn]
      have HL3 := Lib.hid (show (L ++ numsB (ns.take k)) ++ [32] ++ Lib.itoa ns[k] = L ++ numsB (ns.take (k + 1)) from by rw [HTK.out]; simp)
      clear HTK
      generalize L ++ numsB (ns.take k) = P at *
      generalize ns[k] = n at *
      have hpl := HPL.out
      go_wp2_with (at_builtin; refine wpList_app8 rfl (.tmp 16) (.tmp 17) rfl base _ P rfl ?c1 (wr.heap.size + 1) _ _ _ [32] rfl ?c2 ?c3 ?c4 ?_)
      case c1 => exact OwnB.alloc HS.out.own _
      case c2 => exact Byt.new wr _ _ [32] rfl 1 rfl (by unfold maxLen; omega)
      case c3 => first | omega | (simp; omega)
      case c4 => first | omega | (simp; omega)
      intro v2 w2 ho2 hg2 hv2
      obtain ⟨A2, k2, rfl⟩ := ho2.formS
      obtain ⟨c2, f2⟩ := HS.out.mid _ hg2
      have HS2 := Lib.hid (HS.out.app (by omega) _ ho2 hg2 hbx)
      clear ho2 hg2 c0 f0 HS hcn
      go_upto_region 5 with fail
      have HPL2 := Lib.hid (show (P ++ [32]).length = P.length + 1 from by simp)
      generalize P ++ [32] = P2 at *
      generalize w2.setCell ⟨bx, 0, none⟩ (.slice A2 (P.length + 1) k2) = w3 at *
      obtain ⟨c0, f0⟩ := HS2.out.cell
      have hs3 := HS2.out.bel.size
      have HAP := Lib.hid (appint_any w3 base _ P2 HS2.out.own (by omega) n (by omega) (by omega) (by have := HPL2.out; omega) (HT.out.on HS2.out.bel))
      clear c2 f2
      go_wp2_with fail
      refine HAP.out.mono ?_
      rintro r w4 ⟨v4, rfl, ho4, hb4, hk4⟩
      obtain ⟨A4, k4, rfl⟩ := ho4.formA
      obtain ⟨c4, f4⟩ := HS2.out.midK hk4
      have HS4 := Lib.hid (HS2.out.put ho4 hb4 hk4 hbx)
      rw [HL3.out] at HS4
      have HR4 := Lib.hid (show LnRel w base bx L ns (.int .i64 ((k + 1 : Nat) : Int)) _ from ⟨k + 1, _, rfl, hkn, HS4.out⟩)
      clear ho4 hb4 hk4 HS4 HAP
      go_wp2
      go_roundw
      case rel => exact HR4.out
      case measure => simp [intOf]; omega
    · have t1 : ¬ (k : Int) < ns.length := by omega
      have hkl : k = ns.length := by omega
      subst hkl
      rw [List.take_length] at HS HPL
      generalize L ++ numsB ns = P at *
      have hpl := HPL.out
      go_wp2_with (at_builtin; refine wpList_app8 rfl (.tmp 23) (.tmp 24) rfl base _ P rfl ?c1 (wr.heap.size + 1) _ _ _ [10] rfl ?c2 ?c3 ?c4 ?_)
      case c1 => exact OwnB.alloc HS.out.own _
      case c2 => exact Byt.new wr _ _ [10] rfl 1 rfl (by unfold maxLen; omega)
      case c3 => first | omega | (simp; omega)
      case c4 => first | omega | (simp; omega)
      intro v2 w2 ho2 hg2 hv2
      obtain ⟨A2, k2, rfl⟩ := ho2.formS
      obtain ⟨c2, f2⟩ := HS.out.mid _ hg2
      have HS2 := Lib.hid (HS.out.app (by omega) _ ho2 hg2 hbx)
      clear ho2 hg2 c0 f0 HS
      have HE := Lib.hid (show LnPost w base bx (P ++ [10]) (.returned (.tuple #[])) _ from ⟨rfl, _, HS2.out⟩)
      rw [HLB.out]
      go_wp2
      go_end0
      exact HE.out
end Go.Proofs.YtgbagjpokpchpaaGreatDoor
namespace Go.Proofs.YtgbagjpokpchpaaGreatDoor
open Go.RowKit Go.Maps Go.Sort Go.Shelf

theorem ownsRow_keep {w w' : World} {base n size : Nat} {e : TypeId} {v : Value} {xs : List Value} (h : w.ownsRow base e size v n xs) (hb : ∀ b, v.ownBlock = some b → w'.heap[b]? = w.heap[b]?) : w'.ownsRow base e size v n xs := by
  refine ⟨h.1, ?_⟩
  rcases h.2 with h' | ⟨g, cap, cur, rfl, hb', hg, hr⟩
  · exact .inl h'
  · exact .inr ⟨g, cap, cur, rfl, hb', (hb g rfl).trans hg, hr⟩
theorem ownsRow_typ {w : World} {base n size : Nat} {e : TypeId} {v : Value} {xs : List Value} (h : w.ownsRow base e size v n xs) {b : Nat} (hb : v.ownBlock = some b) : ∃ cs, w.heap[b]? = some (.cells cs e (0, 0)) := by
  rcases h.2 with ⟨rfl, _⟩ | ⟨g, cap, cur, rfl, hb', hg, hr⟩
  · cases hb
  · injection hb with hb; subst hb; exact ⟨_, hg⟩
/-- what is no row of bytes, and not the box, is kept -/
theorem kept_at {w W : World} {bx k : Nat} {o : Obj} (h : Lib.OthersKept 5 (some bx) w W) (ho : w.heap[k]? = some o) (h1 : k ≠ bx) (h2 : ∀ c fz, o ≠ .cells c 5 fz) : W.heap[k]? = some o :=
  h k o ho (fun e => by first | exact h1 (Option.some.inj e) | exact h1 (Option.some.inj e).symm) (fun c fz e => h2 c fz e)
theorem ClockAt.kept {w W : World} {bc bm bx : Nat} {c : Clk} (h : ClockAt w bc bm c) (hk : Lib.OthersKept 5 (some bx) w W) (h1 : bc ≠ bx) (h2 : bm ≠ bx) : ClockAt W bc bm c := by
  refine h.keep ?_ ?_
  · rw [h.blk]; exact kept_at hk h.blk h1 (fun c fz e => nomatch e)
  · obtain ⟨es, cl, hm⟩ := h.map.isMap
    rw [hm]; exact kept_at hk hm h2 (fun c fz e => nomatch e)
theorem srcB_take (m : Row (Int × Int)) (k : Nat) (hk : k < m.length) : srcB (m.take (k + 1)) = srcB (m.take k) ++ lineB m[k].1 [m[k].2.1, m[k].2.2] := by
  rw [List.take_add_one, List.getElem?_eq_getElem hk, Option.toList_some, srcB_append]
  congr 1
  simp [srcB]
theorem lineB_len (s : List UInt8) (ns : List Int) (h : ∀ n ∈ ns, -9223372036854775808 ≤ n ∧ n ≤ 9223372036854775807) : (lineB s ns).length ≤ s.length + 22 * ns.length + 1 := by
  have := numsB_len ns h
  unfold lineB; simp; omega
theorem srcB_len {c : Clk} (h : ClkOk c) : ∀ k, (srcB (c.src.take k)).length ≤ 69 * k
  | 0 => by simp [srcB]
  | k + 1 => by
    have ih := srcB_len h k
    by_cases hk : k < c.src.length
    · rw [srcB_take _ _ hk, List.length_append]
      have hs := h.src _ (List.getElem_mem hk)
      have hn := h.now
      have h24 : (c.src[k]).1.length ≤ 24 := by have := hs.1; unfold nameB at this; simp at this; omega
      have := lineB_len (c.src[k]).1 [(c.src[k]).2.1, (c.src[k]).2.2] (by intro v hv; simp at hv; rcases hv with rfl | rfl <;> omega)
      simp only [List.length_cons, List.length_nil] at this
      omega
    · rw [List.take_of_length_le (by omega)] at ih ⊢; omega
def CeRel (ws : World) (base bx : Nat) (hd : List UInt8) (m : Row (Int × Int)) (i : Value) (wr : World) : Prop := ∃ (k : Nat) (v : Value), i = .int .i64 k ∧ k ≤ m.length ∧ BxSt ws base bx (hd ++ srcB (m.take k)) v wr
def CePost (w : World) (l : List UInt8) (e : Ending) (w' : World) : Prop := ∃ v, e = .returned v ∧ OwnB w' w.heap.size v l ∧ Below w.heap.size w w'
set_option maxRecDepth 100000 in
set_option maxHeartbeats 4000000 in
theorem clkenc_any (w : World) (bc bm : Nat) (c : Clk) (h : ClockAt w bc bm c) (hml : c.src.length ≤ 100000) (htab : Lib.TabBelow Tryz.prog w.heap.size w "internal/strconv.uint64pow10" .u64 Lib.pow10Tab) :
    Calls Tryz.prog 75 #[.pointer (some ⟨bc, 0, none⟩)] w (CePost w (encC c)) := by
  obtain ⟨o1, o2, o3, o4, o5, o6⟩ := h.ok
  have hblt := h.lt
  have hmlt := h.map.lt
  have hb1 : Below w.heap.size w (w.alloc (byBox (.slice none 0 0))) := (Below.refl _ _).alloc (Nat.le_refl _) _
  have HC1 := Lib.hid (h.up hb1)
  have HB1 := Lib.hid hb1
  have HX1 := Lib.hid (show (w.alloc (byBox (.slice none 0 0))).heap[w.heap.size]? = some (byBox (.slice none 0 0)) from heap_alloc_new w _)
  have hs1 : (w.alloc (byBox (.slice none 0 0))).heap.size = w.heap.size + 1 := by simp
  have HE := Lib.hid (show encC c = lineB [99, 108, 111, 99, 107] [c.slack, c.idle, c.now, c.mark] ++ srcB c.src from rfl)
  have HT := Lib.hid htab
  clear h hb1 htab o5 o6
  go_enter Tryz.func75, Tryz.ntmps75
  go_wp2
  go_upto_region 3 with fail
  generalize w.alloc (byBox (.slice none 0 0)) = w1 at *
  obtain ⟨c0, c1, c2, c3, c4, _, _⟩ := HC1.out.cells
  have hs2 : w.heap.size < w1.heap.size := by omega
  clear hs1
  have hbA : Below w1.heap.size w1 (w1.alloc (.cells #[.int .i64 c.slack, .int .i64 c.idle, .int .i64 c.now, .int .i64 c.mark] 3)).drew := below_drew ((Below.refl _ _).alloc (Nat.le_refl _) _)
  have HC3 := Lib.hid (HC1.out.up hbA)
  have HB3 := Lib.hid (HB1.out.trans (hbA.mono (by omega)))
  have HX3 := Lib.hid ((hbA.block _ (by omega)).trans HX1.out)
  have HN3 := Lib.hid (show ((w1.alloc (.cells #[.int .i64 c.slack, .int .i64 c.idle, .int .i64 c.now, .int .i64 c.mark] 3)).drew).heap[w1.heap.size]? = some (.cells ([c.slack, c.idle, c.now, c.mark].map (Value.int .i64)).toArray 3 (0, 0)) from heap_alloc_new w1 _)
  have hs3 := hbA.size
  clear hbA HC1 HX1
  have HLN := Lib.hid (enline_any (w1.alloc (.cells #[.int .i64 c.slack, .int .i64 c.idle, .int .i64 c.now, .int .i64 c.mark] 3)).drew w.heap.size w.heap.size w1.heap.size [] _ (OwnB.nil _ _) HX3.out (Nat.le_refl _) [99, 108, 111, 99, 107] [c.slack, c.idle, c.now, c.mark] HN3.out (by intro v hv; simp at hv; rcases hv with rfl | rfl | rfl | rfl <;> omega) (by simp) (HT.out.on HB3.out))
  simp only [List.nil_append] at HLN
  have HLN := Lib.hid (show Calls Tryz.prog 120 #[.string ⟨#[99, 108, 111, 99, 107]⟩, .slice (some ⟨w1.heap.size, 0, none⟩) 4 4, .pointer (some ⟨w.heap.size, 0, none⟩)] ((w1.alloc (.cells #[.int .i64 c.slack, .int .i64 c.idle, .int .i64 c.now, .int .i64 c.mark] 3)).drew) (LnPost ((w1.alloc (.cells #[.int .i64 c.slack, .int .i64 c.idle, .int .i64 c.now, .int .i64 c.mark] 3)).drew) w.heap.size w.heap.size (lineB [99, 108, 111, 99, 107] [c.slack, c.idle, c.now, c.mark])) from HLN.out)
  have HLL := Lib.hid (lineB_len [99, 108, 111, 99, 107] [c.slack, c.idle, c.now, c.mark] (by intro v hv; simp at hv; rcases hv with rfl | rfl | rfl | rfl <;> omega))
  simp only [List.length_cons, List.length_nil, Nat.zero_add, Nat.reduceAdd, Nat.reduceMul] at HLL
  generalize lineB [99, 108, 111, 99, 107] [c.slack, c.idle, c.now, c.mark] = hd at *
  go_region_held3 (fun W => W.cell? ⟨bc, 0, none⟩ = some (.int .i64 c.slack) ∧ W.cell? ⟨bc, 1, none⟩ = some (.int .i64 c.idle) ∧ W.cell? ⟨bc, 2, none⟩ = some (.int .i64 c.now) ∧ W.cell? ⟨bc, 3, none⟩ = some (.int .i64 c.mark)) (first | assumption | exact ⟨c0, c1, c2, c3⟩ | go_keep) ((go_at_call 120; (with_reducible refine HLN.out.mono ?_); rintro r w4 ⟨rfl, v4, h4⟩; have HC4 := Lib.hid (HC3.out.kept h4.kept (by omega) (by omega)); clear c0 c1 c2 c3 c4; obtain ⟨c0, c1, c2, c3, _, _, _⟩ := HC4.out.cells))
  clear c0 c1 c2 c3
  have HB4 := Lib.hid (HB3.out.trans h4.bel)
  have HX4 := Lib.hid h4.box
  have HO4 := Lib.hid h4.own
  have hs4 := h4.bel.size
  clear h4 HLN HC3 HB3 HX3 HN3
  generalize (w1.alloc (.cells #[.int .i64 c.slack, .int .i64 c.idle, .int .i64 c.now, .int .i64 c.mark] 3)).drew = w3 at *
  go_wp2_with fail
  with_reducible refine (clksrc_any w4 bc bm c HC4.out hml).mono ?_
  rintro r w5 ⟨v5, rfl, ho5, hb5⟩
  have hl5 : (c.src.map (·.1)).length = c.src.length := by simp
  obtain ⟨A5, k5, hv5⟩ := ownsRow_form ho5
  rw [hl5] at hv5
  have HO5 := Lib.hid ho5
  subst hv5
  have HC5 := Lib.hid (HC4.out.up hb5)
  have hxl : w.heap.size < w4.heap.size := (Array.getElem?_eq_some_iff.1 HX4.out).1
  have HS5 := Lib.hid (show BxSt w5 w.heap.size w.heap.size hd v4 w5 from ⟨HO4.out.below hb5 (Nat.le_refl _), (hb5.block _ hxl).trans HX4.out, Below.refl _ _, Lib.OthersKept.refl _ _ _⟩)
  have HB5 := Lib.hid (HB4.out.trans (hb5.mono (by omega)))
  have hs5 := hb5.size
  clear ho5 hb5 hl5 HC4 HX4 HO4
  have HR0 := Lib.hid (show CeRel w5 w.heap.size w.heap.size hd c.src (.int .i64 ((0 : Nat) : Int)) w5 from ⟨0, v4, rfl, Nat.zero_le _, by simpa [srcB] using HS5.out⟩)
  clear HS5
  go_wp2
  go_loopw [6, 30] (fun _ i wr => CeRel w5 w.heap.size w.heap.size hd c.src i wr) (fun _ i _ => c.src.length - (intOf i).toNat)
  case atStart => exact HR0.out
  case round =>
    obtain ⟨k, vk, rfl, hk, hst⟩ := hrel
    have HS := Lib.hid hst
    have hsr := hst.bel.size
    clear hst HR0
    have HCR := Lib.hid (HC5.out.kept HS.out.kept (by omega) (by omega))
    by_cases hkn : k < c.src.length
    · have t1 : (k : Int) < c.src.length := by omega
      have hmem := List.getElem_mem hkn
      have hso := HC5.out.ok.src _ hmem
      have hgb := getB_of_mem HC5.out.ok.rising (k := (c.src[k]).1) (v := (c.src[k]).2) hmem
      have HTK := Lib.hid (srcB_take c.src k hkn)
      have hlen := srcB_len HC5.out.ok k
      obtain ⟨g, hA5, hstr⟩ : ∃ g, A5 = some ⟨g, 0, none⟩ ∧ wr.cell? ⟨g, k, none⟩ = some (.string ⟨(c.src[k]).1.toArray⟩) := by
        have ho := HO5.out
        have hkb : ∀ b, (Value.slice A5 c.src.length k5).ownBlock = some b → wr.heap[b]? = w5.heap[b]? := fun b hb => by
          obtain ⟨cs, hcs⟩ := ownsRow_typ ho hb
          rw [hcs]
          exact kept_at HS.out.kept hcs (fun e => by
            have := (World.ownsRow.lt ho b hb).1
            omega) (fun c fz e => nomatch e)
        have ho2 := ownsRow_keep ho hkb
        have hl5 : (c.src.map (·.1)).length = c.src.length := by simp
        rw [hl5] at ho2
        obtain ⟨b, off, hA, _, hc⟩ := Strs.at_ (ss := c.src.map (·.1)) (Cel.of_own ho2) k (by simpa using hkn)
        rcases ho2.2 with ⟨e, _⟩ | ⟨g, cap, cur, e, _⟩
        · injection e with e; rw [e] at hA; cases hA
        · injection e with e
          rw [e] at hA; injection hA with hA; injection hA with h1 h2; subst h1 h2
          refine ⟨g, e, ?_⟩
          rw [Nat.zero_add] at hc
          rw [hc]; simp
      subst hA5
      have HL3 := Lib.hid (show hd ++ srcB (c.src.take k) ++ lineB (c.src[k]).1 [(c.src[k]).2.1, (c.src[k]).2.2] = hd ++ srcB (c.src.take (k + 1)) from by rw [HTK.out]; simp)
      have HPL := Lib.hid (show (hd ++ srcB (c.src.take k)).length ≤ 7000000 from by have := HLL.out; rw [List.length_append]; omega)
      clear HTK hlen hmem
      generalize hd ++ srcB (c.src.take k) = P at *
      generalize c.src[k] = p at *
      obtain ⟨nm, a, q⟩ := p
      dsimp only at hso hgb hstr HL3
      have hnm : nm.length ≤ 24 := by have := hso.1; unfold nameB at this; simp at this; omega
      have HLK := Lib.hid (show ∀ W, ClockAt W bc bm c → (Instr.lookup 130 (.map (some bm)) (.string ⟨nm.toArray⟩) false).run Tryz.prog W = .ok (.agg #[.int .i64 a, .int .i64 q]) W from fun W hW => by
        rw [look_src hW nm hnm, hgb]; rfl)
      clear hgb
      have hbA : Below wr.heap.size wr (wr.alloc (.cells #[.int .i64 a, .int .i64 q] 3)).drew := below_drew ((Below.refl _ _).alloc (Nat.le_refl _) _)
      have HCA := Lib.hid (HCR.out.up hbA)
      have HNA := Lib.hid (show ((wr.alloc (.cells #[.int .i64 a, .int .i64 q] 3)).drew).heap[wr.heap.size]? = some (.cells ([a, q].map (Value.int .i64)).toArray 3 (0, 0)) from heap_alloc_new wr _)
      have hxr := HS.out.blt
      have HLN := Lib.hid (enline_any ((wr.alloc (.cells #[.int .i64 a, .int .i64 q] 3)).drew) w.heap.size w.heap.size wr.heap.size P vk (HS.out.own.below hbA (Nat.le_refl _)) ((hbA.block _ hxr).trans HS.out.box) (Nat.le_refl _) nm [a, q] HNA.out (by intro v hv; simp at hv; rcases hv with rfl | rfl <;> omega) (by have := HPL.out; simp; omega) (HT.out.on ((HB5.out.trans HS.out.bel).trans (hbA.mono (by omega)))))
      have HLN := Lib.hid (show Calls Tryz.prog 120 #[.string ⟨nm.toArray⟩, .slice (some ⟨wr.heap.size, 0, none⟩) 2 2, .pointer (some ⟨w.heap.size, 0, none⟩)] ((wr.alloc (.cells #[.int .i64 a, .int .i64 q] 3)).drew) (LnPost ((wr.alloc (.cells #[.int .i64 a, .int .i64 q] 3)).drew) w.heap.size w.heap.size (P ++ lineB nm [a, q])) from HLN.out)
      rw [HL3.out] at HLN
      have HKA := Lib.hid (show Lib.OthersKept 5 (some w.heap.size) wr ((wr.alloc (.cells #[.int .i64 a, .int .i64 q] 3)).drew) from fun k o hk1 _ _ => (hbA.block k (Array.getElem?_eq_some_iff.1 hk1).1).trans hk1)
      have HBA := Lib.hid hbA
      obtain ⟨_, _, _, _, c4, _, _⟩ := HCR.out.cells
      have hlk := HLK.out wr HCR.out
      have hlkd := HLK.out wr.drew (HCR.out.up (below_drew (Below.refl _ _)))
      have hf0 : ∀ W, (Instr.field 135 (.agg #[.int .i64 a, .int .i64 q]) 0).run Tryz.prog W = .ok (.int .i64 a) W := fun _ => by kernel_rfl
      have hf1 : ∀ W, (Instr.field 135 (.agg #[.int .i64 a, .int .i64 q]) 1).run Tryz.prog W = .ok (.int .i64 q) W := fun _ => by kernel_rfl
      clear hbA
      go_wp2
      go_region_held3 (fun W => W.cell? ⟨bc, 4, none⟩ = some (.map (some bm)) ∧ (Instr.lookup 130 (.map (some bm)) (.string ⟨nm.toArray⟩) false).run Tryz.prog W = .ok (.agg #[.int .i64 a, .int .i64 q]) W) (first | assumption | exact ⟨c4, hlk⟩ | exact ⟨HCA.out.cells.c4, HLK.out _ HCA.out⟩ | go_keep) ((go_at_call 120; (with_reducible refine HLN.out.mono ?_); rintro r w9 ⟨rfl, v9, h9⟩; clear c4 hlk hlkd; have c4 := ((HCA.out.kept h9.kept (by omega) (by omega)).cells).c4; have hlk := HLK.out w9 (HCA.out.kept h9.kept (by omega) (by omega))))
      all_goals
        have HR9 := Lib.hid (show CeRel w5 w.heap.size w.heap.size hd c.src (.int .i64 ((k + 1 : Nat) : Int)) w9 from ⟨k + 1, v9, rfl, hkn, ⟨h9.own, h9.box, (HS.out.bel.trans ((HBA.out).mono (by omega))).trans h9.bel, (HS.out.kept.trans HKA.out).trans h9.kept⟩⟩)
        clear h9 hf0 hf1
        first
          | exact ⟨HR9.out, by simp [intOf]; omega⟩
          | (go_wp2; exact ⟨HR9.out, by simp [intOf]; omega⟩)
    · have t1 : ¬ (k : Int) < c.src.length := by omega
      have hkl : k = c.src.length := by omega
      have HE2 := Lib.hid (show hd ++ srcB (c.src.take k) = encC c from by rw [hkl, List.take_length, HE.out])
      rw [HE2.out] at HS
      obtain ⟨A9, k9, hv9⟩ := HS.out.own.form
      have HF := Lib.hid (show CePost w (encC c) (.returned vk) wr from ⟨vk, rfl, HS.out.own, HB5.out.trans HS.out.bel⟩)
      obtain ⟨c9, _⟩ := HS.out.cell
      subst hv9
      clear hkl
      go_wp2
      go_ret
      exact HF.out
end Go.Proofs.YtgbagjpokpchpaaGreatDoor
