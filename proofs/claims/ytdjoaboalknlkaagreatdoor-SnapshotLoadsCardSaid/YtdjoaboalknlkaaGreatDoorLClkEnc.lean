/-
  Layer 6: Sources.
  strconv.AppendInt, strconv.Atoi, as these proofs use them.
  Layer 6: a clock's bytes: a line of Encode.
-/
import Derived.Test.YtdjoaboalknlkaaGreatDoorLClkTold
import Derived.Test.YtdjoaboalknlkaaGreatDoorLGnB
import Derived.Test.YtdjoaboalknlkaaGreatDoorLByBox
import Derived.Test.YtdjoaboalknlkaaGreatDoorLShelf
import Derived.Lib.ItoaLen
import Derived.Test.YtdjoaboalknlkaaGreatDoorLPtClk
import Derived.Lib.AppendZeros
namespace Go.Proofs.YtdjoaboalknlkaaGreatDoor
open Go.RowKit Go.Maps Go.Sort Go.Shelf

set_option maxHeartbeats 2000000 in
theorem clksrc_any (w : World) (bc bm : Nat) (c : Clk) (h : ClockAt w bc bm c) (hml : c.src.length ≤ 100000) : Calls Tryz.prog 82 #[.pointer (some ⟨bc, 0, none⟩)] w (SrcPost w (c.src.map (·.1))) := by
  have c0 := h.cells.c4
  obtain ⟨row, hrw⟩ : ∃ row : Row Value, row = srcRow c.src := ⟨_, rfl⟩
  have HD := Lib.hid (show w.ownsMap Tryz.prog 9 raw bm row.length (mapD row) by rw [hrw]; exact h.map)
  have hds : Maps.size (mapD row) = c.src.length := by rw [hrw]; simp [mapD, Maps.size, srcRow]
  have HRW := Lib.hid (show row.map (·.1) = c.src.map (·.1) by rw [hrw]; unfold srcRow; simp)
  clear hrw
  have HKR := Lib.hid (keys_rising h.ok.rising)
  have hnd : (c.src.map (·.1)).Nodup := (List.pairwise_map.2 (h.ok.rising.imp fun {a b} h e => by rw [e, bb_irrefl] at h; cases h))
  have HND := Lib.hid hnd
  clear h hnd
  refine (callsIn_wide (n := 6)).1 ?_
  have hfK : Fence.wide.fn 103 := trivial
  have hfS : Fence.wide.fn 85 := trivial
  refine callsIn_of_wp Tryz.func82 rfl trivial ?_ rfl
  simp only [Tryz.ntmps82, List.size_toArray, List.length_cons, List.length_nil, Nat.reduceAdd, Nat.reduceSub, Array.replicate_succ, Array.replicate_zero, List.push_toArray, List.append_toArray, List.nil_append, List.cons_append]
  have HDS := Lib.hid hds
  clear hds
  gi_wp2_with fail
  refine (Tryz.maps_Keys_103 _ _).mono ?_
  rintro e w2 ⟨rfl, rfl⟩
  gi_wp2_with fail
  refine (Tryz.slices_Sorted_keys_85_103 bm row.length (mapD row) raw w HD.out (by rw [HDS.out]; unfold maxLen; omega) (by rw [HDS.out]; omega)).mono ?_
  rintro e w3 ⟨v, ss, rfl, hS, hrow, hnil, hb3⟩
  clear c0
  gi_wp2_with fail
  go_ret
  rw [strKeys_mapD] at hS
  rw [HRW.out] at hS
  have hr := rising_sort (hS.nodup_iff.2 HND.out) (fun x => hS.mem_iff)
  have he := rising_unique hr HKR.out
  rw [he] at hrow
  have hl : ss.length = (c.src.map (·.1)).length := hS.length_eq
  rw [hl] at hrow
  refine ⟨v, rfl, ?_, ((Below.refl _ _).alloc (Nat.le_refl _) _).trans (hb3.mono (by simp))⟩
  refine ⟨hrow.1, ?_⟩
  rcases hrow.2 with ⟨e, hl⟩ | ⟨g, cap, cur, e, hb', hg, hrr⟩
  · exact .inl ⟨e, hl⟩
  · exact .inr ⟨g, cap, cur, e, by simp at hb'; omega, hg, hrr⟩
end Go.Proofs.YtdjoaboalknlkaaGreatDoor
namespace Go.Proofs.YtdjoaboalknlkaaGreatDoor
open Go.RowKit Go.Maps Go.Sort

theorem appint_any (w : World) (base : Nat) (v : Value) (l : List UInt8) (ho : OwnB w base v l) (hb : base ≤ w.heap.size) (n : Int) (h0 : -9223372036854775808 ≤ n) (h1 : n ≤ 9223372036854775807) (hl : l.length ≤ 1000000000) (htab : Lib.TabBelow Tryz.prog base w "internal/strconv.uint64pow10" .u64 Lib.pow10Tab) :
    Calls Tryz.prog 41 #[v, .int .i64 n, .int .i64 10] w fun e w' => ∃ v', e = .returned v' ∧ OwnB w' base v' (l ++ Lib.itoa n) ∧ Below base w w' ∧ Lib.OthersKept 5 none w w' := by
  refine (Tryz.strconv_AppendInt_10 base l.length n h0 h1 v (bvs l) w ho hb (by omega) htab).mono ?_
  rintro e w' ⟨v', rfl, hown, hB, hk⟩
  refine ⟨v', rfl, ?_, hB, hk⟩
  unfold OwnB
  rw [bvs_append, List.length_append]
  exact hown
end Go.Proofs.YtdjoaboalknlkaaGreatDoor
namespace Go.Proofs.YtdjoaboalknlkaaGreatDoor
open Go.RowKit Go.Maps Go.Sort

def LnRel (w : World) (base bx : Nat) (l : List UInt8) (ns : List Int) (i : Value) (wr : World) : Prop := ∃ (k : Nat) (v : Value), i = .int .i64 k ∧ k ≤ ns.length ∧ BxSt w base bx (l ++ numsB (ns.take k)) v wr
def LnPost (w : World) (base bx : Nat) (l : List UInt8) (e : Ending) (w' : World) : Prop := e = .returned (.tuple #[]) ∧ ∃ v, BxSt w base bx l v w'
set_option maxRecDepth 100000 in
set_option maxHeartbeats 4000000 in
theorem enline_any (w : World) (base bx bn : Nat) (l : List UInt8) (v : Value) (ho : OwnB w base v l) (hbox : w.heap[bx]? = some (byBox v)) (hbx : base ≤ bx) (s : List UInt8) (ns : List Int) (hn : w.heap[bn]? = some (.cells (ns.map (Value.int .i64)).toArray 3 (0, 0)))
    (hns : ∀ n ∈ ns, -9223372036854775808 ≤ n ∧ n ≤ 9223372036854775807) (hl : l.length + s.length + 22 * ns.length ≤ 100000000) (htab : Lib.TabBelow Tryz.prog base w "internal/strconv.uint64pow10" .u64 Lib.pow10Tab) :
    Calls Tryz.prog 81 #[.string ⟨s.toArray⟩, .slice (some ⟨bn, 0, none⟩) ns.length ns.length, .pointer (some ⟨bx, 0, none⟩)] w (LnPost w base bx (l ++ lineB s ns)) := by
  have hblt : bx < w.heap.size := (Array.getElem?_eq_some_iff.1 hbox).1
  have hbase : base ≤ w.heap.size := by omega
  have HST := Lib.hid (show BxSt w base bx l v w from ⟨ho, hbox, Below.refl _ _, Lib.OthersKept.refl _ _ _⟩)
  have HN := Lib.hid hn; have HNS := Lib.hid hns; have HT := Lib.hid htab
  have HLB := Lib.hid (show l ++ lineB s ns = l ++ s ++ numsB ns ++ [10] from by unfold lineB; simp)
  have HNL := Lib.hid (show ∀ k, (numsB (ns.take k)).length ≤ 22 * ns.length from fun k => by
    have h1 := numsB_len (ns.take k) fun n hn => hns n (List.mem_of_mem_take hn)
    have h2 : (ns.take k).length ≤ ns.length := by rw [List.length_take]; omega
    omega)
  have HNK := Lib.hid (show ∀ W, Lib.OthersKept 5 (some bx) w W → W.heap[bn]? = some (.cells (ns.map (Value.int .i64)).toArray 3 (0, 0)) from fun W hW => hW bn _ hn (fun e => by
    injection e with e; rw [e] at hn; rw [hbox] at hn; injection hn with hn; injection hn with _ hn; exact absurd hn (by decide)) (fun c fz e => by injection e with _ e; exact absurd e (by decide)))
  clear ho hbox hn hns htab
  obtain ⟨c0, f0⟩ := HST.out.cell
  obtain ⟨v1, w1, hr1, ho1, hg1⟩ := app_str1 w base v l s HST.out.own hbase (by omega) 22
  obtain ⟨A1, k1, rfl⟩ := ho1.formA
  have HR1 := Lib.hid hr1
  have HS1 := Lib.hid (HST.out.str hbase ho1 hg1 hbx)
  obtain ⟨c1, f1⟩ := HST.out.mid0 hg1
  clear hr1 ho1 hg1 HST
  go_enter Tryz.func81, Tryz.ntmps81
  go_wp2_with (at_builtin; refine Lib.wpList_append_run _ rfl (.tmp 7) (.tmp 8) _ _ rfl _ _ rfl rfl _ _ HR1.out ?_)
  clear c0 f0 c1 f1 HR1
  generalize w1.setCell ⟨bx, 0, none⟩ (.slice A1 (l.length + s.length) k1) = w2 at *
  have HR0 := Lib.hid (show LnRel w base bx (l ++ s) ns (.int .i64 ((0 : Nat) : Int)) w2 from ⟨0, _, rfl, Nat.zero_le _, by simpa [numsB] using HS1.out⟩)
  have HLS := Lib.hid (show (l ++ s).length = l.length + s.length from List.length_append)
  generalize l ++ s = L at *
  clear HS1
  go_wp2
  go_loopw [6, 12] (fun _ i wr => LnRel w base bx L ns i wr) (fun _ i _ => ns.length - (intOf i).toNat)
  case atStart => exact HR0.out
  case round =>
    obtain ⟨k, vk, rfl, hk, hst⟩ := hrel
    have HS := Lib.hid hst
    obtain ⟨c0, f0⟩ := hst.cell
    have hsr := hst.bel.size
    have hxl := hst.blt
    have HPL := Lib.hid (show (L ++ numsB (ns.take k)).length ≤ 100000000 from by have := HNL.out k; have := HLS.out; rw [List.length_append]; omega)
    clear hst HR0
    by_cases hkn : k < ns.length
    · have t1 : (k : Int) < ns.length := by omega
      have hnk := HNS.out ns[k] (List.getElem_mem hkn)
      have HTK := Lib.hid (numsB_take ns k hkn)
      have hcn : wr.cell? ⟨bn, k, none⟩ = some (.int .i64 ns[k]) := by
        rw [cell_of_row wr bn k _ _ (0, 0) (HNK.out wr HS.out.kept)]
        simp [hkn]
      have HL3 := Lib.hid (show (L ++ numsB (ns.take k)) ++ [32] ++ Lib.itoa ns[k] = L ++ numsB (ns.take (k + 1)) from by rw [HTK.out]; simp)
      clear HTK
      generalize L ++ numsB (ns.take k) = P at *
      generalize ns[k] = n at *
      have hpl := HPL.out
      go_wp2_with (at_builtin; refine wpList_app8 rfl (.tmp 16) (.tmp 17) rfl base _ P rfl ?c1 (wr.heap.size + 1) _ _ _ [32] rfl ?c2 ?c3 ?c4 ?_)
      case c1 => exact OwnB.alloc HS.out.own _
      case c2 => exact Byt.new wr _ _ [32] rfl 1 rfl (by unfold maxLen; omega)
      case c3 => first | omega | (simp; omega)
      case c4 => first | omega | (simp; omega)
      intro v2 w2 ho2 hg2 hv2
      obtain ⟨A2, k2, rfl⟩ := ho2.formS
      obtain ⟨c2, f2⟩ := HS.out.mid _ hg2
      have HS2 := Lib.hid (HS.out.app (by omega) _ ho2 hg2 hbx)
      clear ho2 hg2 c0 f0 HS hcn
      go_upto_region 5 with fail
      have HPL2 := Lib.hid (show (P ++ [32]).length = P.length + 1 from by simp)
      generalize P ++ [32] = P2 at *
      generalize w2.setCell ⟨bx, 0, none⟩ (.slice A2 (P.length + 1) k2) = w3 at *
      obtain ⟨c0, f0⟩ := HS2.out.cell
      have hs3 := HS2.out.bel.size
      have HAP := Lib.hid (appint_any w3 base _ P2 HS2.out.own (by omega) n (by omega) (by omega) (by have := HPL2.out; omega) (HT.out.on HS2.out.bel))
      clear c2 f2
      go_wp2_with fail
      refine HAP.out.mono ?_
      rintro r w4 ⟨v4, rfl, ho4, hb4, hk4⟩
      obtain ⟨A4, k4, rfl⟩ := ho4.formA
      obtain ⟨c4, f4⟩ := HS2.out.midK hk4
      have HS4 := Lib.hid (HS2.out.put ho4 hb4 hk4 hbx)
      rw [HL3.out] at HS4
      have HR4 := Lib.hid (show LnRel w base bx L ns (.int .i64 ((k + 1 : Nat) : Int)) _ from ⟨k + 1, _, rfl, hkn, HS4.out⟩)
      clear ho4 hb4 hk4 HS4 HAP
      go_wp2
      go_roundw
      case rel => exact HR4.out
      case measure => simp [intOf]; omega
    · have t1 : ¬ (k : Int) < ns.length := by omega
      have hkl : k = ns.length := by omega
      subst hkl
      rw [List.take_length] at HS HPL
      generalize L ++ numsB ns = P at *
      have hpl := HPL.out
      go_wp2_with (at_builtin; refine wpList_app8 rfl (.tmp 23) (.tmp 24) rfl base _ P rfl ?c1 (wr.heap.size + 1) _ _ _ [10] rfl ?c2 ?c3 ?c4 ?_)
      case c1 => exact OwnB.alloc HS.out.own _
      case c2 => exact Byt.new wr _ _ [10] rfl 1 rfl (by unfold maxLen; omega)
      case c3 => first | omega | (simp; omega)
      case c4 => first | omega | (simp; omega)
      intro v2 w2 ho2 hg2 hv2
      obtain ⟨A2, k2, rfl⟩ := ho2.formS
      obtain ⟨c2, f2⟩ := HS.out.mid _ hg2
      have HS2 := Lib.hid (HS.out.app (by omega) _ ho2 hg2 hbx)
      clear ho2 hg2 c0 f0 HS
      have HE := Lib.hid (show LnPost w base bx (P ++ [10]) (.returned (.tuple #[])) _ from ⟨rfl, _, HS2.out⟩)
      rw [HLB.out]
      go_wp2
      go_end0
      exact HE.out
end Go.Proofs.YtdjoaboalknlkaaGreatDoor
