/-
  Layer 2: the document's number, word.
  Layer 2: the document's Encode (written by wip/gen_rencode.py).
  Layer 5: the document's Digits, File.
  Layer 3: the document's Sum, num, value (ciceroneref03).
  Layer 3: the document's Seal (ciceroneref03).
  Layer 5: the document's Frame, Bytes.
  Layer 5: the document's Segment.
-/
import Derived.Test.YtejjfhhppjdcaaaGreatDoorOEvEnc2
import Derived.Test.YtejjfhhppjdcaaaGreatDoorOStepApp
import Derived.Deep.RegionHeld3
import Derived.Test.YtejjfhhppjdcaaaGreatDoorORJl1
import Derived.Test.YtejjfhhppjdcaaaGreatDoorOBytes
import Derived.Test.YtejjfhhppjdcaaaGreatDoorOFrmWalk
import Derived.Test.YtejjfhhppjdcaaaGreatDoorOJlRw1
namespace Go.Proofs.YtejjfhhppjdcaaaGreatDoor
open Go.RowKit Go.Maps Go.Sort

/-- a row of bytes of the call's own -/
def RowB (w : World) (l : List UInt8) (e : Ending) (w' : World) : Prop := ∃ v, e = .returned v ∧ OwnB w' w.heap.size v l ∧ RowKit.Below w.heap.size w w'
theorem own0 (w : World) : OwnB (w.alloc (.cells #[] 5)) w.heap.size (.slice (some ⟨w.heap.size, 0, none⟩) 0 0) [] :=
  ⟨rfl, .inr ⟨w.heap.size, 0, #[], rfl, Nat.le_refl _, heap_alloc_new w _, Nat.le_refl _, by unfold maxLen; omega, rfl, rfl⟩⟩
set_option maxRecDepth 100000 in
set_option maxHeartbeats 2000000 in
theorem rnumber_any (w : World) (n : Nat) (hn : n < 4611686018427387904) :
    Calls Tryz.prog 139 #[.int .i64 n] w (RowB w (numB n)) := by
  have hn8 := numB_len8 hn
  go_enter Tryz.func139, Tryz.ntmps139
  go_wp2
  go_loopw [0, 3] (fun q v wr => ∃ (m : Nat) (l : List UInt8), q = .int .i64 m ∧ m < 4611686018427387904 ∧ l ++ numB m = numB n ∧ OwnB wr w.heap.size v l ∧ RowKit.Below w.heap.size w wr) (fun q _ _ => (intOf q).toNat)
  case atStart => exact ⟨n, [], rfl, hn, rfl, own0 w, (Below.refl _ _).alloc (Nat.le_refl _) _⟩
  case round =>
    obtain ⟨q, l', rfl, hq, hL, ho, hb⟩ := hrel
    have HL := Lib.hid hL; have HO := Lib.hid ho; have HB := Lib.hid hb
    have hl' : l'.length ≤ 9 := by have := congrArg List.length hL; simp at this; omega
    clear hL ho hb
    have hsz := HB.out.size
    by_cases hlo : q < 128
    · have t1 : ¬ (127 : Int) < q := by omega
      have HN := Lib.hid (show numB n = l' ++ [UInt8.ofNat q] by rw [← HL.out, numB_lo hlo])
      go_wp2_with (at_builtin; refine wpList_app8 rfl (.tmp 16) (.tmp 19) rfl w.heap.size _ l' rfl ?c1 (wr.heap.size + 1) _ _ _ [UInt8.ofNat q] rfl ?c2 ?c3 ?c4 ?_)
      case c1 => exact OwnB.alloc HO.out _
      case c2 => exact Byt.new wr _ _ [UInt8.ofNat q] (by simp; omega) 1 rfl (by unfold maxLen; omega)
      case c3 => first | omega | (simp; omega)
      case c4 => first | omega | (simp; omega)
      intro v2 w2 ho2 hg2 hv2
      have HR := Lib.hid (show RowB w (numB n) (.returned v2) w2 from ⟨v2, rfl, by rw [HN.out]; exact ho2, Below.grown (HB.out.alloc HB.out.size _) hg2 (by simp; omega) (fun k' hk' => OwnB.lt HO.out k' hk')⟩)
      clear ho2 hg2 hv2
      go_wp2
      go_ret
      exact HR.out
    · have t1 : (127 : Int) < q := by omega
      have HN := Lib.hid (show (l' ++ [UInt8.ofNat (q % 128 + 128)]) ++ numB (q / 128) = numB n by rw [← HL.out, numB_hi hlo]; simp)
      obtain ⟨r, d, hr, hd, hr8, hdq⟩ : ∃ r d : Nat, r = q % 128 ∧ d = q / 128 ∧ r < 128 ∧ d < q := ⟨_, _, rfl, rfl, by omega, by omega⟩
      rw [← hr, ← hd, show UInt8.ofNat (r + 128) = UInt8.ofNat r + 128 by simp] at HN
      obtain ⟨e1, e2, e3, e4, e5⟩ : (q : Int).tmod 128 = (r : Int) ∧ (q : Int).tdiv 128 = (d : Int) ∧ IntKind.i64.wrap (d : Int) = (d : Int) ∧ IntKind.i64.wrap ((r : Int) + 128) = (r : Int) + 128 ∧ IntKind.u8.wrap ((r : Int) + 128) = (r : Int) + 128 := ⟨by rw [hr]; exact (Int.ofNat_tmod q 128).symm, by rw [hd]; exact (Int.ofNat_tdiv q 128).symm, IntWalk.i64_in _ (by omega), IntWalk.i64_in _ (by omega), by simp [IntKind.wrap, IntKind.bits, IntKind.signed]; omega⟩
      clear hr hd hlo
      go_wp2_with (at_builtin; refine wpList_app8 rfl (.tmp 7) (.tmp 12) rfl w.heap.size _ l' rfl ?c1 (wr.heap.size + 1) _ _ _ [UInt8.ofNat (r + 128)] rfl ?c2 ?c3 ?c4 ?_)
      case c1 => exact OwnB.alloc HO.out _
      case c2 =>
        have := Byt.new wr #[.int .u8 ((r : Int) + 128)] 5 [UInt8.ofNat (r + 128)] (by simp; omega) 1 rfl (by unfold maxLen; omega)
        exact this
      case c3 => first | omega | (simp; omega)
      case c4 => first | omega | (simp; omega)
      intro v2 w2 ho2 hg2 hv2
      have HB2 := Lib.hid (show RowKit.Below w.heap.size w w2 from Below.grown (HB.out.alloc HB.out.size _) hg2 (by simp; omega) (fun k' hk' => OwnB.lt HO.out k' hk'))
      have HO2 := Lib.hid ho2
      clear ho2 hg2 hv2
      go_wp2
      go_roundw
      case rel => exact ⟨d, _, rfl, by omega, HN.out, HO2.out, HB2.out⟩
      case measure => simp [intOf]; omega

set_option maxRecDepth 100000 in
set_option maxHeartbeats 2000000 in
theorem rword_any (w : World) (s : List UInt8) (hs : s.length ≤ 4096) :
    Calls Tryz.prog 138 #[.string ⟨s.toArray⟩] w (RowB w (textB s)) := by
  go_enter Tryz.func138, Tryz.ntmps138
  have ho : OwnB (w.alloc (.cells #[.int .u8 (IntKind.u8.wrap (s.length : Int))] 5)) w.heap.size (.slice (some ⟨w.heap.size, 0, none⟩) 1 1) [UInt8.ofNat s.length] := by
    refine ⟨rfl, .inr ⟨w.heap.size, 1, #[.int .u8 (IntKind.u8.wrap (s.length : Int))], rfl, Nat.le_refl _, heap_alloc_new w _, Nat.le_refl _, by unfold maxLen; omega, rfl, ?_⟩⟩
    simp [bvs, IntKind.wrap, IntKind.bits, IntKind.signed]
  obtain ⟨v6, w6, hr6, ho6, hg6, hv6⟩ := app_str _ w.heap.size _ [UInt8.ofNat s.length] s ho (by simp) (by simp) (by simp; omega) 41
  have HR6 := Lib.hid hr6
  have HM6 := Lib.hid (show RowB w (textB s) (.returned v6) w6 from ⟨v6, rfl, ho6, Below.grown ((Below.refl _ _).alloc (Nat.le_refl _) _) hg6 (by simp) (fun k' hk' => Nat.le_of_eq (Option.some.inj hk'))⟩)
  clear hr6 ho6 hg6 hv6 ho
  have e1 : IntKind.u8.wrap (s.length : Int) = ((s.length % 256 : Nat) : Int) := by simp [IntKind.wrap, IntKind.bits, IntKind.signed]
  rw [e1] at HR6
  go_wp2_with (at_builtin; refine Lib.wpList_append_run _ rfl (.tmp 6) (.tmp 7) _ _ rfl _ _ rfl rfl _ _ HR6.out ?_)
  go_wp2
  go_ret
  exact HM6.out
end Go.Proofs.YtejjfhhppjdcaaaGreatDoor
namespace Go.Proofs.YtejjfhhppjdcaaaGreatDoor
open Go.RowKit Go.Maps Go.Sort

theorem bvs_one (l : List UInt8) : ∀ u ∈ bvs l, u.oneCell' = true := fun u hu => by
  obtain ⟨x, _, rfl⟩ := List.mem_map.1 hu
  rfl
section
variable {w w' w2 : World} {be : Nat} {e : Ev} {v v2 : Value} {l l2 : List UInt8}
theorem EnM.upB (h : EnM w be e v l w') (hb : Below w'.heap.size w' w2) : EnM w be e v l w2 :=
  ⟨h.own.below hb (Nat.le_refl _), h.ne, h.ev.keepB (hb.block be h.lt), h.bel.trans (hb.mono h.bel.size), Nat.lt_of_lt_of_le h.lt hb.size, h.ge⟩
theorem EnM.grown (h : EnM w be e v l w') (ho : OwnB w2 w.heap.size v2 l2) (hg : w'.grownBy w2 v.ownBlock) (hv : v2.ownBlock = v.ownBlock ∨ v2.ownBlock = some w'.heap.size) : EnM w be e v2 l2 w2 := by
  refine ⟨ho, fun b hb => ?_, h.ev.keepB (hg.block be h.lt (fun hq => h.ne be hq.symm rfl)), Below.grown h.bel hg h.bel.size (fun k hk => h.own.lt k hk), Nat.lt_of_lt_of_le h.lt hg.size, h.ge⟩
  rcases hv with e1 | e1
  · exact h.ne b (e1 ▸ hb)
  · rw [e1] at hb; injection hb with hb; have := h.lt; omega
end
set_option maxRecDepth 100000 in
set_option maxHeartbeats 4000000 in
theorem rencode_any (w : World) (e : Ev) (hm : mayB e = true) : Calls Tryz.prog 109 #[e.agg] w (RowB w (encE e)) := by
  have hf := mayB_fit hm
  have HL := Lib.hid hf.len
  obtain ⟨a1, a2, a3, a4, a5, a6, a7, a8, a9, a10, a11, a12⟩ := hf
  have hE : encE e = UInt8.ofNat e.kind.toNat :: (textB e.src ++ numB e.num.toNat ++ numB e.at_.toNat ++ textB e.per ++ textB e.item ++ numB e.val.toNat ++ textB e.text) := rfl
  have HIN := Lib.hid (EvIn.new w e)
  have HB0 := Lib.hid (show Below w.heap.size w (w.alloc (evObj e)) from (Below.refl _ _).alloc (Nat.le_refl _) _)
  clear hm
  have hagg : e.agg = .agg #[.string ⟨e.src.toArray⟩, .int .i64 e.num, .int .i64 e.at_, .int .i64 e.kind, .string ⟨e.per.toArray⟩, .string ⟨e.item.toArray⟩, .int .i64 e.val, .string ⟨e.text.toArray⟩] := rfl
  obtain ⟨src, num, at_, kind, per, item, val, text⟩ := e
  simp only at *
  obtain ⟨n, rfl⟩ := Int.eq_ofNat_of_zero_le (show 0 ≤ num by omega)
  obtain ⟨a, rfl⟩ := Int.eq_ofNat_of_zero_le a7
  obtain ⟨k, rfl⟩ := Int.eq_ofNat_of_zero_le a11
  obtain ⟨vl, rfl⟩ := Int.eq_ofNat_of_zero_le a9
  simp only [Int.toNat_natCast] at hE
  obtain ⟨L1, hL1⟩ : ∃ l, l = [UInt8.ofNat k] ++ textB src := ⟨_, rfl⟩
  obtain ⟨L2, hL2⟩ : ∃ l, l = L1 ++ numB n := ⟨_, rfl⟩
  obtain ⟨L3, hL3⟩ : ∃ l, l = L2 ++ numB a := ⟨_, rfl⟩
  obtain ⟨L4, hL4⟩ : ∃ l, l = L3 ++ textB per := ⟨_, rfl⟩
  obtain ⟨L5, hL5⟩ : ∃ l, l = L4 ++ textB item := ⟨_, rfl⟩
  obtain ⟨L6, hL6⟩ : ∃ l, l = L5 ++ numB vl := ⟨_, rfl⟩
  obtain ⟨L7, hL7⟩ : ∃ l, l = L6 ++ textB text := ⟨_, rfl⟩
  have hEL : encE ⟨src, n, a, k, per, item, vl, text⟩ = L7 := by rw [hE, hL7, hL6, hL5, hL4, hL3, hL2, hL1]; simp
  rw [hEL] at HL ⊢
  have hlen := HL.out
  have e7 : L7.length = L6.length + (textB text).length := by rw [hL7]; simp
  have e6 : L6.length = L5.length + (numB vl).length := by rw [hL6]; simp
  have e5 : L5.length = L4.length + (textB item).length := by rw [hL5]; simp
  have e4 : L4.length = L3.length + (textB per).length := by rw [hL4]; simp
  have e3 : L3.length = L2.length + (numB a).length := by rw [hL3]; simp
  have e2 : L2.length = L1.length + (numB n).length := by rw [hL2]; simp
  have e1 : L1.length = 1 + (textB src).length := by rw [hL1]; simp; omega
  have H1 := Lib.hid hL1; have H2 := Lib.hid hL2; have H3 := Lib.hid hL3; have H4 := Lib.hid hL4; have H5 := Lib.hid hL5; have H6 := Lib.hid hL6; have H7 := Lib.hid hL7
  clear hL1 hL2 hL3 hL4 hL5 hL6 hL7 hE hEL HL
  rw [hagg]
  clear hagg
  obtain ⟨i0, hi, hz0, hz1, hz2⟩ := info_parts u8_info
  have HI := Lib.hid hi; have HZ0 := Lib.hid hz0; have HZ1 := Lib.hid hz1; have HZ2 := Lib.hid hz2
  clear hi hz0 hz1 hz2
  have hk : (k : Int) % 256 = (k : Int) := by omega
  go_enter Tryz.func109, Tryz.ntmps109
  go_upto_region 1 with fail
  have hs0 : (w.alloc (evObj ⟨src, n, a, k, per, item, vl, text⟩)).heap.size = w.heap.size + 1 := by simp
  generalize w.alloc (evObj ⟨src, n, a, k, per, item, vl, text⟩) = w0 at *
  obtain ⟨f0, f1, f2, f3, f4, f5, f6, f7⟩ := HIN.out
  simp only at f0 f3
  clear f1 f2 f4 f5 f6 f7
  have hbw : (bvs [UInt8.ofNat k]) = [.int .u8 (IntKind.u8.wrap (k : Int))] := by simp [bvs, IntKind.wrap, IntKind.bits, IntKind.signed]
  have HSS := Lib.hid (show ∀ W, Below w0.heap.size w0 W → (W.cell? ⟨w.heap.size, 3, none⟩ = some (.int .i64 k) ∧ W.cell? ⟨w.heap.size, 0, none⟩ = some (.string ⟨src.toArray⟩)) from fun W hW => ⟨(hW.cell (p := ⟨w.heap.size, 3, none⟩) (by show w.heap.size < _; omega)).trans f3, (hW.cell (p := ⟨w.heap.size, 0, none⟩) (by show w.heap.size < _; omega)).trans f0⟩)
  have HRW := Lib.hid (show ∀ W : World, w0.heap.size ≤ W.heap.size → OwnB (W.alloc (.cells #[.int .u8 (IntKind.u8.wrap (k : Int))] 5)).drew w.heap.size (.slice (some ⟨W.heap.size, 0, none⟩) 1 1) [UInt8.ofNat k] from fun W hW => by
    have := World.ownsRow_lit (base := w.heap.size) (e := 5) (size := 1) W #[.int .u8 (IntKind.u8.wrap (k : Int))] 1 (by omega) (by simp [maxLen]) rfl
    unfold OwnB
    rw [hbw]; exact this)
  have HA1 := Lib.hid (show Below w0.heap.size w0 (w0.alloc (.cells #[.int .u8 (IntKind.u8.wrap (k : Int))] 5)).drew from ((Below.refl _ _).alloc (Nat.le_refl _) _).drew)
  have HA2 := Lib.hid (show Below w0.heap.size w0 w0.drew from (Below.refl _ _).drew)
  clear hbw
  have HBW := Lib.hid (show ∀ W, Below w0.heap.size w0 W → EvIn W w.heap.size ⟨src, n, a, k, per, item, vl, text⟩ ∧ Below w.heap.size w W from fun W hW => ⟨HIN.out.keepB (hW.block _ (by omega)), HB0.out.trans (hW.mono (by omega))⟩)
  have HCA := Lib.hid (show Calls Tryz.prog 138 #[.string ⟨src.toArray⟩] (w0.alloc (.cells #[.int .u8 (IntKind.u8.wrap (k : Int))] 5)).drew (fun e w2 => ∃ A c, e = .returned (.slice A (textB src).length c) ∧ OwnB w2 0 (.slice A (textB src).length c) (textB src) ∧ Below w0.heap.size w0 w2 ∧ EnM w w.heap.size ⟨src, n, a, k, per, item, vl, text⟩ (.slice (some ⟨w.heap.size + 1, 0, none⟩) 1 1) [UInt8.ofNat k] w2) from (rword_any _ src (by omega)).mono fun e w2 ⟨v2, h1, ho2, hb2⟩ => by
    obtain ⟨A2, c2, rfl⟩ := ho2.form
    have hb := HA1.out.trans (hb2.mono HA1.out.size)
    have hs2 := hb.size
    have ho := OwnB.below (HRW.out w0 (Nat.le_refl _)) hb2 (Nat.le_refl _)
    rw [hs0] at ho
    exact ⟨A2, c2, h1, ho2.base_le (Nat.zero_le _), hb, ho, fun b hb e => by simp [Value.ownBlock] at hb; omega, (HBW.out _ hb).1, (HBW.out _ hb).2, by omega, Nat.le_refl _⟩)
  have HCB := Lib.hid (show Calls Tryz.prog 138 #[.string ⟨src.toArray⟩] w0.drew (fun e w2 => ∃ A c, e = .returned (.slice A (textB src).length c) ∧ OwnB w2 0 (.slice A (textB src).length c) (textB src) ∧ Below w0.heap.size w0 w2 ∧ EnM w w.heap.size ⟨src, n, a, k, per, item, vl, text⟩ (.slice (some ⟨w2.heap.size, 0, none⟩) 1 1) [UInt8.ofNat k] (w2.alloc (.cells #[.int .u8 (IntKind.u8.wrap (k : Int))] 5))) from (rword_any _ src (by omega)).mono fun e w2 ⟨v2, h1, ho2, hb2⟩ => by
    obtain ⟨A2, c2, rfl⟩ := ho2.form
    have hb := HA2.out.trans (hb2.mono HA2.out.size)
    have hs2 := hb.size
    have hb3 := hb.alloc hb.size (.cells #[.int .u8 (IntKind.u8.wrap (k : Int))] 5)
    exact ⟨A2, c2, h1, ho2.base_le (Nat.zero_le _), hb, HRW.out w2 hs2, fun b hb e => by simp [Value.ownBlock] at hb; omega, (HBW.out _ hb3).1, (HBW.out _ hb3).2, by simp; omega, Nat.le_refl _⟩)
  have htl : (textB src).length = src.length + 1 := by simp [textB]
  clear HA1 HA2 HRW HIN HB0 HBW
  go_region_held3 (fun wx => wx.cell? ⟨w.heap.size, 3, none⟩ = some (.int .i64 k) ∧ wx.cell? ⟨w.heap.size, 0, none⟩ = some (.string ⟨src.toArray⟩)) (first | assumption | go_keep) (first
    | (go_at_call 138; (with_reducible refine HCA.out.mono ?_); rintro r9 w2 ⟨A2, c2, rfl, ho2, hb2, hm2⟩; have HO2 := Lib.hid (Cel.of_own ho2); have HM2 := Lib.hid hm2; have hS2 := HSS.out w2 hb2; have hs2 := hb2.size; clear ho2 hb2 hm2)
    | (go_at_call 138; (with_reducible refine HCB.out.mono ?_); rintro r9 w2 ⟨A2, c2, rfl, ho2, hb2, hm2⟩; have HO2 := Lib.hid (Cel.alloc (Cel.of_own ho2) (Nat.le_refl _) (.cells #[.int .u8 (IntKind.u8.wrap (k : Int))] 5)); have HM2 := Lib.hid hm2; have hS2 := HSS.out w2 hb2; have hs2 := hb2.size; clear ho2 hb2 hm2)
    | (refine step_app rfl (.tmp 7) (.tmp 10) 41 rfl 5 i0 _ 1 1 Tryz.underlying41 HI.out HZ0.out HZ1.out HZ2.out rfl (by decide) w.heap.size _ 1 (bvs [UInt8.ofNat k]) rfl HM2.out.own w2.heap.size _ _ _ (bvs (textB src)) rfl HO2.out (bvs_one _) (by unfold maxLen; omega) (by omega) (by first | omega | (simp; omega)) ?_; intro va0 wa0 ho3 hg3 hv3; have HM := Lib.hid (HM2.out.grown (l2 := L1) (by rw [H1.out]; unfold OwnB; rw [bvs_append, List.length_append]; exact ho3) hg3 hv3); have hS3 : wa0.cell? ⟨w.heap.size, 3, none⟩ = some (.int .i64 k) ∧ wa0.cell? ⟨w.heap.size, 0, none⟩ = some (.string ⟨src.toArray⟩) := ⟨HM.out.ev.2.2.2.1, HM.out.ev.1⟩; clear ho3 hg3 hv3))
  all_goals
    clear f0 f3 HSS HCA HCB HO2 HM2 hS2 hS3 hs2 htl hs0
    clear HI HZ0 HZ1 HZ2
    obtain ⟨_, g1, _⟩ := HM.out.ev
    simp only at g1
    go_wp2_with fail
    with_reducible refine (rnumber_any wa0 n (by omega)).mono ?_
    rintro r wb0 ⟨u0, rfl, ho, hb⟩
    obtain ⟨A0, c0, rfl⟩ := ho.form
    have HY := Lib.hid ho.byt
    replace HM := Lib.hid (HM.out.upB hb)
    have hs1 := HM.out.bel.size
    clear ho hb g1
    go_wp2_with (at_builtin; refine wpList_app8 rfl (.tmp 12) (.tmp 15) rfl w.heap.size _ L1 rfl HM.out.own wb0.heap.size _ _ _ _ rfl HY.out (by omega) (by omega) ?_)
    intro va1 wa1 ho hg hv
    rw [← H2.out] at ho
    replace HM := Lib.hid (HM.out.grown ho hg hv)
    clear ho hg hv HY hs1
    obtain ⟨_, _, g2, _⟩ := HM.out.ev
    simp only at g2
    go_wp2_with fail
    with_reducible refine (rnumber_any wa1 a (by omega)).mono ?_
    rintro r wb1 ⟨u1, rfl, ho, hb⟩
    obtain ⟨A1, c1, rfl⟩ := ho.form
    have HY := Lib.hid ho.byt
    replace HM := Lib.hid (HM.out.upB hb)
    have hs2 := HM.out.bel.size
    clear ho hb g2
    go_wp2_with (at_builtin; refine wpList_app8 rfl (.tmp 17) (.tmp 20) rfl w.heap.size _ L2 rfl HM.out.own wb1.heap.size _ _ _ _ rfl HY.out (by omega) (by omega) ?_)
    intro va2 wa2 ho hg hv
    rw [← H3.out] at ho
    replace HM := Lib.hid (HM.out.grown ho hg hv)
    clear ho hg hv HY hs2
    obtain ⟨_, _, _, _, g4, _⟩ := HM.out.ev
    simp only at g4
    go_wp2_with fail
    with_reducible refine (rword_any wa2 per (by omega)).mono ?_
    rintro r wb2 ⟨u2, rfl, ho, hb⟩
    obtain ⟨A2, c2, rfl⟩ := ho.form
    have HY := Lib.hid ho.byt
    replace HM := Lib.hid (HM.out.upB hb)
    have hs3 := HM.out.bel.size
    clear ho hb g4
    go_wp2_with (at_builtin; refine wpList_app8 rfl (.tmp 22) (.tmp 25) rfl w.heap.size _ L3 rfl HM.out.own wb2.heap.size _ _ _ _ rfl HY.out (by omega) (by omega) ?_)
    intro va3 wa3 ho hg hv
    rw [← H4.out] at ho
    replace HM := Lib.hid (HM.out.grown ho hg hv)
    clear ho hg hv HY hs3
    obtain ⟨_, _, _, _, _, g5, _⟩ := HM.out.ev
    simp only at g5
    go_wp2_with fail
    with_reducible refine (rword_any wa3 item (by omega)).mono ?_
    rintro r wb3 ⟨u3, rfl, ho, hb⟩
    obtain ⟨A3, c3, rfl⟩ := ho.form
    have HY := Lib.hid ho.byt
    replace HM := Lib.hid (HM.out.upB hb)
    have hs4 := HM.out.bel.size
    clear ho hb g5
    go_wp2_with (at_builtin; refine wpList_app8 rfl (.tmp 27) (.tmp 30) rfl w.heap.size _ L4 rfl HM.out.own wb3.heap.size _ _ _ _ rfl HY.out (by omega) (by omega) ?_)
    intro va4 wa4 ho hg hv
    rw [← H5.out] at ho
    replace HM := Lib.hid (HM.out.grown ho hg hv)
    clear ho hg hv HY hs4
    obtain ⟨_, _, _, _, _, _, g6, _⟩ := HM.out.ev
    simp only at g6
    go_wp2_with fail
    with_reducible refine (rnumber_any wa4 vl (by omega)).mono ?_
    rintro r wb4 ⟨u4, rfl, ho, hb⟩
    obtain ⟨A4, c4, rfl⟩ := ho.form
    have HY := Lib.hid ho.byt
    replace HM := Lib.hid (HM.out.upB hb)
    have hs5 := HM.out.bel.size
    clear ho hb g6
    go_wp2_with (at_builtin; refine wpList_app8 rfl (.tmp 32) (.tmp 35) rfl w.heap.size _ L5 rfl HM.out.own wb4.heap.size _ _ _ _ rfl HY.out (by omega) (by omega) ?_)
    intro va5 wa5 ho hg hv
    rw [← H6.out] at ho
    replace HM := Lib.hid (HM.out.grown ho hg hv)
    clear ho hg hv HY hs5
    obtain ⟨_, _, _, _, _, _, _, g7⟩ := HM.out.ev
    simp only at g7
    go_wp2_with fail
    with_reducible refine (rword_any wa5 text (by omega)).mono ?_
    rintro r wb5 ⟨u5, rfl, ho, hb⟩
    obtain ⟨A5, c5, rfl⟩ := ho.form
    have HY := Lib.hid ho.byt
    replace HM := Lib.hid (HM.out.upB hb)
    have hs6 := HM.out.bel.size
    clear ho hb g7
    go_wp2_with (at_builtin; refine wpList_app8 rfl (.tmp 37) (.tmp 40) rfl w.heap.size _ L6 rfl HM.out.own wb5.heap.size _ _ _ _ rfl HY.out (by omega) (by omega) ?_)
    intro va6 wa6 ho hg hv
    rw [← H7.out] at ho
    replace HM := Lib.hid (HM.out.grown ho hg hv)
    clear ho hg hv HY hs6
    go_wp2
    go_ret
    exact ⟨_, rfl, HM.out.own, HM.out.bel⟩
end Go.Proofs.YtejjfhhppjdcaaaGreatDoor
namespace Go.Proofs.YtejjfhhppjdcaaaGreatDoor
open Go.RowKit Go.Maps Go.Sort

theorem dec_lo {n : Nat} (h : n < 10) (l : List UInt8) : Lib.decDigits n ++ l = (48 + UInt8.ofNat n) :: l := by
  rw [Lib.decDigits, dif_pos h]; simp
theorem dec_hi {n : Nat} (h : ¬ n < 10) (l : List UInt8) : Lib.decDigits n ++ l = Lib.decDigits (n / 10) ++ (48 + UInt8.ofNat (n % 10)) :: l := by
  rw [Lib.decDigits, dif_neg h, List.append_assoc]; simp
theorem str_cons (c : UInt8) (l : List UInt8) : (⟨#[c]⟩ : ByteArray) ++ ⟨l.toArray⟩ = ⟨(c :: l).toArray⟩ := str_app [c] l
set_option maxRecDepth 100000 in
set_option maxHeartbeats 2000000 in
theorem rdigits_any (w : World) (n : Nat) (hn : n < 100) :
    Calls Tryz.prog 72 #[.int .i64 n] w fun e w' => e = .returned (.string ⟨(Lib.decDigits n).toArray⟩) ∧ RowKit.Below w.heap.size w w' := by
  have kc := conv1
  go_enter Tryz.func72, Tryz.ntmps72
  go_wp2
  go_loopw [0, 3] (fun a b wr => ∃ (m : Nat) (l : List UInt8), a = .int .i64 m ∧ b = .string ⟨l.toArray⟩ ∧ l.length ≤ 2 ∧ m ≤ n ∧ Lib.decDigits m ++ l = Lib.decDigits n ∧ RowKit.Below w.heap.size w wr) (fun a _ _ => (intOf a).toNat)
  case atStart => exact ⟨n, [], rfl, rfl, by simp, Nat.le_refl _, by simp, RowKit.Below.refl _ _⟩
  case round =>
    obtain ⟨m, l, rfl, rfl, hln, hm, hl, hb⟩ := hrel
    have HB := Lib.hid hb; clear hb
    by_cases h9 : m < 10
    · have t1 : ¬ (9 : Int) < m := by omega
      have hl' := Lib.hid ((dec_lo h9 l).symm.trans hl)
      have e1 : IntKind.u8.wrap (48 + (m : Int)) = 48 + (m : Int) := by simp [IntKind.wrap, IntKind.bits, IntKind.signed]; omega
      clear hl
      go_wp2
      go_ret
      refine ⟨?_, HB.out.alloc HB.out.size _⟩
      exact congrArg (fun z : List UInt8 => Ending.returned (.string ⟨z.toArray⟩)) hl'.out
    · have t1 : (9 : Int) < m := by omega
      have hl' := Lib.hid ((dec_hi h9 l).symm.trans hl)
      obtain ⟨q, r, hq, hr, hqm, hr10⟩ : ∃ q r : Nat, q = m / 10 ∧ r = m % 10 ∧ q < m ∧ r < 10 := ⟨_, _, rfl, rfl, by omega, by omega⟩
      rw [← hq, ← hr] at hl'
      obtain ⟨e1, e2, e3, e4, e5⟩ : (m : Int).tmod 10 = (r : Int) ∧ (m : Int).tdiv 10 = (q : Int) ∧ IntKind.i64.wrap (q : Int) = (q : Int) ∧ IntKind.i64.wrap (48 + (r : Int)) = 48 + (r : Int) ∧ IntKind.u8.wrap (48 + (r : Int)) = 48 + (r : Int) := ⟨by rw [hr]; exact (Int.ofNat_tmod m 10).symm, by rw [hq]; exact (Int.ofNat_tdiv m 10).symm, IntWalk.i64_in _ (by omega), IntWalk.i64_in _ (by omega), by simp [IntKind.wrap, IntKind.bits, IntKind.signed]; omega⟩
      have HLL := Lib.hid (show ((48 + UInt8.ofNat r) :: l).length ≤ 2 from by
        have h1 := congrArg List.length hl'.out
        have h2 := (digits_two hn).2
        have h3 := Lib.decDigits n
        have h4 : 1 ≤ (Lib.decDigits q).length := List.length_pos_iff.2 (decDigits_ne q)
        rw [List.length_append] at h1; omega)
      clear hl hq hr h9
      go_wp2
      go_roundw
      case rel => exact ⟨q, _, by first | rfl | go_num, rfl, HLL.out, by omega, hl'.out, HB.out.alloc HB.out.size _⟩
      case measure => simp [intOf]; omega
set_option maxHeartbeats 2000000 in
theorem rfile_any (w : World) (s : List UInt8) (n : Nat) (hs : s.length ≤ 100) (hn : n < 100) :
    Calls Tryz.prog 28 #[.string ⟨s.toArray⟩, .int .i64 n] w fun e w' => e = .returned (.string ⟨(segF s n).toArray⟩) ∧ RowKit.Below w.heap.size w w' := by
  have HE := Lib.hid (show (⟨s.toArray⟩ : ByteArray) ++ ⟨#[46]⟩ ++ ⟨(Lib.decDigits n).toArray⟩ = ⟨(segF s n).toArray⟩ from by
    rw [show (⟨#[46]⟩ : ByteArray) = ⟨[46].toArray⟩ from rfl, str_app, str_app]; unfold segF; simp)
  have hd2 := (digits_two hn).2
  go_enter Tryz.func28, Tryz.ntmps28
  go_wp2_with fail
  refine (rdigits_any w n hn).mono ?_
  rintro e w1 ⟨rfl, hb⟩
  go_wp2
  go_ret
  exact ⟨by first | rfl | (rw [HE.out]; rfl) | (rw [HE.out]; done), hb⟩
end Go.Proofs.YtejjfhhppjdcaaaGreatDoor
namespace Go.Proofs.YtejjfhhppjdcaaaGreatDoor
open Go.RowKit

set_option maxHeartbeats 400000 in
theorem rsum_any (w : World) (l : List UInt8) (hn : l.length ≤ 1000000) :
    Calls Tryz.prog 141 #[.string ⟨l.toArray⟩] w fun e w' => e = .returned (.int .i64 (Frm.asum l)) ∧ w = w' := by
  go_enter Tryz.func141, Tryz.ntmps141
  go_wp2
  go_loop [3, 4, 5] (fun t s i => ∃ k : Nat, k ≤ l.length ∧ i = .int .i64 k ∧ t = .int .i64 (Frm.ad (l.take k)).1 ∧ s = .int .i64 (Frm.ad (l.take k)).2) (fun _ _ i => l.length - (intOf i).toNat)
  case atStart => exact ⟨0, Nat.zero_le _, rfl, rfl, rfl⟩
  case round =>
    obtain ⟨k, hk, rfl, rfl, rfl⟩ := hrel
    obtain ⟨hlt1, hlt2⟩ := Frm.ad_lt (l.take k)
    by_cases hkn : k < l.length
    · have HA := Lib.hid (Frm.ad_take l k hkn)
      have hb8 : ((⟨l.toArray⟩ : ByteArray)[k]'(by simpa [ByteArray.size] using hkn)).toNat < 256 := ((⟨l.toArray⟩ : ByteArray)[k]'(by simpa [ByteArray.size] using hkn)).toNat_lt
      have HE := Lib.hid (show ((⟨l.toArray⟩ : ByteArray)[k]'(by simpa [ByteArray.size] using hkn)).toNat = l[k].toNat from rfl)
      generalize h1 : (Frm.ad (l.take k)).1 = p at *
      generalize h2 : (Frm.ad (l.take k)).2 = q at *
      have H1 := Lib.hid h1; have H2 := Lib.hid h2; clear h1 h2
      go_wp2
      go_round
      case rel =>
        refine ⟨k + 1, by omega, by go_num, ?_, ?_⟩
        · rw [HA.out]; unfold Frm.adStep; rw [H1.out, ← HE.out]; go_num
        · rw [HA.out]; unfold Frm.adStep; rw [H1.out, H2.out, ← HE.out]; go_num
      case measure => simp [intOf]; omega
    · have hkk : l.take k = l := List.take_of_length_le (by omega)
      rw [hkk] at hlt1 hlt2 ⊢
      go_wp2
      go_ret
      refine ⟨ret_int ?_, rfl⟩
      unfold Frm.asum
      go_num

/-- a number of bytes, the highest first -/
def valB (l : List UInt8) : Nat := l.foldl (fun n c => n * 256 + c.toNat) 0
theorem valB_take (l : List UInt8) (k : Nat) (h : k < l.length) : valB (l.take (k + 1)) = valB (l.take k) * 256 + l[k].toNat := by
  unfold valB
  rw [List.take_add_one, List.getElem?_eq_getElem h, Option.toList_some, List.foldl_append]; rfl
theorem valB_lt (l : List UInt8) : valB l < 256 ^ l.length := by
  have key : ∀ (l : List UInt8) (a : Nat), l.foldl (fun n c => n * 256 + c.toNat) a < (a + 1) * 256 ^ l.length := by
    intro l
    induction l with
    | nil => intro a; simp
    | cons c l ih =>
      intro a
      have := ih (a * 256 + c.toNat)
      have hc := c.toNat_lt
      rw [List.foldl_cons, List.length_cons, Nat.pow_succ]
      refine Nat.lt_of_lt_of_le this ?_
      have : (a * 256 + c.toNat + 1) ≤ (a + 1) * 256 := by omega
      calc (a * 256 + c.toNat + 1) * 256 ^ l.length ≤ ((a + 1) * 256) * 256 ^ l.length := Nat.mul_le_mul_right _ this
        _ = (a + 1) * (256 ^ l.length * 256) := by rw [Nat.mul_assoc, Nat.mul_comm 256]
  have := key l 0
  simpa [valB] using this
theorem valB_small (l : List UInt8) (h : l.length ≤ 4) : valB l < 4294967296 :=
  Nat.lt_of_lt_of_le (valB_lt l) (by
    have : 256 ^ l.length ≤ 256 ^ 4 := Nat.pow_le_pow_right (by decide) h
    simpa using this)

/-- the lowest i bytes of a number -/
def lowB : Nat → Nat → List UInt8
  | 0, _ => []
  | i + 1, n => Frm.u8 (n / 256 ^ i) :: lowB i n
theorem lowB3 (n : Nat) : lowB 3 n = Frm.be3 n := by simp [lowB, Frm.be3]
theorem lowB4 (n : Nat) : lowB 4 n = Frm.be4 n := by simp [lowB, Frm.be4]

theorem lowB_length (i n : Nat) : (lowB i n).length = i := by
  induction i with
  | zero => rfl
  | succ i ih => simp [lowB, ih]
theorem u8_mod (x : Nat) : UInt8.ofNat (x % 256) = Frm.u8 x := by
  unfold Frm.u8
  apply UInt8.toNat_inj.1
  simp
set_option maxHeartbeats 400000 in
theorem num_any (w : World) (n s : Nat) (hn : n < 4294967296) (hs : s ≤ 4) :
    Calls Tryz.prog 140 #[.int .i64 n, .int .i64 s] w fun e w' => e = .returned (.string ⟨(lowB s n).toArray⟩) ∧ Below w.heap.size w w' := by
  have kc := conv1
  go_enter Tryz.func140, Tryz.ntmps140
  go_wp2
  go_loopw [0, 5, 6] (fun m t i wr => ∃ k : Nat, k ≤ s ∧ i = .int .i64 k ∧ m = .int .i64 (n / 256 ^ k : Nat) ∧ t = .string ⟨(lowB k n).toArray⟩ ∧ Below w.heap.size w wr) (fun _ _ i _ => s - (intOf i).toNat)
  case atStart => exact ⟨0, Nat.zero_le _, rfl, by simp, rfl, Below.refl _ _⟩
  case round =>
    obtain ⟨k, hk, rfl, rfl, rfl, hb⟩ := hrel
    have hdiv : n / 256 ^ k ≤ n := Nat.div_le_self _ _
    by_cases hkn : k < s
    · have HD := Lib.hid (show n / 256 ^ (k + 1) = n / 256 ^ k / 256 by rw [Nat.pow_succ, Nat.div_div_eq_div_mul])
      have HL := Lib.hid (show lowB (k + 1) n = Frm.u8 (n / 256 ^ k) :: lowB k n from rfl)
      generalize hx : n / 256 ^ k = x at *
      clear hx
      have hll : (lowB k n).length ≤ 4 := by rw [lowB_length]; omega
      go_wp2
      go_roundw
      case rel =>
        refine ⟨k + 1, by omega, by go_num, by rw [HD.out]; go_num, ?_, hb.alloc hb.size _⟩
        have := str_app [UInt8.ofNat (x % 256)] (lowB k n)
        rw [HL.out, ← u8_mod]
        exact congrArg Value.string this
      case measure => simp [intOf]; omega
    · obtain rfl : k = s := by omega
      go_wp2
      go_ret
      exact ⟨rfl, hb⟩
end Go.Proofs.YtejjfhhppjdcaaaGreatDoor
namespace Go.Proofs.YtejjfhhppjdcaaaGreatDoor
open Go.RowKit

theorem conv3d (w : World) (x y z : Int) : (convert 41 9 (.slice (some ⟨w.heap.size, 0, none⟩) 3 3)).run Tryz.prog (w.alloc (.cells #[.int .u8 x, .int .u8 y, .int .u8 z] 5)).drew =
    .ok (.string ⟨[UInt8.ofNat x.toNat, UInt8.ofNat y.toNat, UInt8.ofNat z.toNat].toArray⟩) (w.alloc (.cells #[.int .u8 x, .int .u8 y, .int .u8 z] 5)).drew := by
  have := run_convert_bytes_arg (P := Tryz.prog) (w.alloc (.cells #[.int .u8 x, .int .u8 y, .int .u8 z] 5)).drew 41 5 Tryz.underlying41 Tryz.underlying5 w.heap.size 0 3 3 [x, y, z] rfl (fun i hi => by
    show (w.alloc (.cells #[.int .u8 x, .int .u8 y, .int .u8 z] 5)).cell? _ = _
    rw [cell_of_row _ w.heap.size _ #[.int .u8 x, .int .u8 y, .int .u8 z] 5 (0, 0) (heap_alloc_new w _)]
    have : i = 0 ∨ i = 1 ∨ i = 2 := by omega
    rcases this with rfl | rfl | rfl <;> rfl) 9 Tryz.underlying9
  rw [this]
  simp [strOfNums]

theorem ofNat_255_sub (a : UInt8) : UInt8.ofNat (255 - a.toNat) = 255 - a := by
  apply UInt8.toNat_inj.1
  have := a.toNat_lt
  rw [Frm.sub255]
  simp
  omega

theorem rseal_long (w : World) (l : List UInt8) (hn : 65536 < l.length) (hm : l.length ≤ 1000000) :
    Calls Tryz.prog 110 #[.string ⟨l.toArray⟩] w fun e w' => e = .returned (.tuple #[.string ⟨#[]⟩, .bool false]) ∧ w = w' := by
  go_enter Tryz.func110, Tryz.ntmps110
  go_wp2
  go_ret2
  exact ⟨rfl, rfl⟩

set_option maxHeartbeats 1000000 in
theorem rseal_any (w : World) (l : List UInt8) (hn : l.length ≤ 65536) :
    Calls Tryz.prog 110 #[.string ⟨l.toArray⟩] w fun e w' => e = .returned (.tuple #[.string ⟨(Frm.sealB l).toArray⟩, .bool true]) ∧ Below w.heap.size w w' := by
  have kc := fun w x y z => conv3d w x y z
  have d1 : decide (65536 < (l.length : Int)) = false := decide_eq_false (by omega)
  go_enter Tryz.func110, Tryz.ntmps110
  go_wp2_with fail
  refine (num_any w l.length 3 (by omega) (by omega)).mono ?_
  rintro e w1 ⟨rfl, hb1⟩
  have hf : Frm.front l = [Frm.u8 (l.length / 65536), Frm.u8 (l.length / 256), Frm.u8 l.length] ++ [255 - Frm.u8 (l.length / 65536), 255 - Frm.u8 (l.length / 256), 255 - Frm.u8 l.length] ++ l := rfl
  rw [lowB3]
  unfold Frm.be3
  generalize Frm.u8 (l.length / 65536) = a at *
  generalize Frm.u8 (l.length / 256) = b at *
  generalize Frm.u8 l.length = c at *
  have HF := Lib.hid hf; clear hf
  have ha := a.toNat_lt; have hb := b.toNat_lt; have hc := c.toNat_lt
  have g0 : (⟨#[a, b, c]⟩ : ByteArray)[0]'(by show 0 < 3; decide) = a := rfl
  have g1 : (⟨#[a, b, c]⟩ : ByteArray)[1]'(by show 1 < 3; decide) = b := rfl
  have g2 : (⟨#[a, b, c]⟩ : ByteArray)[2]'(by show 2 < 3; decide) = c := rfl
  go_wp2_with fail
  go_region
  have hs : (⟨#[a, b, c]⟩ : ByteArray) ++ ⟨#[UInt8.ofNat (255 - a.toNat), UInt8.ofNat (255 - b.toNat), UInt8.ofNat (255 - c.toNat)]⟩ ++ ⟨l.toArray⟩ = ⟨(Frm.front l).toArray⟩ := by
    have e1 := str_app [a, b, c] [255 - a, 255 - b, 255 - c]
    have e2 := str_app ([a, b, c] ++ [255 - a, 255 - b, 255 - c]) l
    rw [HF.out, ← e2, ← e1, ofNat_255_sub, ofNat_255_sub, ofNat_255_sub]
  rw [hs]
  have hfl := Frm.front_length l
  have hlt := Frm.asum_lt (Frm.front l)
  have HFL := Lib.hid hfl
  have hfle : (Frm.front l).length ≤ 65542 := by omega
  clear hfl g0 g1 g2 kc hs
  have hb2 : Below w.heap.size w (w1.alloc (Obj.cells #[Value.int IntKind.u8 (255 - ↑a.toNat), Value.int IntKind.u8 (255 - ↑b.toNat), Value.int IntKind.u8 (255 - ↑c.toNat)] 5)).drew := (hb1.alloc hb1.size _).drew
  generalize (w1.alloc (Obj.cells #[Value.int IntKind.u8 (255 - ↑a.toNat), Value.int IntKind.u8 (255 - ↑b.toNat), Value.int IntKind.u8 (255 - ↑c.toNat)] 5)).drew = w2 at *
  go_wp2_with fail
  refine (rsum_any w2 (Frm.front l) (by omega)).mono ?_
  rintro e w3 ⟨rfl, rfl⟩
  go_wp2_with fail
  refine (num_any w2 (Frm.asum (Frm.front l)) 4 hlt (by omega)).mono ?_
  rintro e w3 ⟨rfl, hb3⟩
  rw [lowB4]
  have h4 : (Frm.be4 (Frm.asum (Frm.front l))).length = 4 := rfl
  go_wp2
  go_ret2
  refine ⟨?_, hb2.trans (hb3.mono hb2.size)⟩
  have := str_app (Frm.front l) (Frm.be4 (Frm.asum (Frm.front l)))
  unfold Frm.sealB
  rw [← this]
  rfl
end Go.Proofs.YtejjfhhppjdcaaaGreatDoor
namespace Go.Proofs.YtejjfhhppjdcaaaGreatDoor
open Go.RowKit Go.Maps Go.Sort

theorem strB {w : World} {B n c : Nat} {A : Option Addr} {l : List UInt8} (h : Byt w B A n c l) : (convert 41 9 (.slice A n c)).run Tryz.prog w = .ok (.string ⟨l.toArray⟩) w :=
  h.str (P := Tryz.prog) 41 5 9 Tryz.underlying41 Tryz.underlying5 Tryz.underlying9
abbrev rentObj (x : Option Ev) : Obj := .cells #[.string ⟨(entE x).src.toArray⟩, .int .i64 (entE x).num, .int .i64 (entE x).at_, .int .i64 (entE x).kind, .string ⟨(entE x).per.toArray⟩, .string ⟨(entE x).item.toArray⟩, .int .i64 (entE x).val, .string ⟨(entE x).text.toArray⟩, .bool x.isNone] 72
theorem REntIn.new (w : World) (x : Option Ev) : EntIn (w.alloc (rentObj x)) w.heap.size x := by
  have key : ∀ o, (w.alloc (rentObj x)).cell? ⟨w.heap.size, o, none⟩ = _ := fun o => cell_of_row _ w.heap.size o _ _ (0, 0) (heap_alloc_new w (rentObj x))
  exact ⟨(key 0).trans rfl, (key 1).trans rfl, (key 2).trans rfl, (key 3).trans rfl, (key 4).trans rfl, (key 5).trans rfl, (key 6).trans rfl, (key 7).trans rfl, (key 8).trans rfl⟩
/-- a text, and nothing that was is changed -/
def StrP (w : World) (l : List UInt8) (e : Ending) (w' : World) : Prop := e = .returned (.string ⟨l.toArray⟩) ∧ RowKit.Below w.heap.size w w'
set_option maxRecDepth 100000 in
set_option maxHeartbeats 2000000 in
theorem rframe_any (w : World) (x : Option Ev) (hx : ∀ e, x = some e → mayB e = true) : Calls Tryz.prog 77 #[entAgg x] w (StrP w (sealE x)) := by
  have hb0 : RowKit.Below w.heap.size w (w.alloc (rentObj x)) := (Below.refl _ _).alloc (Nat.le_refl _) _
  obtain ⟨f0, f1, f2, f3, f4, f5, f6, f7, f8⟩ := REntIn.new w x
  have HX := Lib.hid hx
  have HB0 := Lib.hid hb0
  clear hx hb0
  cases hxn : x.isNone
  · obtain ⟨e, rfl⟩ : ∃ e, x = some e := by cases x with
      | none => simp at hxn
      | some e => exact ⟨e, rfl⟩
    have hm := HX.out e rfl
    have HE := Lib.hid (show Frm.sealB (encE e) = sealE (some e) from rfl)
    have hel := (mayB_fit hm).len
    have HEN := Lib.hid (rencode_any (w.alloc (rentObj (some e))) e hm)
    have hagg : e.agg = .agg #[.string ⟨e.src.toArray⟩, .int .i64 e.num, .int .i64 e.at_, .int .i64 e.kind, .string ⟨e.per.toArray⟩, .string ⟨e.item.toArray⟩, .int .i64 e.val, .string ⟨e.text.toArray⟩] := rfl
    rw [hagg] at HEN
    simp only [entE, Option.getD_some] at *
    rw [hxn] at f8
    clear hagg hm HX
    go_enter Tryz.func77, Tryz.ntmps77
    go_wp2_with fail
    refine HEN.out.mono ?_
    rintro r w1 ⟨v1, rfl, ho1, hb1⟩
    have hbw1 : RowKit.Below w.heap.size w w1 := HB0.out.trans (hb1.mono HB0.out.size)
    obtain ⟨A1, c1, hv1⟩ := ho1.form
    subst hv1
    have kc := strB ho1.byt
    clear f0 f1 f2 f3 f4 f5 f6 f7 f8 ho1 hb1 HEN
    go_wp2_with fail
    with_reducible refine (rseal_any w1 (encE e) (by omega)).mono ?_
    rintro r w2 ⟨rfl, hb2⟩
    have HR := Lib.hid (show StrP w (sealE (some e)) (.returned (.string ⟨(Frm.sealB (encE e)).toArray⟩)) w2 from ⟨by rw [← HE.out], hbw1.trans (hb2.mono hbw1.size)⟩)
    clear hb2 kc
    go_wp2
    go_ret
    exact HR.out
  · obtain rfl : x = none := by cases x with
      | none => rfl
      | some e => simp at hxn
    have HE := Lib.hid (show Frm.sealB [] = sealE none from rfl)
    rw [hxn] at f8
    go_enter Tryz.func77, Tryz.ntmps77
    clear f0 f1 f2 f3 f4 f5 f6 f7
    go_wp2_with fail
    refine (rseal_any (w.alloc (rentObj none)) [] (by simp)).mono ?_
    rintro r w2 ⟨rfl, hb2⟩
    have HR := Lib.hid (show StrP w (sealE none) (.returned (.string ⟨(Frm.sealB []).toArray⟩)) w2 from ⟨by rw [← HE.out], HB0.out.trans (hb2.mono HB0.out.size)⟩)
    clear hb2
    go_wp2
    go_ret
    exact HR.out
theorem rsealE_len (x : Option Ev) (hx : ∀ e, x = some e → mayB e = true) : (sealE x).length ≤ 1239 := by
  have h : (bytesE x).length ≤ 1229 := by
    cases x with
    | none => simp [bytesE]
    | some e => have := (mayB_fit (hx e rfl)).len; simp only [bytesE]; omega
  have := Frm.sealB_length (bytesE x)
  unfold sealE; omega
theorem bytesL_len : ∀ (l : List (Option Ev)), (∀ e, some e ∈ l → mayB e = true) → (bytesL l).length ≤ 1239 * l.length
  | [], _ => by simp [bytesL]
  | x :: l, h => by
    have h1 := rsealE_len x (fun e he => h e (by simp [he]))
    have h2 := bytesL_len l (fun e he => h e (by simp [he]))
    have e1 : bytesL (x :: l) = sealE x ++ bytesL l := rfl
    rw [e1, List.length_append, List.length_cons]; omega
def RByRel (w : World) (l : List (Option Ev)) (s i : Value) (wr : World) : Prop := ∃ k : Nat, i = .int .i64 k ∧ k ≤ l.length ∧ s = .string ⟨(bytesL (l.take k)).toArray⟩ ∧ RowKit.Below w.heap.size w wr
set_option maxRecDepth 100000 in
set_option maxHeartbeats 4000000 in
theorem rbytes_any (w : World) (A : Option Addr) (n c : Nat) (l : List (Option Ev)) (h : Ents w w.heap.size A n c l) (hx : ∀ e, some e ∈ l → mayB e = true) (hn : n ≤ 1000) : Calls Tryz.prog 41 #[.slice A n c] w (StrP w (bytesL l)) := by
  have HH := Lib.hid h; have HX := Lib.hid hx
  have HL := Lib.hid h.len
  have HBL := Lib.hid (show ∀ k, (bytesL (l.take k)).length ≤ 1239 * 1000 from fun k => by
    have h1 := bytesL_len (l.take k) (fun e he => hx e (List.mem_of_mem_take he))
    have h2 : (l.take k).length ≤ 1000 := by rw [List.length_take]; have := h.len; omega
    exact Nat.le_trans h1 (Nat.mul_le_mul_left _ h2))
  clear h hx
  go_enter Tryz.func41, Tryz.ntmps41
  go_wp2
  go_loopw [3, 4] (fun s i wr => RByRel w l s i wr) (fun _ i _ => n - (intOf i).toNat)
  case atStart => exact ⟨0, rfl, Nat.zero_le _, rfl, Below.refl _ _⟩
  case round =>
    obtain ⟨k, rfl, hk, rfl, hb⟩ := hrel
    have HB := Lib.hid hb; clear hb
    have hkL : k ≤ n := by rw [← HL.out]; exact hk
    by_cases hkn : k < n
    · have hkl : k < l.length := by rw [HL.out]; exact hkn
      obtain ⟨b, off, rfl, hbb, hc⟩ := HH.out.at_ k hkl
      obtain ⟨e0, e1, e2, e3, e4, e5, e6, e7, e8⟩ := hc.below HB.out hbb
      have HT := Lib.hid (show bytesL (l.take (k + 1)) = bytesL (l.take k) ++ sealE l[k] by
        rw [List.take_add_one, List.getElem?_eq_getElem hkl, Option.toList_some, bytesL_append]; simp [bytesL])
      have HXK := Lib.hid (show ∀ e, l[k] = some e → mayB e = true from fun e he => HX.out e (he ▸ List.getElem_mem hkl))
      have hl1 := HBL.out k
      have hl2 := rsealE_len _ HXK.out
      generalize l[k] = x at *
      have t1 : (k : Int) < n := by omega
      go_wp2_with fail
      refine (rframe_any wr x HXK.out).mono ?_
      rintro r w2 ⟨rfl, hb2⟩
      have HB2 := Lib.hid (show RowKit.Below w.heap.size w w2 from HB.out.trans (hb2.mono HB.out.size))
      clear hb2 e0 e1 e2 e3 e4 e5 e6 e7 e8 hc
      have HST := Lib.hid (show RByRel w l (.string (⟨(bytesL (l.take k)).toArray⟩ ++ ⟨(sealE x).toArray⟩)) (.int .i64 ((k + 1 : Nat) : Int)) w2 from ⟨k + 1, rfl, by omega, by rw [str_app, HT.out], HB2.out⟩)
      generalize bytesL (l.take k) = p at *
      generalize sealE x = q at *
      go_wp2
      go_roundw
      case rel => exact HST.out
      case measure => simp [intOf]; omega
    · have t1 : ¬ (k : Int) < n := by omega
      have HZ := Lib.hid (show bytesL (l.take k) = bytesL l by rw [List.take_of_length_le (by rw [HL.out]; omega)])
      go_wp2
      go_ret
      exact ⟨by first | rfl | (rw [HZ.out]; rfl), HB.out⟩
end Go.Proofs.YtejjfhhppjdcaaaGreatDoor
namespace Go.Proofs.YtejjfhhppjdcaaaGreatDoor
open Go.RowKit Go.Maps Go.Sort

theorem Ents.seg {w : World} {B n c : Nat} {A : Option Addr} {l : List (Option Ev)} (h : Ents w B A n c l) (p k : Nat) (hk : k * p ≤ n) :
    Ents w B (if c = k * p then A else A.map (·.add (k * p * 9))) (min p (n - k * p)) (c - k * p) (segL p k l) := by
  have := Cel.mid h (k * p) (min p (n - k * p)) (by omega)
  unfold Ents segL
  rw [entCells_dropN, entCells_takeN] at this
  have e : (l.drop (k * p)).take (min p (n - k * p)) = (l.drop (k * p)).take p := by
    rw [← h.len, ← List.length_drop, List.take_eq_take_iff]; omega
  rw [e] at this
  exact this
def SegP (w : World) (l : List (Option Ev)) (B : Nat) (e : Ending) (w' : World) : Prop := ∃ A n c, e = .returned (.slice A n c) ∧ Ents w B A n c l ∧ w = w'
set_option maxRecDepth 100000 in
set_option maxHeartbeats 2000000 in
theorem rsegment_any (w : World) (B : Nat) (A : Option Addr) (n c : Nat) (l : List (Option Ev)) (h : Ents w B A n c l) (hn : n ≤ 100000) (p k : Nat) (hp : p ≤ 4096) (hk : k * p ≤ n) (hk1 : k ≤ 100000) :
    Calls Tryz.prog 42 #[.slice A n c, .int .i64 p, .int .i64 k] w (SegP w (segL p k l) B) := by
  have HS := Lib.hid (h.seg p k hk)
  have hc := Cel.cap h
  have hm := Cel.max h
  clear h
  have e0 : ((k : Int) + 1) * p = ((k * p + p : Nat) : Int) := by rw [Int.add_mul]; simp
  have e1 : (k : Int) * p = ((k * p : Nat) : Int) := by simp
  generalize k * p = q at *
  by_cases hlt : n < q + p
  · have hmin : min p (n - q) = n - q := by omega
    rw [hmin] at HS
    by_cases hcq : c = q
    · rw [if_pos hcq] at HS
      go_enter Tryz.func42, Tryz.ntmps42
      go_wp2
      go_ret
      exact ⟨_, _, _, rfl, by first | exact HS.out | (have := HS.out; rw [hcq] at this; simpa using this) | (have := HS.out; simp [hcq] at this ⊢; exact this), rfl⟩
    · rw [if_neg hcq] at HS
      go_enter Tryz.func42, Tryz.ntmps42
      go_wp2
      go_ret
      exact ⟨_, _, _, rfl, by first | exact HS.out | (rw [Nat.add_sub_cancel_left]; exact HS.out), rfl⟩
  · have hmin : min p (n - q) = p := by omega
    rw [hmin] at HS
    by_cases hcq : c = q
    · rw [if_pos hcq] at HS
      go_enter Tryz.func42, Tryz.ntmps42
      go_wp2
      go_ret
      exact ⟨_, _, _, rfl, by first | exact HS.out | (have := HS.out; rw [hcq] at this; simpa using this) | (have := HS.out; simp [hcq] at this ⊢; exact this), rfl⟩
    · rw [if_neg hcq] at HS
      go_enter Tryz.func42, Tryz.ntmps42
      go_wp2
      go_ret
      exact ⟨_, _, _, rfl, by first | exact HS.out | (rw [Nat.add_sub_cancel_left]; exact HS.out), rfl⟩
end Go.Proofs.YtejjfhhppjdcaaaGreatDoor
