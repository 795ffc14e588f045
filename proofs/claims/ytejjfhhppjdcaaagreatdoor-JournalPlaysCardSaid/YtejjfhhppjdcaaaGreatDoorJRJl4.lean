/-
  Layer 2: the document's number, word.
  Layer 2: the document's Encode (written by wip/gen_rencode.py).
-/
import Derived.Test.YtejjfhhppjdcaaaGreatDoorJEvLen
import Derived.Test.YtejjfhhppjdcaaaGreatDoorJEvEnc2
import Derived.Test.YtejjfhhppjdcaaaGreatDoorJStepApp
import Derived.Deep.RegionHeld3
namespace Go.Proofs.YtejjfhhppjdcaaaGreatDoor
open Go.RowKit Go.Maps Go.Sort

/-- a row of bytes of the call's own -/
def RowB (w : World) (l : List UInt8) (e : Ending) (w' : World) : Prop := ∃ v, e = .returned v ∧ OwnB w' w.heap.size v l ∧ RowKit.Below w.heap.size w w'
theorem own0 (w : World) : OwnB (w.alloc (.cells #[] 5)) w.heap.size (.slice (some ⟨w.heap.size, 0, none⟩) 0 0) [] :=
  ⟨rfl, .inr ⟨w.heap.size, 0, #[], rfl, Nat.le_refl _, heap_alloc_new w _, Nat.le_refl _, by unfold maxLen; omega, rfl, rfl⟩⟩
set_option maxRecDepth 100000 in
set_option maxHeartbeats 2000000 in
theorem rnumber_any (w : World) (n : Nat) (hn : n < 4611686018427387904) :
    Calls Tryz.prog 139 #[.int .i64 n] w (RowB w (numB n)) := by
  have hn8 := numB_len8 hn
  go_enter Tryz.func139, Tryz.ntmps139
  go_wp2
  go_loopw [0, 3] (fun q v wr => ∃ (m : Nat) (l : List UInt8), q = .int .i64 m ∧ m < 4611686018427387904 ∧ l ++ numB m = numB n ∧ OwnB wr w.heap.size v l ∧ RowKit.Below w.heap.size w wr) (fun q _ _ => (intOf q).toNat)
  case atStart => exact ⟨n, [], rfl, hn, rfl, own0 w, (Below.refl _ _).alloc (Nat.le_refl _) _⟩
  case round =>
    obtain ⟨q, l', rfl, hq, hL, ho, hb⟩ := hrel
    have HL := Lib.hid hL; have HO := Lib.hid ho; have HB := Lib.hid hb
    have hl' : l'.length ≤ 9 := by have := congrArg List.length hL; simp at this; omega
    clear hL ho hb
    have hsz := HB.out.size
    by_cases hlo : q < 128
    · have t1 : ¬ (127 : Int) < q := by omega
      have HN := Lib.hid (show numB n = l' ++ [UInt8.ofNat q] by rw [← HL.out, numB_lo hlo])
      go_wp2_with (at_builtin; refine wpList_app8 rfl (.tmp 16) (.tmp 19) rfl w.heap.size _ l' rfl ?c1 (wr.heap.size + 1) _ _ _ [UInt8.ofNat q] rfl ?c2 ?c3 ?c4 ?_)
      case c1 => exact OwnB.alloc HO.out _
      case c2 => exact Byt.new wr _ _ [UInt8.ofNat q] (by simp; omega) 1 rfl (by unfold maxLen; omega)
      case c3 => first | omega | (simp; omega)
      case c4 => first | omega | (simp; omega)
      intro v2 w2 ho2 hg2 hv2
      have HR := Lib.hid (show RowB w (numB n) (.returned v2) w2 from ⟨v2, rfl, by rw [HN.out]; exact ho2, Below.grown (HB.out.alloc HB.out.size _) hg2 (by simp; omega) (fun k' hk' => OwnB.lt HO.out k' hk')⟩)
      clear ho2 hg2 hv2
      go_wp2
      go_ret
      exact HR.out
    · have t1 : (127 : Int) < q := by omega
      have HN := Lib.hid (show (l' ++ [UInt8.ofNat (q % 128 + 128)]) ++ numB (q / 128) = numB n by rw [← HL.out, numB_hi hlo]; simp)
      obtain ⟨r, d, hr, hd, hr8, hdq⟩ : ∃ r d : Nat, r = q % 128 ∧ d = q / 128 ∧ r < 128 ∧ d < q := ⟨_, _, rfl, rfl, by omega, by omega⟩
      rw [← hr, ← hd, show UInt8.ofNat (r + 128) = UInt8.ofNat r + 128 by simp] at HN
      obtain ⟨e1, e2, e3, e4, e5⟩ : (q : Int).tmod 128 = (r : Int) ∧ (q : Int).tdiv 128 = (d : Int) ∧ IntKind.i64.wrap (d : Int) = (d : Int) ∧ IntKind.i64.wrap ((r : Int) + 128) = (r : Int) + 128 ∧ IntKind.u8.wrap ((r : Int) + 128) = (r : Int) + 128 := ⟨by rw [hr]; exact (Int.ofNat_tmod q 128).symm, by rw [hd]; exact (Int.ofNat_tdiv q 128).symm, IntWalk.i64_in _ (by omega), IntWalk.i64_in _ (by omega), by simp [IntKind.wrap, IntKind.bits, IntKind.signed]; omega⟩
      clear hr hd hlo
      go_wp2_with (at_builtin; refine wpList_app8 rfl (.tmp 7) (.tmp 12) rfl w.heap.size _ l' rfl ?c1 (wr.heap.size + 1) _ _ _ [UInt8.ofNat (r + 128)] rfl ?c2 ?c3 ?c4 ?_)
      case c1 => exact OwnB.alloc HO.out _
      case c2 =>
        have := Byt.new wr #[.int .u8 ((r : Int) + 128)] 5 [UInt8.ofNat (r + 128)] (by simp; omega) 1 rfl (by unfold maxLen; omega)
        exact this
      case c3 => first | omega | (simp; omega)
      case c4 => first | omega | (simp; omega)
      intro v2 w2 ho2 hg2 hv2
      have HB2 := Lib.hid (show RowKit.Below w.heap.size w w2 from Below.grown (HB.out.alloc HB.out.size _) hg2 (by simp; omega) (fun k' hk' => OwnB.lt HO.out k' hk'))
      have HO2 := Lib.hid ho2
      clear ho2 hg2 hv2
      go_wp2
      go_roundw
      case rel => exact ⟨d, _, rfl, by omega, HN.out, HO2.out, HB2.out⟩
      case measure => simp [intOf]; omega

set_option maxRecDepth 100000 in
set_option maxHeartbeats 2000000 in
theorem rword_any (w : World) (s : List UInt8) (hs : s.length ≤ 4096) :
    Calls Tryz.prog 138 #[.string ⟨s.toArray⟩] w (RowB w (textB s)) := by
  go_enter Tryz.func138, Tryz.ntmps138
  have ho : OwnB (w.alloc (.cells #[.int .u8 (IntKind.u8.wrap (s.length : Int))] 5)) w.heap.size (.slice (some ⟨w.heap.size, 0, none⟩) 1 1) [UInt8.ofNat s.length] := by
    refine ⟨rfl, .inr ⟨w.heap.size, 1, #[.int .u8 (IntKind.u8.wrap (s.length : Int))], rfl, Nat.le_refl _, heap_alloc_new w _, Nat.le_refl _, by unfold maxLen; omega, rfl, ?_⟩⟩
    simp [bvs, IntKind.wrap, IntKind.bits, IntKind.signed]
  obtain ⟨v6, w6, hr6, ho6, hg6, hv6⟩ := app_str _ w.heap.size _ [UInt8.ofNat s.length] s ho (by simp) (by simp) (by simp; omega) 41
  have HR6 := Lib.hid hr6
  have HM6 := Lib.hid (show RowB w (textB s) (.returned v6) w6 from ⟨v6, rfl, ho6, Below.grown ((Below.refl _ _).alloc (Nat.le_refl _) _) hg6 (by simp) (fun k' hk' => Nat.le_of_eq (Option.some.inj hk'))⟩)
  clear hr6 ho6 hg6 hv6 ho
  have e1 : IntKind.u8.wrap (s.length : Int) = ((s.length % 256 : Nat) : Int) := by simp [IntKind.wrap, IntKind.bits, IntKind.signed]
  rw [e1] at HR6
  go_wp2_with (at_builtin; refine Lib.wpList_append_run _ rfl (.tmp 6) (.tmp 7) _ _ rfl _ _ rfl rfl _ _ HR6.out ?_)
  go_wp2
  go_ret
  exact HM6.out
end Go.Proofs.YtejjfhhppjdcaaaGreatDoor
namespace Go.Proofs.YtejjfhhppjdcaaaGreatDoor
open Go.RowKit Go.Maps Go.Sort

theorem bvs_one (l : List UInt8) : ∀ u ∈ bvs l, u.oneCell' = true := fun u hu => by
  obtain ⟨x, _, rfl⟩ := List.mem_map.1 hu
  rfl
section
variable {w w' w2 : World} {be : Nat} {e : Ev} {v v2 : Value} {l l2 : List UInt8}
theorem EnM.upB (h : EnM w be e v l w') (hb : Below w'.heap.size w' w2) : EnM w be e v l w2 :=
  ⟨h.own.below hb (Nat.le_refl _), h.ne, h.ev.keepB (hb.block be h.lt), h.bel.trans (hb.mono h.bel.size), Nat.lt_of_lt_of_le h.lt hb.size, h.ge⟩
theorem EnM.grown (h : EnM w be e v l w') (ho : OwnB w2 w.heap.size v2 l2) (hg : w'.grownBy w2 v.ownBlock) (hv : v2.ownBlock = v.ownBlock ∨ v2.ownBlock = some w'.heap.size) : EnM w be e v2 l2 w2 := by
  refine ⟨ho, fun b hb => ?_, h.ev.keepB (hg.block be h.lt (fun hq => h.ne be hq.symm rfl)), Below.grown h.bel hg h.bel.size (fun k hk => h.own.lt k hk), Nat.lt_of_lt_of_le h.lt hg.size, h.ge⟩
  rcases hv with e1 | e1
  · exact h.ne b (e1 ▸ hb)
  · rw [e1] at hb; injection hb with hb; have := h.lt; omega
end
set_option maxRecDepth 100000 in
set_option maxHeartbeats 4000000 in
theorem rencode_any (w : World) (e : Ev) (hm : mayB e = true) : Calls Tryz.prog 109 #[e.agg] w (RowB w (encE e)) := by
  have hf := mayB_fit hm
  have HL := Lib.hid hf.len
  obtain ⟨a1, a2, a3, a4, a5, a6, a7, a8, a9, a10, a11, a12⟩ := hf
  have hE : encE e = UInt8.ofNat e.kind.toNat :: (textB e.src ++ numB e.num.toNat ++ numB e.at_.toNat ++ textB e.per ++ textB e.item ++ numB e.val.toNat ++ textB e.text) := rfl
  have HIN := Lib.hid (EvIn.new w e)
  have HB0 := Lib.hid (show Below w.heap.size w (w.alloc (evObj e)) from (Below.refl _ _).alloc (Nat.le_refl _) _)
  clear hm
  have hagg : e.agg = .agg #[.string ⟨e.src.toArray⟩, .int .i64 e.num, .int .i64 e.at_, .int .i64 e.kind, .string ⟨e.per.toArray⟩, .string ⟨e.item.toArray⟩, .int .i64 e.val, .string ⟨e.text.toArray⟩] := rfl
  obtain ⟨src, num, at_, kind, per, item, val, text⟩ := e
  simp only at *
  obtain ⟨n, rfl⟩ := Int.eq_ofNat_of_zero_le (show 0 ≤ num by omega)
  obtain ⟨a, rfl⟩ := Int.eq_ofNat_of_zero_le a7
  obtain ⟨k, rfl⟩ := Int.eq_ofNat_of_zero_le a11
  obtain ⟨vl, rfl⟩ := Int.eq_ofNat_of_zero_le a9
  simp only [Int.toNat_natCast] at hE
  obtain ⟨L1, hL1⟩ : ∃ l, l = [UInt8.ofNat k] ++ textB src := ⟨_, rfl⟩
  obtain ⟨L2, hL2⟩ : ∃ l, l = L1 ++ numB n := ⟨_, rfl⟩
  obtain ⟨L3, hL3⟩ : ∃ l, l = L2 ++ numB a := ⟨_, rfl⟩
  obtain ⟨L4, hL4⟩ : ∃ l, l = L3 ++ textB per := ⟨_, rfl⟩
  obtain ⟨L5, hL5⟩ : ∃ l, l = L4 ++ textB item := ⟨_, rfl⟩
  obtain ⟨L6, hL6⟩ : ∃ l, l = L5 ++ numB vl := ⟨_, rfl⟩
  obtain ⟨L7, hL7⟩ : ∃ l, l = L6 ++ textB text := ⟨_, rfl⟩
  have hEL : encE ⟨src, n, a, k, per, item, vl, text⟩ = L7 := by rw [hE, hL7, hL6, hL5, hL4, hL3, hL2, hL1]; simp
  rw [hEL] at HL ⊢
  have hlen := HL.out
  have e7 : L7.length = L6.length + (textB text).length := by rw [hL7]; simp
  have e6 : L6.length = L5.length + (numB vl).length := by rw [hL6]; simp
  have e5 : L5.length = L4.length + (textB item).length := by rw [hL5]; simp
  have e4 : L4.length = L3.length + (textB per).length := by rw [hL4]; simp
  have e3 : L3.length = L2.length + (numB a).length := by rw [hL3]; simp
  have e2 : L2.length = L1.length + (numB n).length := by rw [hL2]; simp
  have e1 : L1.length = 1 + (textB src).length := by rw [hL1]; simp; omega
  have H1 := Lib.hid hL1; have H2 := Lib.hid hL2; have H3 := Lib.hid hL3; have H4 := Lib.hid hL4; have H5 := Lib.hid hL5; have H6 := Lib.hid hL6; have H7 := Lib.hid hL7
  clear hL1 hL2 hL3 hL4 hL5 hL6 hL7 hE hEL HL
  rw [hagg]
  clear hagg
  obtain ⟨i0, hi, hz0, hz1, hz2⟩ := info_parts u8_info
  have HI := Lib.hid hi; have HZ0 := Lib.hid hz0; have HZ1 := Lib.hid hz1; have HZ2 := Lib.hid hz2
  clear hi hz0 hz1 hz2
  have hk : (k : Int) % 256 = (k : Int) := by omega
  go_enter Tryz.func109, Tryz.ntmps109
  go_upto_region 1 with fail
  have hs0 : (w.alloc (evObj ⟨src, n, a, k, per, item, vl, text⟩)).heap.size = w.heap.size + 1 := by simp
  generalize w.alloc (evObj ⟨src, n, a, k, per, item, vl, text⟩) = w0 at *
  obtain ⟨f0, f1, f2, f3, f4, f5, f6, f7⟩ := HIN.out
  simp only at f0 f3
  clear f1 f2 f4 f5 f6 f7
  have hbw : (bvs [UInt8.ofNat k]) = [.int .u8 (IntKind.u8.wrap (k : Int))] := by simp [bvs, IntKind.wrap, IntKind.bits, IntKind.signed]
  have HSS := Lib.hid (show ∀ W, Below w0.heap.size w0 W → (W.cell? ⟨w.heap.size, 3, none⟩ = some (.int .i64 k) ∧ W.cell? ⟨w.heap.size, 0, none⟩ = some (.string ⟨src.toArray⟩)) from fun W hW => ⟨(hW.cell (p := ⟨w.heap.size, 3, none⟩) (by show w.heap.size < _; omega)).trans f3, (hW.cell (p := ⟨w.heap.size, 0, none⟩) (by show w.heap.size < _; omega)).trans f0⟩)
  have HRW := Lib.hid (show ∀ W : World, w0.heap.size ≤ W.heap.size → OwnB (W.alloc (.cells #[.int .u8 (IntKind.u8.wrap (k : Int))] 5)).drew w.heap.size (.slice (some ⟨W.heap.size, 0, none⟩) 1 1) [UInt8.ofNat k] from fun W hW => by
    have := World.ownsRow_lit (base := w.heap.size) (e := 5) (size := 1) W #[.int .u8 (IntKind.u8.wrap (k : Int))] 1 (by omega) (by simp [maxLen]) rfl
    unfold OwnB
    rw [hbw]; exact this)
  have HA1 := Lib.hid (show Below w0.heap.size w0 (w0.alloc (.cells #[.int .u8 (IntKind.u8.wrap (k : Int))] 5)).drew from ((Below.refl _ _).alloc (Nat.le_refl _) _).drew)
  have HA2 := Lib.hid (show Below w0.heap.size w0 w0.drew from (Below.refl _ _).drew)
  clear hbw
  have HBW := Lib.hid (show ∀ W, Below w0.heap.size w0 W → EvIn W w.heap.size ⟨src, n, a, k, per, item, vl, text⟩ ∧ Below w.heap.size w W from fun W hW => ⟨HIN.out.keepB (hW.block _ (by omega)), HB0.out.trans (hW.mono (by omega))⟩)
  have HCA := Lib.hid (show Calls Tryz.prog 138 #[.string ⟨src.toArray⟩] (w0.alloc (.cells #[.int .u8 (IntKind.u8.wrap (k : Int))] 5)).drew (fun e w2 => ∃ A c, e = .returned (.slice A (textB src).length c) ∧ OwnB w2 0 (.slice A (textB src).length c) (textB src) ∧ Below w0.heap.size w0 w2 ∧ EnM w w.heap.size ⟨src, n, a, k, per, item, vl, text⟩ (.slice (some ⟨w.heap.size + 1, 0, none⟩) 1 1) [UInt8.ofNat k] w2) from (rword_any _ src (by omega)).mono fun e w2 ⟨v2, h1, ho2, hb2⟩ => by
    obtain ⟨A2, c2, rfl⟩ := ho2.form
    have hb := HA1.out.trans (hb2.mono HA1.out.size)
    have hs2 := hb.size
    have ho := OwnB.below (HRW.out w0 (Nat.le_refl _)) hb2 (Nat.le_refl _)
    rw [hs0] at ho
    exact ⟨A2, c2, h1, ho2.base_le (Nat.zero_le _), hb, ho, fun b hb e => by simp [Value.ownBlock] at hb; omega, (HBW.out _ hb).1, (HBW.out _ hb).2, by omega, Nat.le_refl _⟩)
  have HCB := Lib.hid (show Calls Tryz.prog 138 #[.string ⟨src.toArray⟩] w0.drew (fun e w2 => ∃ A c, e = .returned (.slice A (textB src).length c) ∧ OwnB w2 0 (.slice A (textB src).length c) (textB src) ∧ Below w0.heap.size w0 w2 ∧ EnM w w.heap.size ⟨src, n, a, k, per, item, vl, text⟩ (.slice (some ⟨w2.heap.size, 0, none⟩) 1 1) [UInt8.ofNat k] (w2.alloc (.cells #[.int .u8 (IntKind.u8.wrap (k : Int))] 5))) from (rword_any _ src (by omega)).mono fun e w2 ⟨v2, h1, ho2, hb2⟩ => by
    obtain ⟨A2, c2, rfl⟩ := ho2.form
    have hb := HA2.out.trans (hb2.mono HA2.out.size)
    have hs2 := hb.size
    have hb3 := hb.alloc hb.size (.cells #[.int .u8 (IntKind.u8.wrap (k : Int))] 5)
    exact ⟨A2, c2, h1, ho2.base_le (Nat.zero_le _), hb, HRW.out w2 hs2, fun b hb e => by simp [Value.ownBlock] at hb; omega, (HBW.out _ hb3).1, (HBW.out _ hb3).2, by simp; omega, Nat.le_refl _⟩)
  have htl : (textB src).length = src.length + 1 := by simp [textB]
  clear HA1 HA2 HRW HIN HB0 HBW
  go_region_held3 (fun wx => wx.cell? ⟨w.heap.size, 3, none⟩ = some (.int .i64 k) ∧ wx.cell? ⟨w.heap.size, 0, none⟩ = some (.string ⟨src.toArray⟩)) (first | assumption | go_keep) (first
    | (go_at_call 138; (with_reducible refine HCA.out.mono ?_); rintro r9 w2 ⟨A2, c2, rfl, ho2, hb2, hm2⟩; have HO2 := Lib.hid (Cel.of_own ho2); have HM2 := Lib.hid hm2; have hS2 := HSS.out w2 hb2; have hs2 := hb2.size; clear ho2 hb2 hm2)
    | (go_at_call 138; (with_reducible refine HCB.out.mono ?_); rintro r9 w2 ⟨A2, c2, rfl, ho2, hb2, hm2⟩; have HO2 := Lib.hid (Cel.alloc (Cel.of_own ho2) (Nat.le_refl _) (.cells #[.int .u8 (IntKind.u8.wrap (k : Int))] 5)); have HM2 := Lib.hid hm2; have hS2 := HSS.out w2 hb2; have hs2 := hb2.size; clear ho2 hb2 hm2)
    | (refine step_app rfl (.tmp 7) (.tmp 10) 41 rfl 5 i0 _ 1 1 Tryz.underlying41 HI.out HZ0.out HZ1.out HZ2.out rfl (by decide) w.heap.size _ 1 (bvs [UInt8.ofNat k]) rfl HM2.out.own w2.heap.size _ _ _ (bvs (textB src)) rfl HO2.out (bvs_one _) (by unfold maxLen; omega) (by omega) (by first | omega | (simp; omega)) ?_; intro va0 wa0 ho3 hg3 hv3; have HM := Lib.hid (HM2.out.grown (l2 := L1) (by rw [H1.out]; unfold OwnB; rw [bvs_append, List.length_append]; exact ho3) hg3 hv3); have hS3 : wa0.cell? ⟨w.heap.size, 3, none⟩ = some (.int .i64 k) ∧ wa0.cell? ⟨w.heap.size, 0, none⟩ = some (.string ⟨src.toArray⟩) := ⟨HM.out.ev.2.2.2.1, HM.out.ev.1⟩; clear ho3 hg3 hv3))
  all_goals
    clear f0 f3 HSS HCA HCB HO2 HM2 hS2 hS3 hs2 htl hs0
    clear HI HZ0 HZ1 HZ2
    obtain ⟨_, g1, _⟩ := HM.out.ev
    simp only at g1
    go_wp2_with fail
    with_reducible refine (rnumber_any wa0 n (by omega)).mono ?_
    rintro r wb0 ⟨u0, rfl, ho, hb⟩
    obtain ⟨A0, c0, rfl⟩ := ho.form
    have HY := Lib.hid ho.byt
    replace HM := Lib.hid (HM.out.upB hb)
    have hs1 := HM.out.bel.size
    clear ho hb g1
    go_wp2_with (at_builtin; refine wpList_app8 rfl (.tmp 12) (.tmp 15) rfl w.heap.size _ L1 rfl HM.out.own wb0.heap.size _ _ _ _ rfl HY.out (by omega) (by omega) ?_)
    intro va1 wa1 ho hg hv
    rw [← H2.out] at ho
    replace HM := Lib.hid (HM.out.grown ho hg hv)
    clear ho hg hv HY hs1
    obtain ⟨_, _, g2, _⟩ := HM.out.ev
    simp only at g2
    go_wp2_with fail
    with_reducible refine (rnumber_any wa1 a (by omega)).mono ?_
    rintro r wb1 ⟨u1, rfl, ho, hb⟩
    obtain ⟨A1, c1, rfl⟩ := ho.form
    have HY := Lib.hid ho.byt
    replace HM := Lib.hid (HM.out.upB hb)
    have hs2 := HM.out.bel.size
    clear ho hb g2
    go_wp2_with (at_builtin; refine wpList_app8 rfl (.tmp 17) (.tmp 20) rfl w.heap.size _ L2 rfl HM.out.own wb1.heap.size _ _ _ _ rfl HY.out (by omega) (by omega) ?_)
    intro va2 wa2 ho hg hv
    rw [← H3.out] at ho
    replace HM := Lib.hid (HM.out.grown ho hg hv)
    clear ho hg hv HY hs2
    obtain ⟨_, _, _, _, g4, _⟩ := HM.out.ev
    simp only at g4
    go_wp2_with fail
    with_reducible refine (rword_any wa2 per (by omega)).mono ?_
    rintro r wb2 ⟨u2, rfl, ho, hb⟩
    obtain ⟨A2, c2, rfl⟩ := ho.form
    have HY := Lib.hid ho.byt
    replace HM := Lib.hid (HM.out.upB hb)
    have hs3 := HM.out.bel.size
    clear ho hb g4
    go_wp2_with (at_builtin; refine wpList_app8 rfl (.tmp 22) (.tmp 25) rfl w.heap.size _ L3 rfl HM.out.own wb2.heap.size _ _ _ _ rfl HY.out (by omega) (by omega) ?_)
    intro va3 wa3 ho hg hv
    rw [← H4.out] at ho
    replace HM := Lib.hid (HM.out.grown ho hg hv)
    clear ho hg hv HY hs3
    obtain ⟨_, _, _, _, _, g5, _⟩ := HM.out.ev
    simp only at g5
    go_wp2_with fail
    with_reducible refine (rword_any wa3 item (by omega)).mono ?_
    rintro r wb3 ⟨u3, rfl, ho, hb⟩
    obtain ⟨A3, c3, rfl⟩ := ho.form
    have HY := Lib.hid ho.byt
    replace HM := Lib.hid (HM.out.upB hb)
    have hs4 := HM.out.bel.size
    clear ho hb g5
    go_wp2_with (at_builtin; refine wpList_app8 rfl (.tmp 27) (.tmp 30) rfl w.heap.size _ L4 rfl HM.out.own wb3.heap.size _ _ _ _ rfl HY.out (by omega) (by omega) ?_)
    intro va4 wa4 ho hg hv
    rw [← H5.out] at ho
    replace HM := Lib.hid (HM.out.grown ho hg hv)
    clear ho hg hv HY hs4
    obtain ⟨_, _, _, _, _, _, g6, _⟩ := HM.out.ev
    simp only at g6
    go_wp2_with fail
    with_reducible refine (rnumber_any wa4 vl (by omega)).mono ?_
    rintro r wb4 ⟨u4, rfl, ho, hb⟩
    obtain ⟨A4, c4, rfl⟩ := ho.form
    have HY := Lib.hid ho.byt
    replace HM := Lib.hid (HM.out.upB hb)
    have hs5 := HM.out.bel.size
    clear ho hb g6
    go_wp2_with (at_builtin; refine wpList_app8 rfl (.tmp 32) (.tmp 35) rfl w.heap.size _ L5 rfl HM.out.own wb4.heap.size _ _ _ _ rfl HY.out (by omega) (by omega) ?_)
    intro va5 wa5 ho hg hv
    rw [← H6.out] at ho
    replace HM := Lib.hid (HM.out.grown ho hg hv)
    clear ho hg hv HY hs5
    obtain ⟨_, _, _, _, _, _, _, g7⟩ := HM.out.ev
    simp only at g7
    go_wp2_with fail
    with_reducible refine (rword_any wa5 text (by omega)).mono ?_
    rintro r wb5 ⟨u5, rfl, ho, hb⟩
    obtain ⟨A5, c5, rfl⟩ := ho.form
    have HY := Lib.hid ho.byt
    replace HM := Lib.hid (HM.out.upB hb)
    have hs6 := HM.out.bel.size
    clear ho hb g7
    go_wp2_with (at_builtin; refine wpList_app8 rfl (.tmp 37) (.tmp 40) rfl w.heap.size _ L6 rfl HM.out.own wb5.heap.size _ _ _ _ rfl HY.out (by omega) (by omega) ?_)
    intro va6 wa6 ho hg hv
    rw [← H7.out] at ho
    replace HM := Lib.hid (HM.out.grown ho hg hv)
    clear ho hg hv HY hs6
    go_wp2
    go_ret
    exact ⟨_, rfl, HM.out.own, HM.out.bel⟩
end Go.Proofs.YtejjfhhppjdcaaaGreatDoor
