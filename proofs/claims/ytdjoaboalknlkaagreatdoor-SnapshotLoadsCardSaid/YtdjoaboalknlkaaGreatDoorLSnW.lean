/-
  Layer 2: an event's bytes: putNumber, putText.
  Layer 2: event.Encode of an event that may be.
  Layer 30: the text of an intake's parts: its lines.
-/
import Derived.Test.YtdjoaboalknlkaaGreatDoorLByBox
import Derived.Lib.AppendZeros
import Derived.Test.YtdjoaboalknlkaaGreatDoorLPtQ
import Derived.Deep.DeepCutAuto
import Derived.Test.YtdjoaboalknlkaaGreatDoorLClkEnc
import Derived.Test.YtdjoaboalknlkaaGreatDoorLGnB
import Derived.Test.YtdjoaboalknlkaaGreatDoorLSnPlain
namespace Go.Proofs.YtdjoaboalknlkaaGreatDoor
open Go.RowKit Go.Maps Go.Sort

theorem and127 (x : Nat) (h : x < 4611686018427387904) : bits .and .i64 (x : Int) 127 = ((x % 128 : Nat) : Int) := by
  show IntKind.i64.wrap ((BitVec.ofInt 64 (x : Int) &&& BitVec.ofInt 64 ((127 : Nat) : Int)).toNat : Int) = _
  have e : (BitVec.ofInt 64 (x : Int) &&& BitVec.ofInt 64 ((127 : Nat) : Int)).toNat = x % 128 := by
    rw [BitVec.toNat_and, BitVec.ofInt_natCast, BitVec.ofInt_natCast, BitVec.toNat_ofNat, BitVec.toNat_ofNat, Nat.mod_eq_of_lt (by omega : x < 2 ^ 64)]
    exact Nat.and_two_pow_sub_one_eq_mod x 7
  rw [e]
  simp [IntKind.wrap, IntKind.bits, IntKind.signed]; omega
set_option maxRecDepth 100000 in
set_option maxHeartbeats 2000000 in
theorem evnum_any (w : World) (base : Nat) (v : Value) (l : List UInt8) (ho : OwnB w base v l) (hb : base ≤ w.heap.size) (n : Nat) (hn : n < 4611686018427387904) (hl : l.length ≤ 200000000000) :
    Calls Tryz.prog 80 #[v, .int .i64 n] w (PnPost w base v (l ++ numB n)) := by
  have hn8 := numB_len8 hn
  have HST := Lib.hid (show PnRel w base v (l ++ numB n) v (.int .i64 n) w from ⟨n, l, rfl, hn, rfl, ho, Keep.refl _ _, fun b hb => .inl hb⟩)
  have hll : (l ++ numB n).length ≤ 200000000009 := by simp; omega
  generalize l ++ numB n = L at *
  clear ho hn8
  go_enter Tryz.func80, Tryz.ntmps80
  go_wp2
  go_loopw [0, 1] (fun v' q wr => PnRel w base v L v' q wr) (fun _ q _ => (intOf q).toNat)
  case atStart => exact HST.out
  case round =>
    obtain ⟨q, l', rfl, hq, hL, hm⟩ := hrel
    have HL := Lib.hid hL; have HM := Lib.hid hm
    have hl' : l'.length ≤ 200000000009 := by have := congrArg List.length hL; simp at this; omega
    have hsr := hm.keep.size
    clear hL hm
    by_cases hlo : q < 128
    · have t1 : ¬ (128 : Int) ≤ q := by omega
      have HB := Lib.hid (show L = l' ++ [UInt8.ofNat q] by rw [← HL.out, numB_lo hlo])
      go_wp2_with (at_builtin; refine wpList_app8 rfl (.tmp 16) (.tmp 19) rfl base _ l' rfl ?c1 (wr.heap.size + 1) _ _ _ [UInt8.ofNat q] rfl ?c2 ?c3 ?c4 ?_)
      case c1 => exact OwnB.alloc HM.out.own _
      case c2 => exact Byt.new wr _ _ [UInt8.ofNat q] (by simp; omega) 1 rfl (by unfold maxLen; omega)
      case c3 => first | omega | (simp; omega)
      case c4 => first | omega | (simp; omega)
      intro v2 w2 ho2 hg2 hv2
      have HR := Lib.hid (show PnPost w base v L (.returned v2) w2 from ⟨v2, rfl, HM.out.app _ (by rw [HB.out]; exact ho2) hg2 hv2⟩)
      clear ho2 hg2 hv2
      go_wp2
      go_ret
      exact HR.out
    · have t1 : (128 : Int) ≤ q := by omega
      have HB := Lib.hid (show L = l' ++ [UInt8.ofNat (q % 128 + 128)] ++ numB (q / 128) by rw [← HL.out, numB_hi hlo]; simp)
      have eo : bits .or .u8 (bits .and .i64 (q : Int) 127 % 256) 128 = ((q % 128 + 128 : Nat) : Int) := by
        have := or128 (q % 128) (by omega)
        rw [and127 q (by omega), show (((q % 128 : Nat) : Int)) % 256 = ((q % 128 : Nat) : Int) by omega, this]; congr 1; omega
      generalize hc : q % 128 + 128 = cN at *
      have hcl : cN < 256 := by omega
      clear hc
      go_wp2_with (at_builtin; refine wpList_app8 rfl (.tmp 7) (.tmp 12) rfl base _ l' rfl ?c1 (wr.heap.size + 1) _ _ _ [UInt8.ofNat cN] rfl ?c2 ?c3 ?c4 ?_)
      case c1 => exact OwnB.alloc HM.out.own _
      case c2 => exact Byt.new wr _ _ [UInt8.ofNat cN] (by simp; omega) 1 rfl (by unfold maxLen; omega)
      case c3 => first | omega | (simp; omega)
      case c4 => first | omega | (simp; omega)
      intro v2 w2 ho2 hg2 hv2
      have HR := Lib.hid (show PnRel w base v L v2 (.int .i64 ((q / 128 : Nat) : Int)) w2 from ⟨q / 128, l' ++ [UInt8.ofNat cN], rfl, by omega, HB.out.symm, HM.out.app _ ho2 hg2 hv2⟩)
      clear ho2 hg2 hv2 eo
      go_wp2
      go_roundw
      case rel => exact HR.out
      case measure => simp [intOf]; omega

set_option maxRecDepth 100000 in
set_option maxHeartbeats 2000000 in
theorem evtext_any (w : World) (base : Nat) (v : Value) (l : List UInt8) (ho : OwnB w base v l) (hb : base ≤ w.heap.size) (s : List UInt8) (hs : s.length ≤ 4096) (hl : l.length ≤ 200000000000) :
    Calls Tryz.prog 79 #[v, .string ⟨s.toArray⟩] w (PnPost w base v (l ++ textB s)) := by
  have HM := Lib.hid (show PnM w base v l v w from ⟨ho, Keep.refl _ _, fun b hb => .inl hb⟩)
  clear ho
  go_enter Tryz.func79, Tryz.ntmps79
  go_wp2_with (at_builtin; refine wpList_app8 rfl (.tmp 5) (.tmp 9) rfl base _ l rfl ?c1 (w.heap.size + 1) _ _ _ [UInt8.ofNat s.length] rfl ?c2 ?c3 ?c4 ?_)
  case c1 => exact OwnB.alloc HM.out.own _
  case c2 => exact Byt.new w _ _ [UInt8.ofNat s.length] (by simp) 1 rfl (by unfold maxLen; omega)
  case c3 => first | omega | (simp; omega)
  case c4 => first | omega | (simp; omega)
  intro v5 w5 ho5 hg5 hv5
  have HM5 := Lib.hid (HM.out.app _ ho5 hg5 hv5)
  clear ho5 hg5 hv5 HM
  have hs5 := HM5.out.keep.size
  obtain ⟨v6, w6, hr6, ho6, hg6, hv6⟩ := app_str w5 base v5 (l ++ [UInt8.ofNat s.length]) s HM5.out.own (by simp) (by omega) (by simp; omega) 22
  have HR6 := Lib.hid hr6
  have HM6 := Lib.hid (show PnPost w base v (l ++ textB s) (.returned v6) w6 from ⟨v6, rfl, by
    have := HM5.out.str ho6 hg6 hv6
    rw [List.append_assoc] at this; exact this⟩)
  clear hr6 ho6 hg6 hv6
  go_wp2_with (at_builtin; refine Lib.wpList_append_run _ rfl (.tmp 11) (.tmp 12) _ _ rfl _ _ rfl rfl _ _ HR6.out ?_)
  go_wp2
  go_ret
  exact HM6.out
end Go.Proofs.YtdjoaboalknlkaaGreatDoor
namespace Go.Proofs.YtdjoaboalknlkaaGreatDoor
open Go.RowKit Go.Maps Go.Sort

theorem EvIn.keepB {w w' : World} {b : Nat} {e : Ev} (h : EvIn w b e) (hb : w'.heap[b]? = w.heap[b]?) : EvIn w' b e := by
  obtain ⟨h0, h1, h2, h3, h4, h5, h6, h7⟩ := h
  have key : ∀ (o : Nat) u, w.cell? ⟨b, o, none⟩ = some u → w'.cell? ⟨b, o, none⟩ = some u := fun o u hu => (World.cell?_of_block (w := w) (a := ⟨b, o, none⟩) hb).trans hu
  exact ⟨key _ _ h0, key _ _ h1, key _ _ h2, key _ _ h3, key _ _ h4, key _ _ h5, key _ _ h6, key _ _ h7⟩
/-- a row of bytes of the call's own goes on beside an event -/
structure EnM (w : World) (be : Nat) (e : Ev) (v : Value) (l : List UInt8) (w' : World) : Prop where
  own : OwnB w' w.heap.size v l
  ne : ∀ b, v.ownBlock = some b → b ≠ be
  ev : EvIn w' be e
  bel : Below w.heap.size w w'
  lt : be < w'.heap.size
  ge : w.heap.size ≤ be
theorem EnM.next {w w' w2 : World} {be : Nat} {e : Ev} {v v2 : Value} {l l2 : List UInt8} (h : EnM w be e v l w') (h2 : PnM w' w.heap.size v l2 v2 w2) : EnM w be e v2 l2 w2 := by
  have hs := h2.keep.size
  have hs0 := h.bel.size
  refine ⟨h2.own, fun b hb e' => ?_, h.ev.keepB (h2.keep.block be h.lt (fun hb => h.ne _ hb rfl)), h.bel.trans (h2.keep.below hs0 (fun k hk hv => by have := h.own.lt k hv; omega)), by have := h.lt; omega, h.ge⟩
  rcases h2.blk b hb with h' | h'
  · exact h.ne b h' e'
  · have := h.lt; omega
def EncP (w : World) (l : List UInt8) (er : Int) (e : Ending) (w' : World) : Prop := ∃ v, e = .returned (.tuple #[v, .int .i64 er]) ∧ OwnB w' w.heap.size v l ∧ Below w.heap.size w w'
set_option maxRecDepth 100000 in
set_option maxHeartbeats 4000000 in
theorem evenc_any (w : World) (e : Ev) (hm : mayB e = true) (hmx : MaxAt w) : Calls Tryz.prog 44 #[e.agg] w (EncP w (encE e) 0) := by
  have hf := mayB_fit hm
  have HL := Lib.hid hf.len
  have hsm := hf.small
  obtain ⟨a1, a2, a3, a4, a5, a6, a7, a8, a9, a10, a11, a12⟩ := hf
  have hmay := may_any (w.alloc (evObj e)) e hsm (hmx.up ((Below.refl _ _).alloc (Nat.le_refl _) _))
  rw [hm] at hmay
  have hE : encE e = UInt8.ofNat e.kind.toNat :: (textB e.src ++ numB e.num.toNat ++ numB e.at_.toNat ++ textB e.per ++ textB e.item ++ numB e.val.toNat ++ textB e.text) := rfl
  have hin := EvIn.new w e
  have hb0 : Below w.heap.size w (w.alloc (evObj e)) := (Below.refl _ _).alloc (Nat.le_refl _) _
  clear hm hmx hsm
  have hagg : e.agg = .agg #[.string ⟨e.src.toArray⟩, .int .i64 e.num, .int .i64 e.at_, .int .i64 e.kind, .string ⟨e.per.toArray⟩, .string ⟨e.item.toArray⟩, .int .i64 e.val, .string ⟨e.text.toArray⟩] := rfl
  have HY := Lib.hid hmay
  clear hmay
  obtain ⟨src, num, at_, kind, per, item, val, text⟩ := e
  simp only at *
  obtain ⟨n, rfl⟩ := Int.eq_ofNat_of_zero_le (show 0 ≤ num by omega)
  obtain ⟨a, rfl⟩ := Int.eq_ofNat_of_zero_le a7
  obtain ⟨k, rfl⟩ := Int.eq_ofNat_of_zero_le a11
  obtain ⟨vl, rfl⟩ := Int.eq_ofNat_of_zero_le a9
  simp only [Int.toNat_natCast] at hE
  obtain ⟨L1, hL1⟩ : ∃ l, l = [UInt8.ofNat k] ++ textB src := ⟨_, rfl⟩
  obtain ⟨L2, hL2⟩ : ∃ l, l = L1 ++ numB n := ⟨_, rfl⟩
  obtain ⟨L3, hL3⟩ : ∃ l, l = L2 ++ numB a := ⟨_, rfl⟩
  obtain ⟨L4, hL4⟩ : ∃ l, l = L3 ++ textB per := ⟨_, rfl⟩
  obtain ⟨L5, hL5⟩ : ∃ l, l = L4 ++ textB item := ⟨_, rfl⟩
  obtain ⟨L6, hL6⟩ : ∃ l, l = L5 ++ numB vl := ⟨_, rfl⟩
  obtain ⟨L7, hL7⟩ : ∃ l, l = L6 ++ textB text := ⟨_, rfl⟩
  have hEL : encE ⟨src, n, a, k, per, item, vl, text⟩ = L7 := by rw [hE, hL7, hL6, hL5, hL4, hL3, hL2, hL1]; simp
  rw [hEL] at HL ⊢
  have hlen := HL.out
  have e7 : L6.length ≤ L7.length := by rw [hL7]; simp
  have e6 : L5.length ≤ L6.length := by rw [hL6]; simp
  have e5 : L4.length ≤ L5.length := by rw [hL5]; simp
  have e4 : L3.length ≤ L4.length := by rw [hL4]; simp
  have e3 : L2.length ≤ L3.length := by rw [hL3]; simp
  have e2 : L1.length ≤ L2.length := by rw [hL2]; simp
  have H1 := Lib.hid hL1; have H2 := Lib.hid hL2; have H3 := Lib.hid hL3; have H4 := Lib.hid hL4; have H5 := Lib.hid hL5; have H6 := Lib.hid hL6; have H7 := Lib.hid hL7
  clear hL1 hL2 hL3 hL4 hL5 hL6 hL7 hE hEL HL
  rw [hagg]
  clear hagg
  have HIN := Lib.hid hin; have HB0 := Lib.hid hb0
  clear hin hb0
  go_enter Tryz.func44, Tryz.ntmps44
  go_wp2_with fail
  refine HY.out.mono ?_
  rintro r w1 ⟨rfl, hb1⟩
  have hin1 := HIN.out.below hb1 (by simp)
  have hbw1 : Below w.heap.size w w1 := HB0.out.trans (hb1.mono HB0.out.size)
  have hs1 : w.heap.size + 1 ≤ w1.heap.size := by have := hb1.size; simpa using this
  have HIN1 := Lib.hid hin1
  have HBW1 := Lib.hid hbw1
  obtain ⟨f0, f1, f2, f3, f4, f5, f6, f7⟩ := hin1
  clear hb1 hbw1 HIN HB0 HY
  have hk : (k : Int) % 256 = (k : Int) := by omega
  have HM := Lib.hid (show EnM w w.heap.size ⟨src, n, a, k, per, item, vl, text⟩ (.slice (some ⟨w1.heap.size, 0, none⟩) 1 1) [UInt8.ofNat k] (w1.alloc (.cells #[.int .u8 k] 5)) from by
    refine ⟨?_, fun b hb e => ?_, HIN1.out.keepB (heap_alloc_old _ _ (by omega)), HBW1.out.alloc HBW1.out.size _, by simp; omega, Nat.le_refl _⟩
    · have := World.ownsRow_lit (base := w.heap.size) (e := 5) (size := 1) w1 #[.int .u8 k] 1 HBW1.out.size (by simp [maxLen]) rfl
      unfold OwnB
      have e : bvs [UInt8.ofNat k] = [.int .u8 k] := by simp [bvs]; omega
      rw [e]; exact this
    · simp [Value.ownBlock] at hb; omega)
  -- the calls
  obtain ⟨g0, _⟩ := HM.out.ev
  clear f0 f1 f2 f4 f5 f6 f7 HIN1 HBW1
  simp only at f3 g0
  go_upto_region 4 with fail
  clear f3
  generalize w1.alloc (.cells #[.int .u8 k] 5) = w2 at *
  clear hs1
  go_wp2_with fail
  with_reducible refine (evtext_any w2 w.heap.size (.slice (some ⟨w1.heap.size, 0, none⟩) 1 1) [UInt8.ofNat k] HM.out.own HM.out.bel.size src (by omega) (by first | omega | simp)).mono ?_
  rintro r w3 ⟨v3, rfl, hp⟩
  rw [← H1.out] at hp
  replace HM := Lib.hid (HM.out.next hp)
  clear hp g0
  obtain ⟨_, g1, _⟩ := HM.out.ev
  simp only at g1
  go_wp2_with fail
  with_reducible refine (evnum_any w3 w.heap.size v3 L1 HM.out.own HM.out.bel.size n (by omega) (by first | omega | simp)).mono ?_
  rintro r w4 ⟨v4, rfl, hp⟩
  rw [← H2.out] at hp
  replace HM := Lib.hid (HM.out.next hp)
  clear hp g1
  obtain ⟨_, _, g2, _⟩ := HM.out.ev
  simp only at g2
  go_wp2_with fail
  with_reducible refine (evnum_any w4 w.heap.size v4 L2 HM.out.own HM.out.bel.size a (by omega) (by first | omega | simp)).mono ?_
  rintro r w5 ⟨v5, rfl, hp⟩
  rw [← H3.out] at hp
  replace HM := Lib.hid (HM.out.next hp)
  clear hp g2
  obtain ⟨_, _, _, _, g4, _⟩ := HM.out.ev
  simp only at g4
  go_wp2_with fail
  with_reducible refine (evtext_any w5 w.heap.size v5 L3 HM.out.own HM.out.bel.size per (by omega) (by first | omega | simp)).mono ?_
  rintro r w6 ⟨v6, rfl, hp⟩
  rw [← H4.out] at hp
  replace HM := Lib.hid (HM.out.next hp)
  clear hp g4
  obtain ⟨_, _, _, _, _, g5, _⟩ := HM.out.ev
  simp only at g5
  go_wp2_with fail
  with_reducible refine (evtext_any w6 w.heap.size v6 L4 HM.out.own HM.out.bel.size item (by omega) (by first | omega | simp)).mono ?_
  rintro r w7 ⟨v7, rfl, hp⟩
  rw [← H5.out] at hp
  replace HM := Lib.hid (HM.out.next hp)
  clear hp g5
  obtain ⟨_, _, _, _, _, _, g6, _⟩ := HM.out.ev
  simp only at g6
  go_wp2_with fail
  with_reducible refine (evnum_any w7 w.heap.size v7 L5 HM.out.own HM.out.bel.size vl (by omega) (by first | omega | simp)).mono ?_
  rintro r w8 ⟨v8, rfl, hp⟩
  rw [← H6.out] at hp
  replace HM := Lib.hid (HM.out.next hp)
  clear hp g6
  obtain ⟨_, _, _, _, _, _, _, g7⟩ := HM.out.ev
  simp only at g7
  go_wp2_with fail
  with_reducible refine (evtext_any w8 w.heap.size v8 L6 HM.out.own HM.out.bel.size text (by omega) (by first | omega | simp)).mono ?_
  rintro r w9 ⟨v9, rfl, hp⟩
  rw [← H7.out] at hp
  replace HM := Lib.hid (HM.out.next hp)
  clear hp g7
  obtain ⟨A9, c9, hv9⟩ := HM.out.own.form
  subst hv9
  go_wp2
  go_ret2
  exact ⟨_, rfl, HM.out.own, HM.out.bel⟩
end Go.Proofs.YtdjoaboalknlkaaGreatDoor
namespace Go.Proofs.YtdjoaboalknlkaaGreatDoor
open Go.RowKit Go.Maps Go.Sort

theorem BxSt.up {w W V : World} {base bx : Nat} {l : List UInt8} {v : Value} (h : BxSt w base bx l v W) (hb : Below W.heap.size W V) (hB : base ≤ W.heap.size) : BxSt w base bx l v V :=
  ⟨OwnB.below h.own hb (Nat.le_refl _), (hb.block _ h.blt).trans h.box, h.bel.trans (hb.mono hB), h.kept.trans fun k _ ho _ _ => (hb.block k (Array.getElem?_eq_some_iff.1 ho).1).trans ho⟩
set_option maxRecDepth 100000 in
set_option maxHeartbeats 4000000 in
theorem snline_any (w : World) (base bx : Nat) (l : List UInt8) (v : Value) (ho : OwnB w base v l) (hbox : w.heap[bx]? = some (byBox v)) (hbx : base ≤ bx) (s : List UInt8) (n : Int) (h0 : -9223372036854775808 ≤ n) (h1 : n ≤ 9223372036854775807) (hl : l.length + s.length ≤ 100000000) (htab : Lib.TabBelow Tryz.prog base w "internal/strconv.uint64pow10" .u64 Lib.pow10Tab) :
    Calls Tryz.prog 40 #[.string ⟨s.toArray⟩, .int .i64 n, .pointer (some ⟨bx, 0, none⟩)] w (LnPost w base bx (l ++ lineB s [n])) := by
  have hblt : bx < w.heap.size := (Array.getElem?_eq_some_iff.1 hbox).1
  have hbase : base ≤ w.heap.size := by omega
  have HST := Lib.hid (show BxSt w base bx l v w from ⟨ho, hbox, Below.refl _ _, Lib.OthersKept.refl _ _ _⟩)
  have HT := Lib.hid htab
  have HLB := Lib.hid (show l ++ lineB s [n] = l ++ s ++ [32] ++ Lib.itoa n ++ [10] from by unfold lineB numsB; simp)
  clear ho hbox htab
  obtain ⟨c0, f0⟩ := HST.out.cell
  obtain ⟨v1, w1, hr1, ho1, hg1⟩ := app_str1 w base v l s HST.out.own hbase (by omega) 22
  obtain ⟨A1, k1, rfl⟩ := ho1.formA
  have HR1 := Lib.hid hr1
  have HS1 := Lib.hid (HST.out.str hbase ho1 hg1 hbx)
  obtain ⟨c1, f1⟩ := HST.out.mid0 hg1
  have hil := Lib.itoa_length_le n h0 h1
  clear hr1 ho1 hg1 HST
  go_enter Tryz.func40, Tryz.ntmps40
  go_upto_region 1 with (at_builtin; refine Lib.wpList_append_run _ rfl (.tmp 5) (.tmp 6) _ _ rfl _ _ rfl rfl _ _ HR1.out ?_)
  clear c0 f0 c1 f1 HR1
  generalize w1.setCell ⟨bx, 0, none⟩ (.slice A1 (l.length + s.length) k1) = w2 at *
  have HLS := Lib.hid (show (l ++ s).length = l.length + s.length from List.length_append)
  generalize l ++ s = P at *
  obtain ⟨c0, f0⟩ := HS1.out.cell
  have hs2 := HS1.out.bel.size
  have hpl := HLS.out
  go_wp2_with (at_builtin; refine wpList_app8 rfl (.tmp 8) (.tmp 9) rfl base _ P rfl ?c1 (w2.heap.size + 1) _ _ _ [32] rfl ?c2 ?c3 ?c4 ?_)
  case c1 => exact OwnB.alloc HS1.out.own _
  case c2 => exact Byt.new w2 _ _ [32] rfl 1 rfl (by unfold maxLen; omega)
  case c3 => have := HLS.out; first | omega | (simp; omega)
  case c4 => first | omega | (simp; omega)
  intro v2 w3 ho2 hg2 hv2
  obtain ⟨A2, k2, rfl⟩ := ho2.formS
  obtain ⟨c2, f2⟩ := HS1.out.mid _ hg2
  have HS2 := Lib.hid (HS1.out.app (by omega) _ ho2 hg2 hbx)
  clear ho2 hg2 c0 f0 HS1
  go_upto_region 2 with fail
  rw [← hpl]
  clear hpl
  have HPL2 := Lib.hid (show (P ++ [32]).length = P.length + 1 from by simp)
  generalize P ++ [32] = P2 at *
  generalize w3.setCell ⟨bx, 0, none⟩ (.slice A2 (P.length + 1) k2) = w4 at *
  obtain ⟨c0, f0⟩ := HS2.out.cell
  have hs4 := HS2.out.bel.size
  have HAP := Lib.hid (appint_any w4 base _ P2 HS2.out.own (by omega) n (by omega) (by omega) (by have := HPL2.out; have := HLS.out; omega) (HT.out.on HS2.out.bel))
  clear c2 f2
  go_wp2_with fail
  with_reducible refine HAP.out.mono ?_
  rintro r w5 ⟨v5, rfl, ho5, hb5, hk5⟩
  obtain ⟨A5, k5, rfl⟩ := ho5.formA
  obtain ⟨c5, f5⟩ := HS2.out.midK hk5
  have HS5 := Lib.hid (HS2.out.put ho5 hb5 hk5 hbx)
  have HPL5 := Lib.hid (show (P2 ++ Lib.itoa n).length = P2.length + (Lib.itoa n).length from List.length_append)
  clear ho5 hb5 hk5 HAP c0 f0 HS2
  go_upto_region 3 with fail
  rw [← HPL5.out]
  clear c5 f5
  generalize hq : w5.setCell ⟨bx, 0, none⟩ (.slice A5 (P2 ++ Lib.itoa n).length k5) = w6 at *
  rw [← HPL5.out, hq] at HS5
  clear hq
  generalize P2 ++ Lib.itoa n = P5 at *
  obtain ⟨c0, f0⟩ := HS5.out.cell
  have hs6 := HS5.out.bel.size
  go_wp2_with (at_builtin; refine wpList_app8 rfl (.tmp 14) (.tmp 15) rfl base _ P5 rfl ?c1 (w6.heap.size + 1) _ _ _ [10] rfl ?c2 ?c3 ?c4 ?_)
  case c1 => exact OwnB.alloc HS5.out.own _
  case c2 => exact Byt.new w6 _ _ [10] rfl 1 rfl (by unfold maxLen; omega)
  case c3 => have := HPL5.out; have := HPL2.out; have := HLS.out; first | omega | (simp; omega)
  case c4 => first | omega | (simp; omega)
  intro v7 w7 ho7 hg7 hv7
  obtain ⟨A7, k7, rfl⟩ := ho7.formS
  obtain ⟨c7, f7⟩ := HS5.out.mid _ hg7
  have HS7 := Lib.hid (HS5.out.app (by omega) _ ho7 hg7 hbx)
  clear ho7 hg7 c0 f0 HS5
  have HE := Lib.hid (show LnPost w base bx (P5 ++ [10]) (.returned (.tuple #[])) _ from ⟨rfl, _, HS7.out⟩)
  rw [HLB.out]
  clear hv2 hv7
  go_wp2
  go_end0
  exact HE.out
/-- the box of the closure that writes a line -/
abbrev lnBox (bx : Nat) : Obj := .cells #[.func (Fn.func 40) #[] #[.pointer (some ⟨bx, 0, none⟩)]] 93
theorem BxSt.line {w W : World} {base bx bl : Nat} {l : List UInt8} {v : Value} (h : BxSt w base bx l v W) (hl : w.heap[bl]? = some (lnBox bx)) (hb : w.heap[bx]? = some (byBox v) ∨ bl ≠ bx) : W.heap[bl]? = some (lnBox bx) := by
  refine h.kept bl _ hl (fun e => ?_) (fun c fz e => by injection e with _ e; exact absurd e (by decide))
  injection e with e
  rcases hb with hb | hb
  · rw [← e, hl] at hb; injection hb with hb; injection hb with _ hb; exact absurd hb (by decide)
  · first | exact hb e | exact hb e.symm
set_option maxRecDepth 100000 in
set_option maxHeartbeats 4000000 in
theorem snsome_any (w : World) (base bx bl : Nat) (l : List UInt8) (v : Value) (ho : OwnB w base v l) (hbox : w.heap[bx]? = some (byBox v)) (hbx : base ≤ bx) (hline : w.heap[bl]? = some (lnBox bx)) (s d : List UInt8) (A : Option Addr) (n c : Nat) (hd : Byt w base A n c d) (hn : n ≤ 1000000000) (hl : l.length + s.length + n ≤ 50000000) (htab : Lib.TabBelow Tryz.prog base w "internal/strconv.uint64pow10" .u64 Lib.pow10Tab) :
    Calls Tryz.prog 42 #[.string ⟨s.toArray⟩, .slice A n c, .pointer (some ⟨bl, 0, none⟩), .pointer (some ⟨bx, 0, none⟩)] w (LnPost w base bx (l ++ lineB s [(n : Int)] ++ d)) := by
  obtain rfl : d.length = n := hd.len
  have HLN := Lib.hid (snline_any w base bx l v ho hbox hbx s d.length (by omega) (by omega) (by omega) htab)
  have HD := Lib.hid hd
  have hblt : bx < w.heap.size := (Array.getElem?_eq_some_iff.1 hbox).1
  have c0 : w.cell? ⟨bl, 0, none⟩ = some (.func (Fn.func 40) #[] #[.pointer (some ⟨bx, 0, none⟩)]) := (cell_of_row w bl 0 _ _ (0, 0) hline).trans rfl
  have hll := Lib.itoa_length_le d.length (by omega) (by omega)
  have HLL := Lib.hid (show (l ++ lineB s [(d.length : Int)]).length ≤ 60000000 from by unfold lineB numsB; simp; omega)
  clear hd htab hline ho hbox
  go_enter Tryz.func42, Tryz.ntmps42
  go_wp2_with fail
  with_reducible refine HLN.out.mono ?_
  rintro r w1 ⟨rfl, v1, h1⟩
  have HS := Lib.hid h1
  clear h1 c0 HLN
  generalize l ++ lineB s [(d.length : Int)] = P at *
  obtain ⟨A1, k1, rfl⟩ := HS.out.own.form
  obtain ⟨c1, f1⟩ := HS.out.cell
  have hs1 := HS.out.bel.size
  have hpl := HLL.out
  go_wp2_with (at_builtin; refine wpList_app8 rfl (.tmp 11) (.tmp 12) rfl base _ P rfl HS.out.own base _ _ _ d rfl (HD.out.below HS.out.bel) ?c3 ?c4 ?_)
  case c3 => omega
  case c4 => omega
  intro v2 w2 ho2 hg2 hv2
  obtain ⟨A2, k2, rfl⟩ := ho2.formA
  obtain ⟨c2, f2⟩ := HS.out.mid0 hg2
  have HE := Lib.hid (show LnPost w base bx (P ++ d) (.returned (.tuple #[])) _ from ⟨rfl, _, HS.out.str (by omega) ho2 hg2 hbx⟩)
  clear ho2 hg2 hv2 c1 f1 HS
  go_wp2
  go_end0
  exact HE.out
theorem evsT_take (es : List Ev) (k : Nat) (hk : k < es.length) : evsT (es.take (k + 1)) = evsT (es.take k) ++ encE es[k] := by
  unfold evsT
  rw [List.take_add_one, List.getElem?_eq_getElem hk, Option.toList_some, List.flatMap_append]
  simp
theorem evsT_len (es : List Ev) (h : ∀ e ∈ es, mayB e = true) : (evsT es).length ≤ 1229 * es.length := by
  induction es with
  | nil => simp [evsT]
  | cons e es ih =>
    have h1 := ih fun x hx => h x (List.mem_cons_of_mem _ hx)
    have h2 := (mayB_fit (h e (List.mem_cons_self))).len
    have h3 : evsT (e :: es) = encE e ++ evsT es := by simp [evsT]
    rw [h3, List.length_append, List.length_cons]
    omega
def SeRel (w : World) (base bx : Nat) (L : List UInt8) (es : List Ev) (i : Value) (wr : World) : Prop := ∃ (k : Nat) (v : Value), i = .int .i64 k ∧ k ≤ es.length ∧ BxSt w base bx (L ++ evsT (es.take k)) v wr
set_option maxRecDepth 100000 in
set_option maxHeartbeats 4000000 in
theorem snevs_any (w : World) (base bx bl : Nat) (l : List UInt8) (v : Value) (ho : OwnB w base v l) (hbox : w.heap[bx]? = some (byBox v)) (hbx : base ≤ bx) (hline : w.heap[bl]? = some (lnBox bx)) (s : List UInt8) (es : List Ev) (A : Option Addr) (n c : Nat) (hd : Evs w base A n c es) (hm : ∀ e ∈ es, mayB e = true) (hn : n ≤ 10000) (hl : l.length + s.length ≤ 50000000) (hmx : ∀ W, Below base w W → MaxAt W) (htab : Lib.TabBelow Tryz.prog base w "internal/strconv.uint64pow10" .u64 Lib.pow10Tab) :
    Calls Tryz.prog 43 #[.string ⟨s.toArray⟩, .slice A n c, .pointer (some ⟨bl, 0, none⟩), .pointer (some ⟨bx, 0, none⟩)] w (LnPost w base bx (l ++ lineB s [(n : Int)] ++ evsT es)) := by
  obtain rfl : es.length = n := hd.len
  have HLN := Lib.hid (snline_any w base bx l v ho hbox hbx s es.length (by omega) (by omega) (by omega) htab)
  have HD := Lib.hid hd; have HM := Lib.hid hm; have HMX := Lib.hid hmx
  have hblt : bx < w.heap.size := (Array.getElem?_eq_some_iff.1 hbox).1
  have c0 : w.cell? ⟨bl, 0, none⟩ = some (.func (Fn.func 40) #[] #[.pointer (some ⟨bx, 0, none⟩)]) := (cell_of_row w bl 0 _ _ (0, 0) hline).trans rfl
  have hll := Lib.itoa_length_le es.length (by omega) (by omega)
  have HLL := Lib.hid (show (l ++ lineB s [(es.length : Int)]).length ≤ 60000000 from by unfold lineB numsB; simp; omega)
  have HTL := Lib.hid (show ∀ k, (evsT (es.take k)).length ≤ 1229 * 10000 from fun k => by
    have h1 := evsT_len (es.take k) fun e he => hm e (List.mem_of_mem_take he)
    have h2 : (es.take k).length ≤ es.length := by rw [List.length_take]; omega
    omega)
  clear hd hm hmx htab hline ho hbox
  go_enter Tryz.func43, Tryz.ntmps43
  go_wp2_with fail
  with_reducible refine HLN.out.mono ?_
  rintro r w1 ⟨rfl, v1, h1⟩
  have HR0 := Lib.hid (show SeRel w base bx (l ++ lineB s [(es.length : Int)]) es (.int .i64 ((0 : Nat) : Int)) w1 from ⟨0, v1, rfl, Nat.zero_le _, by simpa [evsT] using h1⟩)
  clear h1 c0 HLN
  generalize l ++ lineB s [(es.length : Int)] = P at *
  go_wp2
  go_loopw [17] (fun i wr => SeRel w base bx P es i wr) (fun i _ => es.length - (intOf i).toNat)
  case atStart => exact HR0.out
  case round =>
    obtain ⟨k, vk, rfl, hk, hst⟩ := hrel
    have HS := Lib.hid hst
    have hsr := hst.bel.size
    have HPL := Lib.hid (show (P ++ evsT (es.take k)).length ≤ 80000000 from by have := HLL.out; have := HTL.out k; rw [List.length_append]; omega)
    clear hst HR0
    by_cases hkn : k < es.length
    · have t1 : (k : Int) < es.length := by omega
      obtain ⟨b, off, hA, hb, hev⟩ := (show Evs wr base A es.length c es from Cel.below HD.out HS.out.bel).ev k hkn
      obtain ⟨e0, e1, e2, e3, e4, e5, e6, e7⟩ := hev
      have HME := Lib.hid (HM.out _ (List.getElem_mem hkn))
      have HTK := Lib.hid (evsT_take es k hkn)
      generalize es[k] = e at *
      subst hA
      go_upto_region 4 with fail
      have hbA : Below wr.heap.size wr (wr.alloc (evObj e)) := (Below.refl _ _).alloc (Nat.le_refl _) _
      have HSA := Lib.hid (HS.out.up hbA (by omega))
      have HEI := Lib.hid (EvIn.new wr e)
      have HMW := Lib.hid (HMX.out _ HSA.out.bel)
      have hsA := hbA.size
      have HL3 := Lib.hid (show (P ++ evsT (es.take k)) ++ encE e = P ++ evsT (es.take (k + 1)) from by rw [HTK.out]; simp)
      have hel := (mayB_fit HME.out).len
      clear e0 e1 e2 e3 e4 e5 e6 e7 hbA HTK HS
      generalize wr.alloc (evObj e) = w2 at *
      generalize P ++ evsT (es.take k) = Q at *
      obtain ⟨e0, e1, e2, e3, e4, e5, e6, e7⟩ := HEI.out
      have HEN := Lib.hid (evenc_any w2 e HME.out HMW.out)
      unfold Ev.agg at HEN
      go_wp2_with fail
      with_reducible refine HEN.out.mono ?_
      rintro r w3 ⟨v3, rfl, ho3, hb3⟩
      obtain ⟨A3, k3, rfl⟩ := ho3.form
      have HB3 := Lib.hid ho3.byt
      have HS3 := Lib.hid (HSA.out.up hb3 (by omega))
      obtain ⟨A4, k4, rfl⟩ := HS3.out.own.form
      obtain ⟨c1, f1⟩ := HS3.out.cell
      have hs3 := HS3.out.bel.size
      have hpl := HPL.out
      clear ho3 hb3 HEN e0 e1 e2 e3 e4 e5 e6 e7 HEI HSA
      go_wp2_with (at_builtin; refine wpList_app8 rfl (.tmp 26) (.tmp 27) rfl base _ Q rfl HS3.out.own w3.heap.size _ _ _ (encE e) rfl HB3.out ?c3 ?c4 ?_)
      case c3 => omega
      case c4 => omega
      intro v5 w5 ho5 hg5 hv5
      obtain ⟨A5, k5, rfl⟩ := ho5.formA
      obtain ⟨c2, f2⟩ := HS3.out.mid0 hg5
      have HS5 := Lib.hid (HS3.out.str (by omega) ho5 hg5 hbx)
      rw [HL3.out] at HS5
      have HR5 := Lib.hid (show SeRel w base bx P es (.int .i64 ((k + 1 : Nat) : Int)) _ from ⟨k + 1, _, rfl, hkn, HS5.out⟩)
      clear ho5 hg5 hv5 c1 f1 HS3 HS5 hel
      go_wp2
      go_roundw
      case rel => exact HR5.out
      case measure => simp [intOf]; omega
    · have t1 : ¬ (k : Int) < es.length := by omega
      have hkl : k = es.length := by omega
      have HE := Lib.hid (show LnPost w base bx (P ++ evsT es) (.returned (.tuple #[])) wr from ⟨rfl, _, by have h := HS.out; rw [hkl, List.take_length] at h; exact h⟩)
      clear hkl HS
      go_wp2
      go_end0
      exact HE.out
end Go.Proofs.YtdjoaboalknlkaaGreatDoor
