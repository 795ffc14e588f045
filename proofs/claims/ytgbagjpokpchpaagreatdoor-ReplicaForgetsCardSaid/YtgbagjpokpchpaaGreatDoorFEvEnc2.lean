/-
  A row of bytes that goes on: numbers and texts put behind it.
  Layer 2: an event's bytes: putNumber, putText.
  Layer 2: event.Encode of an event that may be.
-/
import Derived.Test.YtgbagjpokpchpaaGreatDoorFEvLen
import Derived.Test.YtgbagjpokpchpaaGreatDoorFMapS
import Derived.Test.YtgbagjpokpchpaaGreatDoorFBytes
import Derived.Lib.AppendStr
import Derived.Lib.AppendZeros
import Derived.Deep.DeepCutAuto
namespace Go.Proofs.YtgbagjpokpchpaaGreatDoor
open Go.RowKit Go.Maps Go.Sort

/-- a row of bytes goes on -/
structure PnM (w : World) (base : Nat) (v : Value) (l : List UInt8) (v' : Value) (w' : World) : Prop where
  own : OwnB w' base v' l
  keep : Keep (fun b => v.ownBlock = some b) w w'
  blk : ∀ b, v'.ownBlock = some b → v.ownBlock = some b ∨ w.heap.size ≤ b
def PnPost (w : World) (base : Nat) (v : Value) (l : List UInt8) (e : Ending) (w' : World) : Prop := ∃ v', e = .returned v' ∧ PnM w base v l v' w'
def PnRel (w : World) (base : Nat) (v : Value) (l : List UInt8) (v' q : Value) (wr : World) : Prop := ∃ (n : Nat) (l' : List UInt8), q = .int .i64 n ∧ n < 4611686018427387904 ∧ l' ++ numB n = l ∧ PnM w base v l' v' wr
theorem PnM.app {w wr w2 : World} {base : Nat} {v v1 v2 : Value} {l l' : List UInt8} (h : PnM w base v l v1 wr) (o : Obj) (ho : OwnB w2 base v2 l') (hg : (wr.alloc o).grownBy w2 v1.ownBlock) (hv : v2.ownBlock = v1.ownBlock ∨ v2.ownBlock = some (wr.heap.size + 1)) : PnM w base v l' v2 w2 := by
  have hs := h.keep.size
  refine ⟨ho, (h.keep.alloc o).trans (Keep.of_grown (F := fun b => v1.ownBlock = some b) hg (fun k e => e)) (fun b hb hF => ?_), fun b hb => ?_⟩
  · rcases h.blk b hF with h' | h'
    · exact h'
    · omega
  · rcases hv with e | e
    · exact h.blk b (e ▸ hb)
    · rw [e] at hb; injection hb with hb; right; omega
theorem numB_len8 {n : Nat} (h : n < 4611686018427387904) : (numB n).length ≤ 9 := by
  by_cases h1 : n < 128
  · rw [numB_lo h1]; simp
  · rw [numB_hi h1]; have := numB_short (n := n / 128) (by omega); simp; omega
theorem or128 (x : Nat) (h : x < 256) : bits .or .u8 (x : Int) 128 = ((x % 128 + 128 : Nat) : Int) := by
  have : ∀ y : Fin 256, bits .or .u8 ((y.val : Nat) : Int) 128 = ((y.val % 128 + 128 : Nat) : Int) := by decide +kernel
  exact this ⟨x, h⟩
theorem app_str (w : World) (base : Nat) (v : Value) (l s : List UInt8) (ho : OwnB w base v l) (h0 : 0 < l.length) (hb : base ≤ w.heap.size) (hl : l.length + s.length ≤ 1000000000000) (ty : TypeId) :
    ∃ v' w', (Builtin.append_ #[83, 9] ty #[v, .string ⟨s.toArray⟩]).run Tryz.prog w = .ok v' w' ∧ OwnB w' base v' (l ++ s) ∧ w.grownBy w' v.ownBlock ∧ (v'.ownBlock = v.ownBlock ∨ v'.ownBlock = some w.heap.size) := by
  obtain ⟨i0, hi, hz0, hz1, hz2⟩ := info_parts u8_info
  have hss : (⟨s.toArray⟩ : ByteArray).size = s.length := by simp [ByteArray.size]
  have hsc : Lib.strCells ⟨s.toArray⟩ = bvs s := by simp [Lib.strCells, bvs]
  obtain ⟨v', w', hr, h2, h3, _⟩ := Lib.run_append_own_string (P := Tryz.prog) w base 83 9 ty 5 i0 Tryz.underlying83 Tryz.underlying9 hi hz0 hz1 hz2 v l.length (bvs l) ho ⟨s.toArray⟩ (by rw [hss]; unfold maxLen; omega) (by rw [hss]; omega) hb
  refine ⟨v', w', hr, ?_, h3, ?_⟩
  · unfold OwnB
    rw [bvs_append, List.length_append]
    rw [hss, hsc] at h2; exact h2
  · rcases ho.2 with ⟨_, h'⟩ | ⟨g, cap, cur, hv, hbg, hg, hnc, hcm, hcs, htake⟩
    · omega
    · subst hv
      by_cases hroom : l.length + (⟨s.toArray⟩ : ByteArray).size ≤ cap
      · have h5 := Lib.run_append_room_string (P := Tryz.prog) w 83 9 ty 5 i0 Tryz.underlying83 Tryz.underlying9 hi hz1 g l.length cap cur hg ⟨s.toArray⟩ hroom (by rw [hcs]; omega)
        rw [hr] at h5
        injection h5 with h5 _
        left; rw [h5]; rfl
      · have hxl : (bvs l).length = l.length * i0.size := by rw [hz1, bvs_length]; omega
        have h5 := Lib.run_append_grow_string (P := Tryz.prog) w 83 9 ty 5 i0 (.int .u8 0) Tryz.underlying83 Tryz.underlying9 hi hz0 ⟨g, 0, none⟩ l.length cap (bvs l) hxl (World.ownsRow.cells ho (g := g) rfl) ⟨s.toArray⟩ (by omega) (by rw [hss]; omega) (by rw [hz2, hss]; exact growslice_fits (by omega) (by omega))
        rw [hr] at h5
        injection h5 with h5 _
        right; rw [h5]; rfl
theorem PnM.then_ {w w1 w2 : World} {base : Nat} {v v1 v2 : Value} {l l' : List UInt8} (h : PnM w base v l v1 w1) (h2 : PnM w1 base v1 l' v2 w2) : PnM w base v l' v2 w2 := by
  have hs := h.keep.size
  refine ⟨h2.own, h.keep.trans h2.keep (fun b hb hF => ?_), fun b hb => ?_⟩
  · rcases h.blk b hF with h' | h'
    · exact h'
    · omega
  · rcases h2.blk b hb with h' | h'
    · exact h.blk b h'
    · right; omega
theorem PnM.up {w w1 w2 : World} {base : Nat} {v v1 : Value} {l : List UInt8} (h : PnM w base v l v1 w1) (hb : Below w1.heap.size w1 w2) : PnM w base v l v1 w2 :=
  ⟨h.own.below hb (Nat.le_refl _), h.keep.trans (G := fun _ => False) (Keep.of_below hb) (fun _ _ h => h.elim), h.blk⟩
theorem PnM.str {w wr w2 : World} {base : Nat} {v v1 v2 : Value} {l l' : List UInt8} (h : PnM w base v l v1 wr) (ho : OwnB w2 base v2 l') (hg : wr.grownBy w2 v1.ownBlock) (hv : v2.ownBlock = v1.ownBlock ∨ v2.ownBlock = some wr.heap.size) : PnM w base v l' v2 w2 := by
  have hs := h.keep.size
  refine ⟨ho, h.keep.trans (Keep.of_grown (F := fun b => v1.ownBlock = some b) hg (fun k e => e)) (fun b hb hF => ?_), fun b hb => ?_⟩
  · rcases h.blk b hF with h' | h'
    · exact h'
    · omega
  · rcases hv with e | e
    · exact h.blk b (e ▸ hb)
    · rw [e] at hb; injection hb with hb; right; omega
end Go.Proofs.YtgbagjpokpchpaaGreatDoor
namespace Go.Proofs.YtgbagjpokpchpaaGreatDoor
open Go.RowKit Go.Maps Go.Sort

theorem and127 (x : Nat) (h : x < 4611686018427387904) : bits .and .i64 (x : Int) 127 = ((x % 128 : Nat) : Int) := by
  show IntKind.i64.wrap ((BitVec.ofInt 64 (x : Int) &&& BitVec.ofInt 64 ((127 : Nat) : Int)).toNat : Int) = _
  have e : (BitVec.ofInt 64 (x : Int) &&& BitVec.ofInt 64 ((127 : Nat) : Int)).toNat = x % 128 := by
    rw [BitVec.toNat_and, BitVec.ofInt_natCast, BitVec.ofInt_natCast, BitVec.toNat_ofNat, BitVec.toNat_ofNat, Nat.mod_eq_of_lt (by omega : x < 2 ^ 64)]
    exact Nat.and_two_pow_sub_one_eq_mod x 7
  rw [e]
  simp [IntKind.wrap, IntKind.bits, IntKind.signed]; omega
set_option maxRecDepth 100000 in
set_option maxHeartbeats 2000000 in
theorem evnum_any (w : World) (base : Nat) (v : Value) (l : List UInt8) (ho : OwnB w base v l) (hb : base ≤ w.heap.size) (n : Nat) (hn : n < 4611686018427387904) (hl : l.length ≤ 200000000000) :
    Calls Tryz.prog 159 #[v, .int .i64 n] w (PnPost w base v (l ++ numB n)) := by
  have hn8 := numB_len8 hn
  have HST := Lib.hid (show PnRel w base v (l ++ numB n) v (.int .i64 n) w from ⟨n, l, rfl, hn, rfl, ho, Keep.refl _ _, fun b hb => .inl hb⟩)
  have hll : (l ++ numB n).length ≤ 200000000009 := by simp; omega
  generalize l ++ numB n = L at *
  clear ho hn8
  go_enter Tryz.func159, Tryz.ntmps159
  go_wp2
  go_loopw [0, 1] (fun v' q wr => PnRel w base v L v' q wr) (fun _ q _ => (intOf q).toNat)
  case atStart => exact HST.out
  case round =>
    obtain ⟨q, l', rfl, hq, hL, hm⟩ := hrel
    have HL := Lib.hid hL; have HM := Lib.hid hm
    have hl' : l'.length ≤ 200000000009 := by have := congrArg List.length hL; simp at this; omega
    have hsr := hm.keep.size
    clear hL hm
    by_cases hlo : q < 128
    · have t1 : ¬ (128 : Int) ≤ q := by omega
      have HB := Lib.hid (show L = l' ++ [UInt8.ofNat q] by rw [← HL.out, numB_lo hlo])
      go_wp2_with (at_builtin; refine wpList_app8 rfl (.tmp 16) (.tmp 19) rfl base _ l' rfl ?c1 (wr.heap.size + 1) _ _ _ [UInt8.ofNat q] rfl ?c2 ?c3 ?c4 ?_)
      case c1 => exact OwnB.alloc HM.out.own _
      case c2 => exact Byt.new wr _ _ [UInt8.ofNat q] (by simp; omega) 1 rfl (by unfold maxLen; omega)
      case c3 => first | omega | (simp; omega)
      case c4 => first | omega | (simp; omega)
      intro v2 w2 ho2 hg2 hv2
      have HR := Lib.hid (show PnPost w base v L (.returned v2) w2 from ⟨v2, rfl, HM.out.app _ (by rw [HB.out]; exact ho2) hg2 hv2⟩)
      clear ho2 hg2 hv2
      go_wp2
      go_ret
      exact HR.out
    · have t1 : (128 : Int) ≤ q := by omega
      have HB := Lib.hid (show L = l' ++ [UInt8.ofNat (q % 128 + 128)] ++ numB (q / 128) by rw [← HL.out, numB_hi hlo]; simp)
      have eo : bits .or .u8 (bits .and .i64 (q : Int) 127 % 256) 128 = ((q % 128 + 128 : Nat) : Int) := by
        have := or128 (q % 128) (by omega)
        rw [and127 q (by omega), show (((q % 128 : Nat) : Int)) % 256 = ((q % 128 : Nat) : Int) by omega, this]; congr 1; omega
      generalize hc : q % 128 + 128 = cN at *
      have hcl : cN < 256 := by omega
      clear hc
      go_wp2_with (at_builtin; refine wpList_app8 rfl (.tmp 7) (.tmp 12) rfl base _ l' rfl ?c1 (wr.heap.size + 1) _ _ _ [UInt8.ofNat cN] rfl ?c2 ?c3 ?c4 ?_)
      case c1 => exact OwnB.alloc HM.out.own _
      case c2 => exact Byt.new wr _ _ [UInt8.ofNat cN] (by simp; omega) 1 rfl (by unfold maxLen; omega)
      case c3 => first | omega | (simp; omega)
      case c4 => first | omega | (simp; omega)
      intro v2 w2 ho2 hg2 hv2
      have HR := Lib.hid (show PnRel w base v L v2 (.int .i64 ((q / 128 : Nat) : Int)) w2 from ⟨q / 128, l' ++ [UInt8.ofNat cN], rfl, by omega, HB.out.symm, HM.out.app _ ho2 hg2 hv2⟩)
      clear ho2 hg2 hv2 eo
      go_wp2
      go_roundw
      case rel => exact HR.out
      case measure => simp [intOf]; omega

set_option maxRecDepth 100000 in
set_option maxHeartbeats 2000000 in
theorem evtext_any (w : World) (base : Nat) (v : Value) (l : List UInt8) (ho : OwnB w base v l) (hb : base ≤ w.heap.size) (s : List UInt8) (hs : s.length ≤ 4096) (hl : l.length ≤ 200000000000) :
    Calls Tryz.prog 158 #[v, .string ⟨s.toArray⟩] w (PnPost w base v (l ++ textB s)) := by
  have HM := Lib.hid (show PnM w base v l v w from ⟨ho, Keep.refl _ _, fun b hb => .inl hb⟩)
  clear ho
  go_enter Tryz.func158, Tryz.ntmps158
  go_wp2_with (at_builtin; refine wpList_app8 rfl (.tmp 5) (.tmp 9) rfl base _ l rfl ?c1 (w.heap.size + 1) _ _ _ [UInt8.ofNat s.length] rfl ?c2 ?c3 ?c4 ?_)
  case c1 => exact OwnB.alloc HM.out.own _
  case c2 => exact Byt.new w _ _ [UInt8.ofNat s.length] (by simp) 1 rfl (by unfold maxLen; omega)
  case c3 => first | omega | (simp; omega)
  case c4 => first | omega | (simp; omega)
  intro v5 w5 ho5 hg5 hv5
  have HM5 := Lib.hid (HM.out.app _ ho5 hg5 hv5)
  clear ho5 hg5 hv5 HM
  have hs5 := HM5.out.keep.size
  obtain ⟨v6, w6, hr6, ho6, hg6, hv6⟩ := app_str w5 base v5 (l ++ [UInt8.ofNat s.length]) s HM5.out.own (by simp) (by omega) (by simp; omega) 83
  have HR6 := Lib.hid hr6
  have HM6 := Lib.hid (show PnPost w base v (l ++ textB s) (.returned v6) w6 from ⟨v6, rfl, by
    have := HM5.out.str ho6 hg6 hv6
    rw [List.append_assoc] at this; exact this⟩)
  clear hr6 ho6 hg6 hv6
  go_wp2_with (at_builtin; refine Lib.wpList_append_run _ rfl (.tmp 11) (.tmp 12) _ _ rfl _ _ rfl rfl _ _ HR6.out ?_)
  go_wp2
  go_ret
  exact HM6.out
end Go.Proofs.YtgbagjpokpchpaaGreatDoor
namespace Go.Proofs.YtgbagjpokpchpaaGreatDoor
open Go.RowKit Go.Maps Go.Sort

theorem EvIn.keepB {w w' : World} {b : Nat} {e : Ev} (h : EvIn w b e) (hb : w'.heap[b]? = w.heap[b]?) : EvIn w' b e := by
  obtain ⟨h0, h1, h2, h3, h4, h5, h6, h7⟩ := h
  have key : ∀ (o : Nat) u, w.cell? ⟨b, o, none⟩ = some u → w'.cell? ⟨b, o, none⟩ = some u := fun o u hu => (World.cell?_of_block (w := w) (a := ⟨b, o, none⟩) hb).trans hu
  exact ⟨key _ _ h0, key _ _ h1, key _ _ h2, key _ _ h3, key _ _ h4, key _ _ h5, key _ _ h6, key _ _ h7⟩
/-- a row of bytes of the call's own goes on beside an event -/
structure EnM (w : World) (be : Nat) (e : Ev) (v : Value) (l : List UInt8) (w' : World) : Prop where
  own : OwnB w' w.heap.size v l
  ne : ∀ b, v.ownBlock = some b → b ≠ be
  ev : EvIn w' be e
  bel : Below w.heap.size w w'
  lt : be < w'.heap.size
  ge : w.heap.size ≤ be
theorem EnM.next {w w' w2 : World} {be : Nat} {e : Ev} {v v2 : Value} {l l2 : List UInt8} (h : EnM w be e v l w') (h2 : PnM w' w.heap.size v l2 v2 w2) : EnM w be e v2 l2 w2 := by
  have hs := h2.keep.size
  have hs0 := h.bel.size
  refine ⟨h2.own, fun b hb e' => ?_, h.ev.keepB (h2.keep.block be h.lt (fun hb => h.ne _ hb rfl)), h.bel.trans (h2.keep.below hs0 (fun k hk hv => by have := h.own.lt k hv; omega)), by have := h.lt; omega, h.ge⟩
  rcases h2.blk b hb with h' | h'
  · exact h.ne b h' e'
  · have := h.lt; omega
def EncP (w : World) (l : List UInt8) (er : Int) (e : Ending) (w' : World) : Prop := ∃ v, e = .returned (.tuple #[v, .int .i64 er]) ∧ OwnB w' w.heap.size v l ∧ Below w.heap.size w w'
set_option maxRecDepth 100000 in
set_option maxHeartbeats 4000000 in
theorem evenc_any (w : World) (e : Ev) (hm : mayB e = true) (hmx : MaxAt w) : Calls Tryz.prog 109 #[e.agg] w (EncP w (encE e) 0) := by
  have hf := mayB_fit hm
  have HL := Lib.hid hf.len
  have hsm := hf.small
  obtain ⟨a1, a2, a3, a4, a5, a6, a7, a8, a9, a10, a11, a12⟩ := hf
  have hmay := may_any (w.alloc (evObj e)) e hsm (hmx.up ((Below.refl _ _).alloc (Nat.le_refl _) _))
  rw [hm] at hmay
  have hE : encE e = UInt8.ofNat e.kind.toNat :: (textB e.src ++ numB e.num.toNat ++ numB e.at_.toNat ++ textB e.per ++ textB e.item ++ numB e.val.toNat ++ textB e.text) := rfl
  have hin := EvIn.new w e
  have hb0 : Below w.heap.size w (w.alloc (evObj e)) := (Below.refl _ _).alloc (Nat.le_refl _) _
  clear hm hmx hsm
  have hagg : e.agg = .agg #[.string ⟨e.src.toArray⟩, .int .i64 e.num, .int .i64 e.at_, .int .i64 e.kind, .string ⟨e.per.toArray⟩, .string ⟨e.item.toArray⟩, .int .i64 e.val, .string ⟨e.text.toArray⟩] := rfl
  have HY := Lib.hid hmay
  clear hmay
  obtain ⟨src, num, at_, kind, per, item, val, text⟩ := e
  simp only at *
  obtain ⟨n, rfl⟩ := Int.eq_ofNat_of_zero_le (show 0 ≤ num by omega)
  obtain ⟨a, rfl⟩ := Int.eq_ofNat_of_zero_le a7
  obtain ⟨k, rfl⟩ := Int.eq_ofNat_of_zero_le a11
  obtain ⟨vl, rfl⟩ := Int.eq_ofNat_of_zero_le a9
  simp only [Int.toNat_natCast] at hE
  obtain ⟨L1, hL1⟩ : ∃ l, l = [UInt8.ofNat k] ++ textB src := ⟨_, rfl⟩
  obtain ⟨L2, hL2⟩ : ∃ l, l = L1 ++ numB n := ⟨_, rfl⟩
  obtain ⟨L3, hL3⟩ : ∃ l, l = L2 ++ numB a := ⟨_, rfl⟩
  obtain ⟨L4, hL4⟩ : ∃ l, l = L3 ++ textB per := ⟨_, rfl⟩
  obtain ⟨L5, hL5⟩ : ∃ l, l = L4 ++ textB item := ⟨_, rfl⟩
  obtain ⟨L6, hL6⟩ : ∃ l, l = L5 ++ numB vl := ⟨_, rfl⟩
  obtain ⟨L7, hL7⟩ : ∃ l, l = L6 ++ textB text := ⟨_, rfl⟩
  have hEL : encE ⟨src, n, a, k, per, item, vl, text⟩ = L7 := by rw [hE, hL7, hL6, hL5, hL4, hL3, hL2, hL1]; simp
  rw [hEL] at HL ⊢
  have hlen := HL.out
  have e7 : L6.length ≤ L7.length := by rw [hL7]; simp
  have e6 : L5.length ≤ L6.length := by rw [hL6]; simp
  have e5 : L4.length ≤ L5.length := by rw [hL5]; simp
  have e4 : L3.length ≤ L4.length := by rw [hL4]; simp
  have e3 : L2.length ≤ L3.length := by rw [hL3]; simp
  have e2 : L1.length ≤ L2.length := by rw [hL2]; simp
  have H1 := Lib.hid hL1; have H2 := Lib.hid hL2; have H3 := Lib.hid hL3; have H4 := Lib.hid hL4; have H5 := Lib.hid hL5; have H6 := Lib.hid hL6; have H7 := Lib.hid hL7
  clear hL1 hL2 hL3 hL4 hL5 hL6 hL7 hE hEL HL
  rw [hagg]
  clear hagg
  have HIN := Lib.hid hin; have HB0 := Lib.hid hb0
  clear hin hb0
  go_enter Tryz.func109, Tryz.ntmps109
  go_wp2_with fail
  refine HY.out.mono ?_
  rintro r w1 ⟨rfl, hb1⟩
  have hin1 := HIN.out.below hb1 (by simp)
  have hbw1 : Below w.heap.size w w1 := HB0.out.trans (hb1.mono HB0.out.size)
  have hs1 : w.heap.size + 1 ≤ w1.heap.size := by have := hb1.size; simpa using this
  have HIN1 := Lib.hid hin1
  have HBW1 := Lib.hid hbw1
  obtain ⟨f0, f1, f2, f3, f4, f5, f6, f7⟩ := hin1
  clear hb1 hbw1 HIN HB0 HY
  have hk : (k : Int) % 256 = (k : Int) := by omega
  have HM := Lib.hid (show EnM w w.heap.size ⟨src, n, a, k, per, item, vl, text⟩ (.slice (some ⟨w1.heap.size, 0, none⟩) 1 1) [UInt8.ofNat k] (w1.alloc (.cells #[.int .u8 k] 5)) from by
    refine ⟨?_, fun b hb e => ?_, HIN1.out.keepB (heap_alloc_old _ _ (by omega)), HBW1.out.alloc HBW1.out.size _, by simp; omega, Nat.le_refl _⟩
    · have := World.ownsRow_lit (base := w.heap.size) (e := 5) (size := 1) w1 #[.int .u8 k] 1 HBW1.out.size (by simp [maxLen]) rfl
      unfold OwnB
      have e : bvs [UInt8.ofNat k] = [.int .u8 k] := by simp [bvs]; omega
      rw [e]; exact this
    · simp [Value.ownBlock] at hb; omega)
  -- the calls
  obtain ⟨g0, _⟩ := HM.out.ev
  clear f0 f1 f2 f4 f5 f6 f7 HIN1 HBW1
  simp only at f3 g0
  go_upto_region 4 with fail
  clear f3
  generalize w1.alloc (.cells #[.int .u8 k] 5) = w2 at *
  clear hs1
  go_wp2_with fail
  with_reducible refine (evtext_any w2 w.heap.size (.slice (some ⟨w1.heap.size, 0, none⟩) 1 1) [UInt8.ofNat k] HM.out.own HM.out.bel.size src (by omega) (by first | omega | simp)).mono ?_
  rintro r w3 ⟨v3, rfl, hp⟩
  rw [← H1.out] at hp
  replace HM := Lib.hid (HM.out.next hp)
  clear hp g0
  obtain ⟨_, g1, _⟩ := HM.out.ev
  simp only at g1
  go_wp2_with fail
  with_reducible refine (evnum_any w3 w.heap.size v3 L1 HM.out.own HM.out.bel.size n (by omega) (by first | omega | simp)).mono ?_
  rintro r w4 ⟨v4, rfl, hp⟩
  rw [← H2.out] at hp
  replace HM := Lib.hid (HM.out.next hp)
  clear hp g1
  obtain ⟨_, _, g2, _⟩ := HM.out.ev
  simp only at g2
  go_wp2_with fail
  with_reducible refine (evnum_any w4 w.heap.size v4 L2 HM.out.own HM.out.bel.size a (by omega) (by first | omega | simp)).mono ?_
  rintro r w5 ⟨v5, rfl, hp⟩
  rw [← H3.out] at hp
  replace HM := Lib.hid (HM.out.next hp)
  clear hp g2
  obtain ⟨_, _, _, _, g4, _⟩ := HM.out.ev
  simp only at g4
  go_wp2_with fail
  with_reducible refine (evtext_any w5 w.heap.size v5 L3 HM.out.own HM.out.bel.size per (by omega) (by first | omega | simp)).mono ?_
  rintro r w6 ⟨v6, rfl, hp⟩
  rw [← H4.out] at hp
  replace HM := Lib.hid (HM.out.next hp)
  clear hp g4
  obtain ⟨_, _, _, _, _, g5, _⟩ := HM.out.ev
  simp only at g5
  go_wp2_with fail
  with_reducible refine (evtext_any w6 w.heap.size v6 L4 HM.out.own HM.out.bel.size item (by omega) (by first | omega | simp)).mono ?_
  rintro r w7 ⟨v7, rfl, hp⟩
  rw [← H5.out] at hp
  replace HM := Lib.hid (HM.out.next hp)
  clear hp g5
  obtain ⟨_, _, _, _, _, _, g6, _⟩ := HM.out.ev
  simp only at g6
  go_wp2_with fail
  with_reducible refine (evnum_any w7 w.heap.size v7 L5 HM.out.own HM.out.bel.size vl (by omega) (by first | omega | simp)).mono ?_
  rintro r w8 ⟨v8, rfl, hp⟩
  rw [← H6.out] at hp
  replace HM := Lib.hid (HM.out.next hp)
  clear hp g6
  obtain ⟨_, _, _, _, _, _, _, g7⟩ := HM.out.ev
  simp only at g7
  go_wp2_with fail
  with_reducible refine (evtext_any w8 w.heap.size v8 L6 HM.out.own HM.out.bel.size text (by omega) (by first | omega | simp)).mono ?_
  rintro r w9 ⟨v9, rfl, hp⟩
  rw [← H7.out] at hp
  replace HM := Lib.hid (HM.out.next hp)
  clear hp g7
  obtain ⟨A9, c9, hv9⟩ := HM.out.own.form
  subst hv9
  go_wp2
  go_ret2
  exact ⟨_, rfl, HM.out.own, HM.out.bel⟩
end Go.Proofs.YtgbagjpokpchpaaGreatDoor
