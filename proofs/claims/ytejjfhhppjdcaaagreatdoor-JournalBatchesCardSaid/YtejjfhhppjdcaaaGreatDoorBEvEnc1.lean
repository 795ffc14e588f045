/-
  A row of bytes that goes on: numbers and texts put behind it.
  Layer 2: an event's bytes: putNumber, putText.
-/
import Derived.Test.YtejjfhhppjdcaaaGreatDoorBEvBytes
import Derived.Test.YtejjfhhppjdcaaaGreatDoorBMapS
import Derived.Test.YtejjfhhppjdcaaaGreatDoorBBytes
import Derived.Lib.AppendStr
import Derived.Lib.AppendZeros
namespace Go.Proofs.YtejjfhhppjdcaaaGreatDoor
open Go.RowKit Go.Maps Go.Sort

/-- a row of bytes goes on -/
structure PnM (w : World) (base : Nat) (v : Value) (l : List UInt8) (v' : Value) (w' : World) : Prop where
  own : OwnB w' base v' l
  keep : Keep (fun b => v.ownBlock = some b) w w'
  blk : ∀ b, v'.ownBlock = some b → v.ownBlock = some b ∨ w.heap.size ≤ b
def PnPost (w : World) (base : Nat) (v : Value) (l : List UInt8) (e : Ending) (w' : World) : Prop := ∃ v', e = .returned v' ∧ PnM w base v l v' w'
def PnRel (w : World) (base : Nat) (v : Value) (l : List UInt8) (v' q : Value) (wr : World) : Prop := ∃ (n : Nat) (l' : List UInt8), q = .int .i64 n ∧ n < 4611686018427387904 ∧ l' ++ numB n = l ∧ PnM w base v l' v' wr
theorem PnM.app {w wr w2 : World} {base : Nat} {v v1 v2 : Value} {l l' : List UInt8} (h : PnM w base v l v1 wr) (o : Obj) (ho : OwnB w2 base v2 l') (hg : (wr.alloc o).grownBy w2 v1.ownBlock) (hv : v2.ownBlock = v1.ownBlock ∨ v2.ownBlock = some (wr.heap.size + 1)) : PnM w base v l' v2 w2 := by
  have hs := h.keep.size
  refine ⟨ho, (h.keep.alloc o).trans (Keep.of_grown (F := fun b => v1.ownBlock = some b) hg (fun k e => e)) (fun b hb hF => ?_), fun b hb => ?_⟩
  · rcases h.blk b hF with h' | h'
    · exact h'
    · omega
  · rcases hv with e | e
    · exact h.blk b (e ▸ hb)
    · rw [e] at hb; injection hb with hb; right; omega
theorem numB_len8 {n : Nat} (h : n < 4611686018427387904) : (numB n).length ≤ 9 := by
  by_cases h1 : n < 128
  · rw [numB_lo h1]; simp
  · rw [numB_hi h1]; have := numB_short (n := n / 128) (by omega); simp; omega
theorem or128 (x : Nat) (h : x < 256) : bits .or .u8 (x : Int) 128 = ((x % 128 + 128 : Nat) : Int) := by
  have : ∀ y : Fin 256, bits .or .u8 ((y.val : Nat) : Int) 128 = ((y.val % 128 + 128 : Nat) : Int) := by decide +kernel
  exact this ⟨x, h⟩
theorem app_str (w : World) (base : Nat) (v : Value) (l s : List UInt8) (ho : OwnB w base v l) (h0 : 0 < l.length) (hb : base ≤ w.heap.size) (hl : l.length + s.length ≤ 1000000000000) (ty : TypeId) :
    ∃ v' w', (Builtin.append_ #[41, 9] ty #[v, .string ⟨s.toArray⟩]).run Tryz.prog w = .ok v' w' ∧ OwnB w' base v' (l ++ s) ∧ w.grownBy w' v.ownBlock ∧ (v'.ownBlock = v.ownBlock ∨ v'.ownBlock = some w.heap.size) := by
  obtain ⟨i0, hi, hz0, hz1, hz2⟩ := info_parts u8_info
  have hss : (⟨s.toArray⟩ : ByteArray).size = s.length := by simp [ByteArray.size]
  have hsc : Lib.strCells ⟨s.toArray⟩ = bvs s := by simp [Lib.strCells, bvs]
  obtain ⟨v', w', hr, h2, h3, _⟩ := Lib.run_append_own_string (P := Tryz.prog) w base 41 9 ty 5 i0 Tryz.underlying41 Tryz.underlying9 hi hz0 hz1 hz2 v l.length (bvs l) ho ⟨s.toArray⟩ (by rw [hss]; unfold maxLen; omega) (by rw [hss]; omega) hb
  refine ⟨v', w', hr, ?_, h3, ?_⟩
  · unfold OwnB
    rw [bvs_append, List.length_append]
    rw [hss, hsc] at h2; exact h2
  · rcases ho.2 with ⟨_, h'⟩ | ⟨g, cap, cur, hv, hbg, hg, hnc, hcm, hcs, htake⟩
    · omega
    · subst hv
      by_cases hroom : l.length + (⟨s.toArray⟩ : ByteArray).size ≤ cap
      · have h5 := Lib.run_append_room_string (P := Tryz.prog) w 41 9 ty 5 i0 Tryz.underlying41 Tryz.underlying9 hi hz1 g l.length cap cur hg ⟨s.toArray⟩ hroom (by rw [hcs]; omega)
        rw [hr] at h5
        injection h5 with h5 _
        left; rw [h5]; rfl
      · have hxl : (bvs l).length = l.length * i0.size := by rw [hz1, bvs_length]; omega
        have h5 := Lib.run_append_grow_string (P := Tryz.prog) w 41 9 ty 5 i0 (.int .u8 0) Tryz.underlying41 Tryz.underlying9 hi hz0 ⟨g, 0, none⟩ l.length cap (bvs l) hxl (World.ownsRow.cells ho (g := g) rfl) ⟨s.toArray⟩ (by omega) (by rw [hss]; omega) (by rw [hz2, hss]; exact growslice_fits (by omega) (by omega))
        rw [hr] at h5
        injection h5 with h5 _
        right; rw [h5]; rfl
theorem PnM.then_ {w w1 w2 : World} {base : Nat} {v v1 v2 : Value} {l l' : List UInt8} (h : PnM w base v l v1 w1) (h2 : PnM w1 base v1 l' v2 w2) : PnM w base v l' v2 w2 := by
  have hs := h.keep.size
  refine ⟨h2.own, h.keep.trans h2.keep (fun b hb hF => ?_), fun b hb => ?_⟩
  · rcases h.blk b hF with h' | h'
    · exact h'
    · omega
  · rcases h2.blk b hb with h' | h'
    · exact h.blk b h'
    · right; omega
theorem PnM.up {w w1 w2 : World} {base : Nat} {v v1 : Value} {l : List UInt8} (h : PnM w base v l v1 w1) (hb : Below w1.heap.size w1 w2) : PnM w base v l v1 w2 :=
  ⟨h.own.below hb (Nat.le_refl _), h.keep.trans (G := fun _ => False) (Keep.of_below hb) (fun _ _ h => h.elim), h.blk⟩
theorem PnM.str {w wr w2 : World} {base : Nat} {v v1 v2 : Value} {l l' : List UInt8} (h : PnM w base v l v1 wr) (ho : OwnB w2 base v2 l') (hg : wr.grownBy w2 v1.ownBlock) (hv : v2.ownBlock = v1.ownBlock ∨ v2.ownBlock = some wr.heap.size) : PnM w base v l' v2 w2 := by
  have hs := h.keep.size
  refine ⟨ho, h.keep.trans (Keep.of_grown (F := fun b => v1.ownBlock = some b) hg (fun k e => e)) (fun b hb hF => ?_), fun b hb => ?_⟩
  · rcases h.blk b hF with h' | h'
    · exact h'
    · omega
  · rcases hv with e | e
    · exact h.blk b (e ▸ hb)
    · rw [e] at hb; injection hb with hb; right; omega
end Go.Proofs.YtejjfhhppjdcaaaGreatDoor
namespace Go.Proofs.YtejjfhhppjdcaaaGreatDoor
open Go.RowKit Go.Maps Go.Sort

theorem and127 (x : Nat) (h : x < 4611686018427387904) : bits .and .i64 (x : Int) 127 = ((x % 128 : Nat) : Int) := by
  show IntKind.i64.wrap ((BitVec.ofInt 64 (x : Int) &&& BitVec.ofInt 64 ((127 : Nat) : Int)).toNat : Int) = _
  have e : (BitVec.ofInt 64 (x : Int) &&& BitVec.ofInt 64 ((127 : Nat) : Int)).toNat = x % 128 := by
    rw [BitVec.toNat_and, BitVec.ofInt_natCast, BitVec.ofInt_natCast, BitVec.toNat_ofNat, BitVec.toNat_ofNat, Nat.mod_eq_of_lt (by omega : x < 2 ^ 64)]
    exact Nat.and_two_pow_sub_one_eq_mod x 7
  rw [e]
  simp [IntKind.wrap, IntKind.bits, IntKind.signed]; omega
set_option maxRecDepth 100000 in
set_option maxHeartbeats 2000000 in
theorem evnum_any (w : World) (base : Nat) (v : Value) (l : List UInt8) (ho : OwnB w base v l) (hb : base ≤ w.heap.size) (n : Nat) (hn : n < 4611686018427387904) (hl : l.length ≤ 200000000000) :
    Calls Tryz.prog 150 #[v, .int .i64 n] w (PnPost w base v (l ++ numB n)) := by
  have hn8 := numB_len8 hn
  have HST := Lib.hid (show PnRel w base v (l ++ numB n) v (.int .i64 n) w from ⟨n, l, rfl, hn, rfl, ho, Keep.refl _ _, fun b hb => .inl hb⟩)
  have hll : (l ++ numB n).length ≤ 200000000009 := by simp; omega
  generalize l ++ numB n = L at *
  clear ho hn8
  go_enter Tryz.func150, Tryz.ntmps150
  go_wp2
  go_loopw [0, 1] (fun v' q wr => PnRel w base v L v' q wr) (fun _ q _ => (intOf q).toNat)
  case atStart => exact HST.out
  case round =>
    obtain ⟨q, l', rfl, hq, hL, hm⟩ := hrel
    have HL := Lib.hid hL; have HM := Lib.hid hm
    have hl' : l'.length ≤ 200000000009 := by have := congrArg List.length hL; simp at this; omega
    have hsr := hm.keep.size
    clear hL hm
    by_cases hlo : q < 128
    · have t1 : ¬ (128 : Int) ≤ q := by omega
      have HB := Lib.hid (show L = l' ++ [UInt8.ofNat q] by rw [← HL.out, numB_lo hlo])
      go_wp2_with (at_builtin; refine wpList_app8 rfl (.tmp 16) (.tmp 19) rfl base _ l' rfl ?c1 (wr.heap.size + 1) _ _ _ [UInt8.ofNat q] rfl ?c2 ?c3 ?c4 ?_)
      case c1 => exact OwnB.alloc HM.out.own _
      case c2 => exact Byt.new wr _ _ [UInt8.ofNat q] (by simp; omega) 1 rfl (by unfold maxLen; omega)
      case c3 => first | omega | (simp; omega)
      case c4 => first | omega | (simp; omega)
      intro v2 w2 ho2 hg2 hv2
      have HR := Lib.hid (show PnPost w base v L (.returned v2) w2 from ⟨v2, rfl, HM.out.app _ (by rw [HB.out]; exact ho2) hg2 hv2⟩)
      clear ho2 hg2 hv2
      go_wp2
      go_ret
      exact HR.out
    · have t1 : (128 : Int) ≤ q := by omega
      have HB := Lib.hid (show L = l' ++ [UInt8.ofNat (q % 128 + 128)] ++ numB (q / 128) by rw [← HL.out, numB_hi hlo]; simp)
      have eo : bits .or .u8 (bits .and .i64 (q : Int) 127 % 256) 128 = ((q % 128 + 128 : Nat) : Int) := by
        have := or128 (q % 128) (by omega)
        rw [and127 q (by omega), show (((q % 128 : Nat) : Int)) % 256 = ((q % 128 : Nat) : Int) by omega, this]; congr 1; omega
      generalize hc : q % 128 + 128 = cN at *
      have hcl : cN < 256 := by omega
      clear hc
      go_wp2_with (at_builtin; refine wpList_app8 rfl (.tmp 7) (.tmp 12) rfl base _ l' rfl ?c1 (wr.heap.size + 1) _ _ _ [UInt8.ofNat cN] rfl ?c2 ?c3 ?c4 ?_)
      case c1 => exact OwnB.alloc HM.out.own _
      case c2 => exact Byt.new wr _ _ [UInt8.ofNat cN] (by simp; omega) 1 rfl (by unfold maxLen; omega)
      case c3 => first | omega | (simp; omega)
      case c4 => first | omega | (simp; omega)
      intro v2 w2 ho2 hg2 hv2
      have HR := Lib.hid (show PnRel w base v L v2 (.int .i64 ((q / 128 : Nat) : Int)) w2 from ⟨q / 128, l' ++ [UInt8.ofNat cN], rfl, by omega, HB.out.symm, HM.out.app _ ho2 hg2 hv2⟩)
      clear ho2 hg2 hv2 eo
      go_wp2
      go_roundw
      case rel => exact HR.out
      case measure => simp [intOf]; omega

set_option maxRecDepth 100000 in
set_option maxHeartbeats 2000000 in
theorem evtext_any (w : World) (base : Nat) (v : Value) (l : List UInt8) (ho : OwnB w base v l) (hb : base ≤ w.heap.size) (s : List UInt8) (hs : s.length ≤ 4096) (hl : l.length ≤ 200000000000) :
    Calls Tryz.prog 149 #[v, .string ⟨s.toArray⟩] w (PnPost w base v (l ++ textB s)) := by
  have HM := Lib.hid (show PnM w base v l v w from ⟨ho, Keep.refl _ _, fun b hb => .inl hb⟩)
  clear ho
  go_enter Tryz.func149, Tryz.ntmps149
  go_wp2_with (at_builtin; refine wpList_app8 rfl (.tmp 5) (.tmp 9) rfl base _ l rfl ?c1 (w.heap.size + 1) _ _ _ [UInt8.ofNat s.length] rfl ?c2 ?c3 ?c4 ?_)
  case c1 => exact OwnB.alloc HM.out.own _
  case c2 => exact Byt.new w _ _ [UInt8.ofNat s.length] (by simp) 1 rfl (by unfold maxLen; omega)
  case c3 => first | omega | (simp; omega)
  case c4 => first | omega | (simp; omega)
  intro v5 w5 ho5 hg5 hv5
  have HM5 := Lib.hid (HM.out.app _ ho5 hg5 hv5)
  clear ho5 hg5 hv5 HM
  have hs5 := HM5.out.keep.size
  obtain ⟨v6, w6, hr6, ho6, hg6, hv6⟩ := app_str w5 base v5 (l ++ [UInt8.ofNat s.length]) s HM5.out.own (by simp) (by omega) (by simp; omega) 41
  have HR6 := Lib.hid hr6
  have HM6 := Lib.hid (show PnPost w base v (l ++ textB s) (.returned v6) w6 from ⟨v6, rfl, by
    have := HM5.out.str ho6 hg6 hv6
    rw [List.append_assoc] at this; exact this⟩)
  clear hr6 ho6 hg6 hv6
  go_wp2_with (at_builtin; refine Lib.wpList_append_run _ rfl (.tmp 11) (.tmp 12) _ _ rfl _ _ rfl rfl _ _ HR6.out ?_)
  go_wp2
  go_ret
  exact HM6.out
end Go.Proofs.YtejjfhhppjdcaaaGreatDoor
