/-
  Plain: groups of seven bits.
  A row of bytes that goes on: numbers and texts put behind it.
  A row of bytes in a box, that goes on: what a closure writes behind it.
  Layer 7, the document's, plain: the numbers of ranges.
  Layer 7, plain: the bytes of a set.
  Layer 2, plain: an event's bytes.
  Layer 6: Sources.
  strconv.AppendInt, strconv.Atoi, as these proofs use them.
  Layer 6: a clock's bytes: a line of Encode.
-/
import Derived.Test.YtbejfgmdkmddnaaGreatDoorSCells
import Derived.Test.YtbejfgmdkmddnaaGreatDoorSMapS
import Derived.Test.YtbejfgmdkmddnaaGreatDoorSClkDec1
import Derived.Lib.AppendStr
import Derived.Test.YtbejfgmdkmddnaaGreatDoorSKeys
import Derived.Lib.OthersKept
import Derived.Lib.BufferKept
import Derived.Test.YtbejfgmdkmddnaaGreatDoorSHadPlain
import Derived.Test.YtbejfgmdkmddnaaGreatDoorSSets
import Derived.Test.YtbejfgmdkmddnaaGreatDoorSRef02
import Derived.Test.YtbejfgmdkmddnaaGreatDoorSShelf
import Derived.Lib.ItoaLen
import Derived.Test.YtbejfgmdkmddnaaGreatDoorSPtClk
import Derived.Lib.AppendZeros
namespace Go.Proofs.YtbejfgmdkmddnaaGreatDoor

/-- groups of seven bits -/
def numB (n : Nat) : List UInt8 := if n < 128 then [UInt8.ofNat n] else UInt8.ofNat (n % 128 + 128) :: numB (n / 128)
termination_by n
decreasing_by omega
theorem numB_lo {n : Nat} (h : n < 128) : numB n = [UInt8.ofNat n] := by rw [numB, if_pos h]
theorem numB_hi {n : Nat} (h : ¬ n < 128) : numB n = UInt8.ofNat (n % 128 + 128) :: numB (n / 128) := by rw [numB, if_neg h]
theorem numB_short {n : Nat} (h : n < 72057594037927936) : (numB n).length ≤ 8 := by
  have key : ∀ k n, n < 128 ^ (k + 1) → (numB n).length ≤ k + 1 := fun k => by
    induction k with
    | zero => intro n h; rw [numB_lo (by simpa using h)]; simp
    | succ k ih =>
      intro n h
      by_cases h1 : n < 128
      · rw [numB_lo h1]; simp
      · rw [numB_hi h1]
        have := ih (n / 128) (by rw [Nat.div_lt_iff_lt_mul (by omega)]; rw [Nat.pow_succ] at h; exact h)
        simp; omega
  exact key 7 n (by simpa using h)
end Go.Proofs.YtbejfgmdkmddnaaGreatDoor
namespace Go.Proofs.YtbejfgmdkmddnaaGreatDoor
open Go.RowKit Go.Maps Go.Sort

/-- a row of bytes goes on -/
structure PnM (w : World) (base : Nat) (v : Value) (l : List UInt8) (v' : Value) (w' : World) : Prop where
  own : OwnB w' base v' l
  keep : Keep (fun b => v.ownBlock = some b) w w'
  blk : ∀ b, v'.ownBlock = some b → v.ownBlock = some b ∨ w.heap.size ≤ b
def PnPost (w : World) (base : Nat) (v : Value) (l : List UInt8) (e : Ending) (w' : World) : Prop := ∃ v', e = .returned v' ∧ PnM w base v l v' w'
def PnRel (w : World) (base : Nat) (v : Value) (l : List UInt8) (v' q : Value) (wr : World) : Prop := ∃ (n : Nat) (l' : List UInt8), q = .int .i64 n ∧ n < 4611686018427387904 ∧ l' ++ numB n = l ∧ PnM w base v l' v' wr
theorem PnM.app {w wr w2 : World} {base : Nat} {v v1 v2 : Value} {l l' : List UInt8} (h : PnM w base v l v1 wr) (o : Obj) (ho : OwnB w2 base v2 l') (hg : (wr.alloc o).grownBy w2 v1.ownBlock) (hv : v2.ownBlock = v1.ownBlock ∨ v2.ownBlock = some (wr.heap.size + 1)) : PnM w base v l' v2 w2 := by
  have hs := h.keep.size
  refine ⟨ho, (h.keep.alloc o).trans (Keep.of_grown (F := fun b => v1.ownBlock = some b) hg (fun k e => e)) (fun b hb hF => ?_), fun b hb => ?_⟩
  · rcases h.blk b hF with h' | h'
    · exact h'
    · omega
  · rcases hv with e | e
    · exact h.blk b (e ▸ hb)
    · rw [e] at hb; injection hb with hb; right; omega
theorem numB_len8 {n : Nat} (h : n < 4611686018427387904) : (numB n).length ≤ 9 := by
  by_cases h1 : n < 128
  · rw [numB_lo h1]; simp
  · rw [numB_hi h1]; have := numB_short (n := n / 128) (by omega); simp; omega
theorem or128 (x : Nat) (h : x < 256) : bits .or .u8 (x : Int) 128 = ((x % 128 + 128 : Nat) : Int) := by
  have : ∀ y : Fin 256, bits .or .u8 ((y.val : Nat) : Int) 128 = ((y.val % 128 + 128 : Nat) : Int) := by decide +kernel
  exact this ⟨x, h⟩
theorem app_str (w : World) (base : Nat) (v : Value) (l s : List UInt8) (ho : OwnB w base v l) (h0 : 0 < l.length) (hb : base ≤ w.heap.size) (hl : l.length + s.length ≤ 1000000000000) (ty : TypeId) :
    ∃ v' w', (Builtin.append_ #[32, 9] ty #[v, .string ⟨s.toArray⟩]).run Tryz.prog w = .ok v' w' ∧ OwnB w' base v' (l ++ s) ∧ w.grownBy w' v.ownBlock ∧ (v'.ownBlock = v.ownBlock ∨ v'.ownBlock = some w.heap.size) := by
  obtain ⟨i0, hi, hz0, hz1, hz2⟩ := info_parts u8_info
  have hss : (⟨s.toArray⟩ : ByteArray).size = s.length := by simp [ByteArray.size]
  have hsc : Lib.strCells ⟨s.toArray⟩ = bvs s := by simp [Lib.strCells, bvs]
  obtain ⟨v', w', hr, h2, h3, _⟩ := Lib.run_append_own_string (P := Tryz.prog) w base 32 9 ty 5 i0 Tryz.underlying32 Tryz.underlying9 hi hz0 hz1 hz2 v l.length (bvs l) ho ⟨s.toArray⟩ (by rw [hss]; unfold maxLen; omega) (by rw [hss]; omega) hb
  refine ⟨v', w', hr, ?_, h3, ?_⟩
  · unfold OwnB
    rw [bvs_append, List.length_append]
    rw [hss, hsc] at h2; exact h2
  · rcases ho.2 with ⟨_, h'⟩ | ⟨g, cap, cur, hv, hbg, hg, hnc, hcm, hcs, htake⟩
    · omega
    · subst hv
      by_cases hroom : l.length + (⟨s.toArray⟩ : ByteArray).size ≤ cap
      · have h5 := Lib.run_append_room_string (P := Tryz.prog) w 32 9 ty 5 i0 Tryz.underlying32 Tryz.underlying9 hi hz1 g l.length cap cur hg ⟨s.toArray⟩ hroom (by rw [hcs]; omega)
        rw [hr] at h5
        injection h5 with h5 _
        left; rw [h5]; rfl
      · have hxl : (bvs l).length = l.length * i0.size := by rw [hz1, bvs_length]; omega
        have h5 := Lib.run_append_grow_string (P := Tryz.prog) w 32 9 ty 5 i0 (.int .u8 0) Tryz.underlying32 Tryz.underlying9 hi hz0 ⟨g, 0, none⟩ l.length cap (bvs l) hxl (World.ownsRow.cells ho (g := g) rfl) ⟨s.toArray⟩ (by omega) (by rw [hss]; omega) (by rw [hz2, hss]; exact growslice_fits (by omega) (by omega))
        rw [hr] at h5
        injection h5 with h5 _
        right; rw [h5]; rfl
theorem PnM.then_ {w w1 w2 : World} {base : Nat} {v v1 v2 : Value} {l l' : List UInt8} (h : PnM w base v l v1 w1) (h2 : PnM w1 base v1 l' v2 w2) : PnM w base v l' v2 w2 := by
  have hs := h.keep.size
  refine ⟨h2.own, h.keep.trans h2.keep (fun b hb hF => ?_), fun b hb => ?_⟩
  · rcases h.blk b hF with h' | h'
    · exact h'
    · omega
  · rcases h2.blk b hb with h' | h'
    · exact h.blk b h'
    · right; omega
theorem PnM.up {w w1 w2 : World} {base : Nat} {v v1 : Value} {l : List UInt8} (h : PnM w base v l v1 w1) (hb : Below w1.heap.size w1 w2) : PnM w base v l v1 w2 :=
  ⟨h.own.below hb (Nat.le_refl _), h.keep.trans (G := fun _ => False) (Keep.of_below hb) (fun _ _ h => h.elim), h.blk⟩
theorem PnM.str {w wr w2 : World} {base : Nat} {v v1 v2 : Value} {l l' : List UInt8} (h : PnM w base v l v1 wr) (ho : OwnB w2 base v2 l') (hg : wr.grownBy w2 v1.ownBlock) (hv : v2.ownBlock = v1.ownBlock ∨ v2.ownBlock = some wr.heap.size) : PnM w base v l' v2 w2 := by
  have hs := h.keep.size
  refine ⟨ho, h.keep.trans (Keep.of_grown (F := fun b => v1.ownBlock = some b) hg (fun k e => e)) (fun b hb hF => ?_), fun b hb => ?_⟩
  · rcases h.blk b hF with h' | h'
    · exact h'
    · omega
  · rcases hv with e | e
    · exact h.blk b (e ▸ hb)
    · rw [e] at hb; injection hb with hb; right; omega
end Go.Proofs.YtbejfgmdkmddnaaGreatDoor
namespace Go.Proofs.YtbejfgmdkmddnaaGreatDoor
open Go.RowKit Go.Maps Go.Sort

abbrev byBox (v : Value) : Obj := .cells #[v] 32
theorem OwnB.formS {w : World} {base : Nat} {v : Value} {l : List UInt8} {c : UInt8} (h : OwnB w base v (l ++ [c])) : ∃ A k, v = .slice A (l.length + 1) k := by
  obtain ⟨A, k, h⟩ := h.form; exact ⟨A, k, by simpa using h⟩
theorem OwnB.formA {w : World} {base : Nat} {v : Value} {l s : List UInt8} (h : OwnB w base v (l ++ s)) : ∃ A k, v = .slice A (l.length + s.length) k := by
  obtain ⟨A, k, h⟩ := h.form; exact ⟨A, k, by simpa using h⟩
/-- box bx holds a row that reads as l; of what was there but rows of bytes nothing has changed -/
structure BxSt (w : World) (base bx : Nat) (l : List UInt8) (v : Value) (W : World) : Prop where
  own : OwnB W base v l
  box : W.heap[bx]? = some (byBox v)
  bel : Below base w W
  kept : Lib.OthersKept 5 (some bx) w W
theorem OwnB.kind {w : World} {base : Nat} {v : Value} {l : List UInt8} (h : OwnB w base v l) : ∀ g, v.ownBlock = some g → base ≤ g ∧ ∃ c fz, w.heap[g]? = some (.cells c 5 fz) := fun g hg => by
  rcases h.2 with ⟨e, _⟩ | ⟨b, cap, cur, e, hb, hc, _⟩
  · rw [e] at hg; cases hg
  · rw [e] at hg; injection hg with hg; subst hg; exact ⟨hb, _, _, hc⟩
theorem OwnB.keepB9 {w w' : World} {base : Nat} {v : Value} {l : List UInt8} (h : OwnB w base v l) (hb : ∀ b, v.ownBlock = some b → w'.heap[b]? = w.heap[b]?) : OwnB w' base v l := by
  refine ⟨h.1, ?_⟩
  rcases h.2 with h' | ⟨g, cap, cur, rfl, hb', hg, hr⟩
  · exact .inl h'
  · exact .inr ⟨g, cap, cur, rfl, hb', (hb g rfl).trans hg, hr⟩
theorem bx_ne {W : World} {base bx : Nat} {l2 : List UInt8} {v v2 : Value} (hb : W.heap[bx]? = some (byBox v)) (ho : OwnB W base v2 l2) : v2.ownBlock ≠ some bx := fun e => by
  obtain ⟨_, c, fz, hc⟩ := ho.kind bx e
  rw [hb] at hc
  injection hc with hc; injection hc with _ hc; exact absurd hc (by decide)
theorem BxSt.blt {w W : World} {base bx : Nat} {l : List UInt8} {v : Value} (h : BxSt w base bx l v W) : bx < W.heap.size := (Array.getElem?_eq_some_iff.1 h.box).1
theorem BxSt.cell {w W : World} {base bx : Nat} {l : List UInt8} {v : Value} (h : BxSt w base bx l v W) : W.cell? ⟨bx, 0, none⟩ = some v ∧ W.frozen? ⟨bx, 0, none⟩ = false := ⟨(cell_of_row W bx 0 _ _ (0, 0) h.box).trans rfl, frozen_of_row W bx 0 _ _ h.box⟩
/-- the row has gone on, the box is written -/
theorem BxSt.put {w W W2 : World} {base bx : Nat} {l l2 : List UInt8} {v v2 : Value} (h : BxSt w base bx l v W) (ho : OwnB W2 base v2 l2) (hB : Below base W W2) (hk : Lib.OthersKept 5 none W W2) (hbx : base ≤ bx) : BxSt w base bx l2 v2 (W2.setCell ⟨bx, 0, none⟩ v2) := by
  have hb2 : W2.heap[bx]? = some (byBox v) := hk bx _ h.box (fun e => by cases e) (fun c fz e => by injection e with _ e; exact absurd e (by decide))
  have hne := bx_ne hb2 ho
  refine ⟨?_, by rw [heap_set_row hb2]; rfl, (h.bel.trans hB).setCell hbx _, ?_⟩
  · exact ho.keepB9 fun b hb => by
      have : b ≠ bx := fun e => hne (by rw [← e]; exact hb)
      rw [Below.heap_setCell _ _ _ _ this]
  · exact (h.kept.trans (fun k o hk1 _ ho1 => hk k o hk1 (fun e => by cases e) ho1)).setCell _ rfl _
/-- an append behind a new block, and the store -/
theorem BxSt.app {w W W2 : World} {base bx : Nat} {l l2 : List UInt8} {v v2 : Value} (h : BxSt w base bx l v W) (hsz : base ≤ W.heap.size) (o : Obj) (ho : OwnB W2 base v2 l2) (hg : (W.alloc o).grownBy W2 v.ownBlock) (hbx : base ≤ bx) : BxSt w base bx l2 v2 (W2.setCell ⟨bx, 0, none⟩ v2) := by
  have hk := h.own.kind
  have hal : OwnB (W.alloc o) base v l := OwnB.alloc h.own o
  refine h.put ho (Below.grown ((Below.refl base W).alloc hsz o) hg (by simp; omega) fun k hk1 => (hk k hk1).1) ?_ hbx
  exact ((Lib.OthersKept.refl _ _ W).alloc o).grown hg fun g hg1 => (hal.kind g hg1).2
theorem BxSt.str {w W W2 : World} {base bx : Nat} {l l2 : List UInt8} {v v2 : Value} (h : BxSt w base bx l v W) (hsz : base ≤ W.heap.size) (ho : OwnB W2 base v2 l2) (hg : W.grownBy W2 v.ownBlock) (hbx : base ≤ bx) : BxSt w base bx l2 v2 (W2.setCell ⟨bx, 0, none⟩ v2) := by
  have hk := h.own.kind
  refine h.put ho (Below.grown (Below.refl base W) hg hsz fun k hk1 => (hk k hk1).1) ?_ hbx
  exact (Lib.OthersKept.refl _ _ W).grown hg fun g hg1 => (hk g hg1).2
theorem app_str1 (w : World) (base : Nat) (v : Value) (l s : List UInt8) (ho : OwnB w base v l) (hb : base ≤ w.heap.size) (hl : l.length + s.length ≤ 1000000000000) (ty : TypeId) :
    ∃ v' w', (Builtin.append_ #[32, 9] ty #[v, .string ⟨s.toArray⟩]).run Tryz.prog w = .ok v' w' ∧ OwnB w' base v' (l ++ s) ∧ w.grownBy w' v.ownBlock := by
  obtain ⟨i0, hi, hz0, hz1, hz2⟩ := info_parts u8_info
  have hss : (⟨s.toArray⟩ : ByteArray).size = s.length := by simp [ByteArray.size]
  have hsc : Lib.strCells ⟨s.toArray⟩ = bvs s := by simp [Lib.strCells, bvs]
  obtain ⟨v', w', hr, h2, h3, _⟩ := Lib.run_append_own_string (P := Tryz.prog) w base 32 9 ty 5 i0 Tryz.underlying32 Tryz.underlying9 hi hz0 hz1 hz2 v l.length (bvs l) ho ⟨s.toArray⟩ (by rw [hss]; unfold maxLen; omega) (by rw [hss]; omega) hb
  refine ⟨v', w', hr, ?_, h3⟩
  unfold OwnB
  rw [bvs_append, List.length_append]
  rw [hss, hsc] at h2; exact h2
theorem BxSt.mid {w W W2 : World} {base bx : Nat} {l : List UInt8} {v : Value} (h : BxSt w base bx l v W) (o : Obj) (hg : (W.alloc o).grownBy W2 v.ownBlock) : W2.cell? ⟨bx, 0, none⟩ = some v ∧ W2.frozen? ⟨bx, 0, none⟩ = false := by
  have hb : W2.heap[bx]? = some (byBox v) := by
    refine (hg.block bx (by have := h.blt; simp; omega) (fun e => bx_ne h.box h.own e.symm)).trans ?_
    rw [Below.heap_alloc W o bx h.blt]; exact h.box
  exact ⟨(cell_of_row W2 bx 0 _ _ (0, 0) hb).trans rfl, frozen_of_row W2 bx 0 _ _ hb⟩
theorem BxSt.mid0 {w W W2 : World} {base bx : Nat} {l : List UInt8} {v : Value} (h : BxSt w base bx l v W) (hg : W.grownBy W2 v.ownBlock) : W2.cell? ⟨bx, 0, none⟩ = some v ∧ W2.frozen? ⟨bx, 0, none⟩ = false := by
  have hb : W2.heap[bx]? = some (byBox v) := (hg.block bx h.blt (fun e => bx_ne h.box h.own e.symm)).trans h.box
  exact ⟨(cell_of_row W2 bx 0 _ _ (0, 0) hb).trans rfl, frozen_of_row W2 bx 0 _ _ hb⟩
theorem BxSt.midK {w W W2 : World} {base bx : Nat} {l : List UInt8} {v : Value} (h : BxSt w base bx l v W) (hk : Lib.OthersKept 5 none W W2) : W2.cell? ⟨bx, 0, none⟩ = some v ∧ W2.frozen? ⟨bx, 0, none⟩ = false := by
  have hb : W2.heap[bx]? = some (byBox v) := hk bx _ h.box (fun e => by cases e) (fun c fz e => by injection e with _ e; exact absurd e (by decide))
  exact ⟨(cell_of_row W2 bx 0 _ _ (0, 0) hb).trans rfl, frozen_of_row W2 bx 0 _ _ hb⟩
end Go.Proofs.YtbejfgmdkmddnaaGreatDoor
namespace Go.Proofs.YtbejfgmdkmddnaaGreatDoor
open Go.RowKit Go.Maps Go.Sort

/-- the numbers from one up to another one -/
def upto (a : Int) (k : Nat) : List Int := (List.range k).map fun (i : Nat) => a + i
def nums (rs : Rg) : List Int := rs.flatMap fun r => upto r.1 (r.2 - r.1).toNat
end Go.Proofs.YtbejfgmdkmddnaaGreatDoor
namespace Go.Proofs.YtbejfgmdkmddnaaGreatDoor
open Go.RowKit Go.Maps Go.Sort

/-- ranges, told from an end on -/
def encR : Int → Rg → List UInt8
  | _, [] => []
  | e, r :: rs => numB (r.1 - e).toNat ++ numB (r.2 - r.1).toNat ++ encR r.2 rs
def endR : Int → Rg → Int
  | e, [] => e
  | _, r :: rs => endR r.2 rs
theorem encR_snoc (r : Int × Int) : ∀ (e : Int) (rs : Rg), encR e (rs ++ [r]) = encR e rs ++ (numB (r.1 - endR e rs).toNat ++ numB (r.2 - r.1).toNat)
  | e, [] => by simp [encR, endR]
  | e, q :: rs => by simp only [List.cons_append, encR, endR, encR_snoc r q.2 rs, List.append_assoc]
theorem endR_snoc (r : Int × Int) : ∀ (e : Int) (rs : Rg), endR e (rs ++ [r]) = r.2
  | e, [] => rfl
  | e, q :: rs => by simp only [List.cons_append, endR]; exact endR_snoc r q.2 rs
/-- a source -/
def encS (p : List UInt8 × Rg) : List UInt8 := UInt8.ofNat p.1.length :: (p.1 ++ numB p.2.length ++ encR 1 p.2)
def encH (m : Had) : List UInt8 := numB m.length ++ m.flatMap encS
theorem encR_len (rs : Rg) (h : ∀ r ∈ rs, 1 ≤ r.1 ∧ r.1 < r.2 ∧ r.2 ≤ 1099511627777) : ∀ e : Int, 1 ≤ e → (encR e rs).length ≤ 16 * rs.length := by
  induction rs with
  | nil => intro e _; simp [encR]
  | cons r rs ih =>
    intro e he
    have hr := h r (by simp)
    have := ih (fun q hq => h q (by simp [hq])) r.2 (by omega)
    have h1 := numB_short (n := (r.1 - e).toNat) (by omega)
    have h2 := numB_short (n := (r.2 - r.1).toNat) (by omega)
    simp only [encR, List.length_append, List.length_cons]
    omega
end Go.Proofs.YtbejfgmdkmddnaaGreatDoor
namespace Go.Proofs.YtbejfgmdkmddnaaGreatDoor

/-- a text with its length ahead -/
def textB (s : List UInt8) : List UInt8 := UInt8.ofNat s.length :: s
/-- an event's bytes -/
def encE (e : Ev) : List UInt8 :=
  UInt8.ofNat e.kind.toNat :: (textB e.src ++ numB e.num.toNat ++ numB e.at_.toNat ++ textB e.per ++ textB e.item ++ numB e.val.toNat ++ textB e.text)
theorem encE_len {e : Ev} (h1 : e.src.length ≤ 300) (h2 : e.per.length ≤ 300) (h3 : e.item.length ≤ 300) (h4 : e.text.length ≤ 300) (n1 : e.num ≤ 1099511627776) (n2 : e.at_ ≤ 1099511627776) (n3 : e.val ≤ 1099511627776) : (encE e).length ≤ 1229 := by
  have a := numB_short (n := e.num.toNat) (by omega)
  have b := numB_short (n := e.at_.toNat) (by omega)
  have c := numB_short (n := e.val.toNat) (by omega)
  unfold encE textB
  simp only [List.length_cons, List.length_append]
  omega
end Go.Proofs.YtbejfgmdkmddnaaGreatDoor
namespace Go.Proofs.YtbejfgmdkmddnaaGreatDoor
open Go.RowKit Go.Maps Go.Sort Go.Shelf

set_option maxHeartbeats 2000000 in
theorem clksrc_any (w : World) (bc bm : Nat) (c : Clk) (h : ClockAt w bc bm c) (hml : c.src.length ≤ 100000) : Calls Tryz.prog 108 #[.pointer (some ⟨bc, 0, none⟩)] w (SrcPost w (c.src.map (·.1))) := by
  have c0 := h.cells.c4
  obtain ⟨row, hrw⟩ : ∃ row : Row Value, row = srcRow c.src := ⟨_, rfl⟩
  have HD := Lib.hid (show w.ownsMap Tryz.prog 9 raw bm row.length (mapD row) by rw [hrw]; exact h.map)
  have hds : Maps.size (mapD row) = c.src.length := by rw [hrw]; simp [mapD, Maps.size, srcRow]
  have HRW := Lib.hid (show row.map (·.1) = c.src.map (·.1) by rw [hrw]; unfold srcRow; simp)
  clear hrw
  have HKR := Lib.hid (keys_rising h.ok.rising)
  have hnd : (c.src.map (·.1)).Nodup := (List.pairwise_map.2 (h.ok.rising.imp fun {a b} h e => by rw [e, bb_irrefl] at h; cases h))
  have HND := Lib.hid hnd
  clear h hnd
  refine (callsIn_wide (n := 6)).1 ?_
  have hfK : Fence.wide.fn 167 := trivial
  have hfS : Fence.wide.fn 111 := trivial
  refine callsIn_of_wp Tryz.func108 rfl trivial ?_ rfl
  simp only [Tryz.ntmps108, List.size_toArray, List.length_cons, List.length_nil, Nat.reduceAdd, Nat.reduceSub, Array.replicate_succ, Array.replicate_zero, List.push_toArray, List.append_toArray, List.nil_append, List.cons_append]
  have HDS := Lib.hid hds
  clear hds
  gi_wp2_with fail
  refine (Tryz.maps_Keys_167 _ _).mono ?_
  rintro e w2 ⟨rfl, rfl⟩
  gi_wp2_with fail
  refine (Tryz.slices_Sorted_keys_111_167 bm row.length (mapD row) raw w HD.out (by rw [HDS.out]; unfold maxLen; omega) (by rw [HDS.out]; omega)).mono ?_
  rintro e w3 ⟨v, ss, rfl, hS, hrow, hnil, hb3⟩
  clear c0
  gi_wp2_with fail
  go_ret
  rw [strKeys_mapD] at hS
  rw [HRW.out] at hS
  have hr := rising_sort (hS.nodup_iff.2 HND.out) (fun x => hS.mem_iff)
  have he := rising_unique hr HKR.out
  rw [he] at hrow
  have hl : ss.length = (c.src.map (·.1)).length := hS.length_eq
  rw [hl] at hrow
  refine ⟨v, rfl, ?_, ((Below.refl _ _).alloc (Nat.le_refl _) _).trans (hb3.mono (by simp))⟩
  refine ⟨hrow.1, ?_⟩
  rcases hrow.2 with ⟨e, hl⟩ | ⟨g, cap, cur, e, hb', hg, hrr⟩
  · exact .inl ⟨e, hl⟩
  · exact .inr ⟨g, cap, cur, e, by simp at hb'; omega, hg, hrr⟩
end Go.Proofs.YtbejfgmdkmddnaaGreatDoor
namespace Go.Proofs.YtbejfgmdkmddnaaGreatDoor
open Go.RowKit Go.Maps Go.Sort

theorem appint_any (w : World) (base : Nat) (v : Value) (l : List UInt8) (ho : OwnB w base v l) (hb : base ≤ w.heap.size) (n : Int) (h0 : -9223372036854775808 ≤ n) (h1 : n ≤ 9223372036854775807) (hl : l.length ≤ 1000000000) (htab : Lib.TabBelow Tryz.prog base w "internal/strconv.uint64pow10" .u64 Lib.pow10Tab) :
    Calls Tryz.prog 92 #[v, .int .i64 n, .int .i64 10] w fun e w' => ∃ v', e = .returned v' ∧ OwnB w' base v' (l ++ Lib.itoa n) ∧ Below base w w' ∧ Lib.OthersKept 5 none w w' := by
  refine (Tryz.strconv_AppendInt_10 base l.length n h0 h1 v (bvs l) w ho hb (by omega) htab).mono ?_
  rintro e w' ⟨v', rfl, hown, hB, hk⟩
  refine ⟨v', rfl, ?_, hB, hk⟩
  unfold OwnB
  rw [bvs_append, List.length_append]
  exact hown
end Go.Proofs.YtbejfgmdkmddnaaGreatDoor
namespace Go.Proofs.YtbejfgmdkmddnaaGreatDoor
open Go.RowKit Go.Maps Go.Sort

def LnRel (w : World) (base bx : Nat) (l : List UInt8) (ns : List Int) (i : Value) (wr : World) : Prop := ∃ (k : Nat) (v : Value), i = .int .i64 k ∧ k ≤ ns.length ∧ BxSt w base bx (l ++ numsB (ns.take k)) v wr
def LnPost (w : World) (base bx : Nat) (l : List UInt8) (e : Ending) (w' : World) : Prop := e = .returned (.tuple #[]) ∧ ∃ v, BxSt w base bx l v w'
set_option maxRecDepth 100000 in
set_option maxHeartbeats 4000000 in
theorem enline_any (w : World) (base bx bn : Nat) (l : List UInt8) (v : Value) (ho : OwnB w base v l) (hbox : w.heap[bx]? = some (byBox v)) (hbx : base ≤ bx) (s : List UInt8) (ns : List Int) (hn : w.heap[bn]? = some (.cells (ns.map (Value.int .i64)).toArray 3 (0, 0)))
    (hns : ∀ n ∈ ns, -9223372036854775808 ≤ n ∧ n ≤ 9223372036854775807) (hl : l.length + s.length + 22 * ns.length ≤ 100000000) (htab : Lib.TabBelow Tryz.prog base w "internal/strconv.uint64pow10" .u64 Lib.pow10Tab) :
    Calls Tryz.prog 107 #[.string ⟨s.toArray⟩, .slice (some ⟨bn, 0, none⟩) ns.length ns.length, .pointer (some ⟨bx, 0, none⟩)] w (LnPost w base bx (l ++ lineB s ns)) := by
  have hblt : bx < w.heap.size := (Array.getElem?_eq_some_iff.1 hbox).1
  have hbase : base ≤ w.heap.size := by omega
  have HST := Lib.hid (show BxSt w base bx l v w from ⟨ho, hbox, Below.refl _ _, Lib.OthersKept.refl _ _ _⟩)
  have HN := Lib.hid hn; have HNS := Lib.hid hns; have HT := Lib.hid htab
  have HLB := Lib.hid (show l ++ lineB s ns = l ++ s ++ numsB ns ++ [10] from by unfold lineB; simp)
  have HNL := Lib.hid (show ∀ k, (numsB (ns.take k)).length ≤ 22 * ns.length from fun k => by
    have h1 := numsB_len (ns.take k) fun n hn => hns n (List.mem_of_mem_take hn)
    have h2 : (ns.take k).length ≤ ns.length := by rw [List.length_take]; omega
    omega)
  have HNK := Lib.hid (show ∀ W, Lib.OthersKept 5 (some bx) w W → W.heap[bn]? = some (.cells (ns.map (Value.int .i64)).toArray 3 (0, 0)) from fun W hW => hW bn _ hn (fun e => by
    injection e with e; rw [e] at hn; rw [hbox] at hn; injection hn with hn; injection hn with _ hn; exact absurd hn (by decide)) (fun c fz e => by injection e with _ e; exact absurd e (by decide)))
  clear ho hbox hn hns htab
  obtain ⟨c0, f0⟩ := HST.out.cell
  obtain ⟨v1, w1, hr1, ho1, hg1⟩ := app_str1 w base v l s HST.out.own hbase (by omega) 32
  obtain ⟨A1, k1, rfl⟩ := ho1.formA
  have HR1 := Lib.hid hr1
  have HS1 := Lib.hid (HST.out.str hbase ho1 hg1 hbx)
  obtain ⟨c1, f1⟩ := HST.out.mid0 hg1
  clear hr1 ho1 hg1 HST
  go_enter Tryz.func107, Tryz.ntmps107
  go_wp2_with (at_builtin; refine Lib.wpList_append_run _ rfl (.tmp 7) (.tmp 8) _ _ rfl _ _ rfl rfl _ _ HR1.out ?_)
  clear c0 f0 c1 f1 HR1
  generalize w1.setCell ⟨bx, 0, none⟩ (.slice A1 (l.length + s.length) k1) = w2 at *
  have HR0 := Lib.hid (show LnRel w base bx (l ++ s) ns (.int .i64 ((0 : Nat) : Int)) w2 from ⟨0, _, rfl, Nat.zero_le _, by simpa [numsB] using HS1.out⟩)
  have HLS := Lib.hid (show (l ++ s).length = l.length + s.length from List.length_append)
  generalize l ++ s = L at *
  clear HS1
  go_wp2
  go_loopw [6, 12] (fun _ i wr => LnRel w base bx L ns i wr) (fun _ i _ => ns.length - (intOf i).toNat)
  case atStart => exact HR0.out
  case round =>
    obtain ⟨k, vk, rfl, hk, hst⟩ := hrel
    have HS := Lib.hid hst
    obtain ⟨c0, f0⟩ := hst.cell
    have hsr := hst.bel.size
    have hxl := hst.blt
    have HPL := Lib.hid (show (L ++ numsB (ns.take k)).length ≤ 100000000 from by have := HNL.out k; have := HLS.out; rw [List.length_append]; omega)
    clear hst HR0
    by_cases hkn : k < ns.length
    · have t1 : (k : Int) < ns.length := by omega
      have hnk := HNS.out ns[k] (List.getElem_mem hkn)
      have HTK := Lib.hid (numsB_take ns k hkn)
      have hcn : wr.cell? ⟨bn, k, none⟩ = some (.int .i64 ns[k]) := by
        rw [cell_of_row wr bn k _ _ (0, 0) (HNK.out wr HS.out.kept)]
        simp [hkn]
      have HL3 := Lib.hid (show (L ++ numsB (ns.take k)) ++ [32] ++ Lib.itoa ns[k] = L ++ numsB (ns.take (k + 1)) from by rw [HTK.out]; simp)
      clear HTK
      generalize L ++ numsB (ns.take k) = P at *
      generalize ns[k] = n at *
      have hpl := HPL.out
      go_wp2_with (at_builtin; refine wpList_app8 rfl (.tmp 16) (.tmp 17) rfl base _ P rfl ?c1 (wr.heap.size + 1) _ _ _ [32] rfl ?c2 ?c3 ?c4 ?_)
      case c1 => exact OwnB.alloc HS.out.own _
      case c2 => exact Byt.new wr _ _ [32] rfl 1 rfl (by unfold maxLen; omega)
      case c3 => first | omega | (simp; omega)
      case c4 => first | omega | (simp; omega)
      intro v2 w2 ho2 hg2 hv2
      obtain ⟨A2, k2, rfl⟩ := ho2.formS
      obtain ⟨c2, f2⟩ := HS.out.mid _ hg2
      have HS2 := Lib.hid (HS.out.app (by omega) _ ho2 hg2 hbx)
      clear ho2 hg2 c0 f0 HS hcn
      go_upto_region 5 with fail
      have HPL2 := Lib.hid (show (P ++ [32]).length = P.length + 1 from by simp)
      generalize P ++ [32] = P2 at *
      generalize w2.setCell ⟨bx, 0, none⟩ (.slice A2 (P.length + 1) k2) = w3 at *
      obtain ⟨c0, f0⟩ := HS2.out.cell
      have hs3 := HS2.out.bel.size
      have HAP := Lib.hid (appint_any w3 base _ P2 HS2.out.own (by omega) n (by omega) (by omega) (by have := HPL2.out; omega) (HT.out.on HS2.out.bel))
      clear c2 f2
      go_wp2_with fail
      refine HAP.out.mono ?_
      rintro r w4 ⟨v4, rfl, ho4, hb4, hk4⟩
      obtain ⟨A4, k4, rfl⟩ := ho4.formA
      obtain ⟨c4, f4⟩ := HS2.out.midK hk4
      have HS4 := Lib.hid (HS2.out.put ho4 hb4 hk4 hbx)
      rw [HL3.out] at HS4
      have HR4 := Lib.hid (show LnRel w base bx L ns (.int .i64 ((k + 1 : Nat) : Int)) _ from ⟨k + 1, _, rfl, hkn, HS4.out⟩)
      clear ho4 hb4 hk4 HS4 HAP
      go_wp2
      go_roundw
      case rel => exact HR4.out
      case measure => simp [intOf]; omega
    · have t1 : ¬ (k : Int) < ns.length := by omega
      have hkl : k = ns.length := by omega
      subst hkl
      rw [List.take_length] at HS HPL
      generalize L ++ numsB ns = P at *
      have hpl := HPL.out
      go_wp2_with (at_builtin; refine wpList_app8 rfl (.tmp 23) (.tmp 24) rfl base _ P rfl ?c1 (wr.heap.size + 1) _ _ _ [10] rfl ?c2 ?c3 ?c4 ?_)
      case c1 => exact OwnB.alloc HS.out.own _
      case c2 => exact Byt.new wr _ _ [10] rfl 1 rfl (by unfold maxLen; omega)
      case c3 => first | omega | (simp; omega)
      case c4 => first | omega | (simp; omega)
      intro v2 w2 ho2 hg2 hv2
      obtain ⟨A2, k2, rfl⟩ := ho2.formS
      obtain ⟨c2, f2⟩ := HS.out.mid _ hg2
      have HS2 := Lib.hid (HS.out.app (by omega) _ ho2 hg2 hbx)
      clear ho2 hg2 c0 f0 HS
      have HE := Lib.hid (show LnPost w base bx (P ++ [10]) (.returned (.tuple #[])) _ from ⟨rfl, _, HS2.out⟩)
      rw [HLB.out]
      go_wp2
      go_end0
      exact HE.out
end Go.Proofs.YtbejfgmdkmddnaaGreatDoor
