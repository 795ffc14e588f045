/-
  Plain: groups of seven bits.
  A row of bytes that goes on: numbers and texts put behind it.
  A row of bytes in a box, that goes on: what a closure writes behind it.
  Layer 7, the document's, plain: the numbers of ranges.
  Layer 7, plain: the bytes of a set.
  Layer 2, plain: an event's bytes.
-/
import Derived.Test.YtdjoaboalknlkaaGreatDoorLFrmWalk
import Derived.Test.YtdjoaboalknlkaaGreatDoorLMapS
import Derived.Test.YtdjoaboalknlkaaGreatDoorLClkDec1
import Derived.Lib.AppendStr
import Derived.Test.YtdjoaboalknlkaaGreatDoorLKeys
import Derived.Lib.OthersKept
import Derived.Lib.BufferKept
import Derived.Test.YtdjoaboalknlkaaGreatDoorLHadPlain
import Derived.Test.YtdjoaboalknlkaaGreatDoorLSets
namespace Go.Proofs.YtdjoaboalknlkaaGreatDoor

/-- groups of seven bits -/
def numB (n : Nat) : List UInt8 := if n < 128 then [UInt8.ofNat n] else UInt8.ofNat (n % 128 + 128) :: numB (n / 128)
termination_by n
decreasing_by omega
theorem numB_lo {n : Nat} (h : n < 128) : numB n = [UInt8.ofNat n] := by rw [numB, if_pos h]
theorem numB_hi {n : Nat} (h : ¬ n < 128) : numB n = UInt8.ofNat (n % 128 + 128) :: numB (n / 128) := by rw [numB, if_neg h]
theorem numB_short {n : Nat} (h : n < 72057594037927936) : (numB n).length ≤ 8 := by
  have key : ∀ k n, n < 128 ^ (k + 1) → (numB n).length ≤ k + 1 := fun k => by
    induction k with
    | zero => intro n h; rw [numB_lo (by simpa using h)]; simp
    | succ k ih =>
      intro n h
      by_cases h1 : n < 128
      · rw [numB_lo h1]; simp
      · rw [numB_hi h1]
        have := ih (n / 128) (by rw [Nat.div_lt_iff_lt_mul (by omega)]; rw [Nat.pow_succ] at h; exact h)
        simp; omega
  exact key 7 n (by simpa using h)
end Go.Proofs.YtdjoaboalknlkaaGreatDoor
namespace Go.Proofs.YtdjoaboalknlkaaGreatDoor
open Go.RowKit Go.Maps Go.Sort

/-- a row of bytes goes on -/
structure PnM (w : World) (base : Nat) (v : Value) (l : List UInt8) (v' : Value) (w' : World) : Prop where
  own : OwnB w' base v' l
  keep : Keep (fun b => v.ownBlock = some b) w w'
  blk : ∀ b, v'.ownBlock = some b → v.ownBlock = some b ∨ w.heap.size ≤ b
def PnPost (w : World) (base : Nat) (v : Value) (l : List UInt8) (e : Ending) (w' : World) : Prop := ∃ v', e = .returned v' ∧ PnM w base v l v' w'
def PnRel (w : World) (base : Nat) (v : Value) (l : List UInt8) (v' q : Value) (wr : World) : Prop := ∃ (n : Nat) (l' : List UInt8), q = .int .i64 n ∧ n < 4611686018427387904 ∧ l' ++ numB n = l ∧ PnM w base v l' v' wr
theorem PnM.app {w wr w2 : World} {base : Nat} {v v1 v2 : Value} {l l' : List UInt8} (h : PnM w base v l v1 wr) (o : Obj) (ho : OwnB w2 base v2 l') (hg : (wr.alloc o).grownBy w2 v1.ownBlock) (hv : v2.ownBlock = v1.ownBlock ∨ v2.ownBlock = some (wr.heap.size + 1)) : PnM w base v l' v2 w2 := by
  have hs := h.keep.size
  refine ⟨ho, (h.keep.alloc o).trans (Keep.of_grown (F := fun b => v1.ownBlock = some b) hg (fun k e => e)) (fun b hb hF => ?_), fun b hb => ?_⟩
  · rcases h.blk b hF with h' | h'
    · exact h'
    · omega
  · rcases hv with e | e
    · exact h.blk b (e ▸ hb)
    · rw [e] at hb; injection hb with hb; right; omega
theorem numB_len8 {n : Nat} (h : n < 4611686018427387904) : (numB n).length ≤ 9 := by
  by_cases h1 : n < 128
  · rw [numB_lo h1]; simp
  · rw [numB_hi h1]; have := numB_short (n := n / 128) (by omega); simp; omega
theorem or128 (x : Nat) (h : x < 256) : bits .or .u8 (x : Int) 128 = ((x % 128 + 128 : Nat) : Int) := by
  have : ∀ y : Fin 256, bits .or .u8 ((y.val : Nat) : Int) 128 = ((y.val % 128 + 128 : Nat) : Int) := by decide +kernel
  exact this ⟨x, h⟩
theorem app_str (w : World) (base : Nat) (v : Value) (l s : List UInt8) (ho : OwnB w base v l) (h0 : 0 < l.length) (hb : base ≤ w.heap.size) (hl : l.length + s.length ≤ 1000000000000) (ty : TypeId) :
    ∃ v' w', (Builtin.append_ #[22, 9] ty #[v, .string ⟨s.toArray⟩]).run Tryz.prog w = .ok v' w' ∧ OwnB w' base v' (l ++ s) ∧ w.grownBy w' v.ownBlock ∧ (v'.ownBlock = v.ownBlock ∨ v'.ownBlock = some w.heap.size) := by
  obtain ⟨i0, hi, hz0, hz1, hz2⟩ := info_parts u8_info
  have hss : (⟨s.toArray⟩ : ByteArray).size = s.length := by simp [ByteArray.size]
  have hsc : Lib.strCells ⟨s.toArray⟩ = bvs s := by simp [Lib.strCells, bvs]
  obtain ⟨v', w', hr, h2, h3, _⟩ := Lib.run_append_own_string (P := Tryz.prog) w base 22 9 ty 5 i0 Tryz.underlying22 Tryz.underlying9 hi hz0 hz1 hz2 v l.length (bvs l) ho ⟨s.toArray⟩ (by rw [hss]; unfold maxLen; omega) (by rw [hss]; omega) hb
  refine ⟨v', w', hr, ?_, h3, ?_⟩
  · unfold OwnB
    rw [bvs_append, List.length_append]
    rw [hss, hsc] at h2; exact h2
  · rcases ho.2 with ⟨_, h'⟩ | ⟨g, cap, cur, hv, hbg, hg, hnc, hcm, hcs, htake⟩
    · omega
    · subst hv
      by_cases hroom : l.length + (⟨s.toArray⟩ : ByteArray).size ≤ cap
      · have h5 := Lib.run_append_room_string (P := Tryz.prog) w 22 9 ty 5 i0 Tryz.underlying22 Tryz.underlying9 hi hz1 g l.length cap cur hg ⟨s.toArray⟩ hroom (by rw [hcs]; omega)
        rw [hr] at h5
        injection h5 with h5 _
        left; rw [h5]; rfl
      · have hxl : (bvs l).length = l.length * i0.size := by rw [hz1, bvs_length]; omega
        have h5 := Lib.run_append_grow_string (P := Tryz.prog) w 22 9 ty 5 i0 (.int .u8 0) Tryz.underlying22 Tryz.underlying9 hi hz0 ⟨g, 0, none⟩ l.length cap (bvs l) hxl (World.ownsRow.cells ho (g := g) rfl) ⟨s.toArray⟩ (by omega) (by rw [hss]; omega) (by rw [hz2, hss]; exact growslice_fits (by omega) (by omega))
        rw [hr] at h5
        injection h5 with h5 _
        right; rw [h5]; rfl
theorem PnM.then_ {w w1 w2 : World} {base : Nat} {v v1 v2 : Value} {l l' : List UInt8} (h : PnM w base v l v1 w1) (h2 : PnM w1 base v1 l' v2 w2) : PnM w base v l' v2 w2 := by
  have hs := h.keep.size
  refine ⟨h2.own, h.keep.trans h2.keep (fun b hb hF => ?_), fun b hb => ?_⟩
  · rcases h.blk b hF with h' | h'
    · exact h'
    · omega
  · rcases h2.blk b hb with h' | h'
    · exact h.blk b h'
    · right; omega
theorem PnM.up {w w1 w2 : World} {base : Nat} {v v1 : Value} {l : List UInt8} (h : PnM w base v l v1 w1) (hb : Below w1.heap.size w1 w2) : PnM w base v l v1 w2 :=
  ⟨h.own.below hb (Nat.le_refl _), h.keep.trans (G := fun _ => False) (Keep.of_below hb) (fun _ _ h => h.elim), h.blk⟩
theorem PnM.str {w wr w2 : World} {base : Nat} {v v1 v2 : Value} {l l' : List UInt8} (h : PnM w base v l v1 wr) (ho : OwnB w2 base v2 l') (hg : wr.grownBy w2 v1.ownBlock) (hv : v2.ownBlock = v1.ownBlock ∨ v2.ownBlock = some wr.heap.size) : PnM w base v l' v2 w2 := by
  have hs := h.keep.size
  refine ⟨ho, h.keep.trans (Keep.of_grown (F := fun b => v1.ownBlock = some b) hg (fun k e => e)) (fun b hb hF => ?_), fun b hb => ?_⟩
  · rcases h.blk b hF with h' | h'
    · exact h'
    · omega
  · rcases hv with e | e
    · exact h.blk b (e ▸ hb)
    · rw [e] at hb; injection hb with hb; right; omega
end Go.Proofs.YtdjoaboalknlkaaGreatDoor
namespace Go.Proofs.YtdjoaboalknlkaaGreatDoor
open Go.RowKit Go.Maps Go.Sort

abbrev byBox (v : Value) : Obj := .cells #[v] 22
theorem OwnB.formS {w : World} {base : Nat} {v : Value} {l : List UInt8} {c : UInt8} (h : OwnB w base v (l ++ [c])) : ∃ A k, v = .slice A (l.length + 1) k := by
  obtain ⟨A, k, h⟩ := h.form; exact ⟨A, k, by simpa using h⟩
theorem OwnB.formA {w : World} {base : Nat} {v : Value} {l s : List UInt8} (h : OwnB w base v (l ++ s)) : ∃ A k, v = .slice A (l.length + s.length) k := by
  obtain ⟨A, k, h⟩ := h.form; exact ⟨A, k, by simpa using h⟩
/-- box bx holds a row that reads as l; of what was there but rows of bytes nothing has changed -/
structure BxSt (w : World) (base bx : Nat) (l : List UInt8) (v : Value) (W : World) : Prop where
  own : OwnB W base v l
  box : W.heap[bx]? = some (byBox v)
  bel : Below base w W
  kept : Lib.OthersKept 5 (some bx) w W
theorem OwnB.kind {w : World} {base : Nat} {v : Value} {l : List UInt8} (h : OwnB w base v l) : ∀ g, v.ownBlock = some g → base ≤ g ∧ ∃ c fz, w.heap[g]? = some (.cells c 5 fz) := fun g hg => by
  rcases h.2 with ⟨e, _⟩ | ⟨b, cap, cur, e, hb, hc, _⟩
  · rw [e] at hg; cases hg
  · rw [e] at hg; injection hg with hg; subst hg; exact ⟨hb, _, _, hc⟩
theorem OwnB.keepB9 {w w' : World} {base : Nat} {v : Value} {l : List UInt8} (h : OwnB w base v l) (hb : ∀ b, v.ownBlock = some b → w'.heap[b]? = w.heap[b]?) : OwnB w' base v l := by
  refine ⟨h.1, ?_⟩
  rcases h.2 with h' | ⟨g, cap, cur, rfl, hb', hg, hr⟩
  · exact .inl h'
  · exact .inr ⟨g, cap, cur, rfl, hb', (hb g rfl).trans hg, hr⟩
theorem bx_ne {W : World} {base bx : Nat} {l2 : List UInt8} {v v2 : Value} (hb : W.heap[bx]? = some (byBox v)) (ho : OwnB W base v2 l2) : v2.ownBlock ≠ some bx := fun e => by
  obtain ⟨_, c, fz, hc⟩ := ho.kind bx e
  rw [hb] at hc
  injection hc with hc; injection hc with _ hc; exact absurd hc (by decide)
theorem BxSt.blt {w W : World} {base bx : Nat} {l : List UInt8} {v : Value} (h : BxSt w base bx l v W) : bx < W.heap.size := (Array.getElem?_eq_some_iff.1 h.box).1
theorem BxSt.cell {w W : World} {base bx : Nat} {l : List UInt8} {v : Value} (h : BxSt w base bx l v W) : W.cell? ⟨bx, 0, none⟩ = some v ∧ W.frozen? ⟨bx, 0, none⟩ = false := ⟨(cell_of_row W bx 0 _ _ (0, 0) h.box).trans rfl, frozen_of_row W bx 0 _ _ h.box⟩
/-- the row has gone on, the box is written -/
theorem BxSt.put {w W W2 : World} {base bx : Nat} {l l2 : List UInt8} {v v2 : Value} (h : BxSt w base bx l v W) (ho : OwnB W2 base v2 l2) (hB : Below base W W2) (hk : Lib.OthersKept 5 none W W2) (hbx : base ≤ bx) : BxSt w base bx l2 v2 (W2.setCell ⟨bx, 0, none⟩ v2) := by
  have hb2 : W2.heap[bx]? = some (byBox v) := hk bx _ h.box (fun e => by cases e) (fun c fz e => by injection e with _ e; exact absurd e (by decide))
  have hne := bx_ne hb2 ho
  refine ⟨?_, by rw [heap_set_row hb2]; rfl, (h.bel.trans hB).setCell hbx _, ?_⟩
  · exact ho.keepB9 fun b hb => by
      have : b ≠ bx := fun e => hne (by rw [← e]; exact hb)
      rw [Below.heap_setCell _ _ _ _ this]
  · exact (h.kept.trans (fun k o hk1 _ ho1 => hk k o hk1 (fun e => by cases e) ho1)).setCell _ rfl _
/-- an append behind a new block, and the store -/
theorem BxSt.app {w W W2 : World} {base bx : Nat} {l l2 : List UInt8} {v v2 : Value} (h : BxSt w base bx l v W) (hsz : base ≤ W.heap.size) (o : Obj) (ho : OwnB W2 base v2 l2) (hg : (W.alloc o).grownBy W2 v.ownBlock) (hbx : base ≤ bx) : BxSt w base bx l2 v2 (W2.setCell ⟨bx, 0, none⟩ v2) := by
  have hk := h.own.kind
  have hal : OwnB (W.alloc o) base v l := OwnB.alloc h.own o
  refine h.put ho (Below.grown ((Below.refl base W).alloc hsz o) hg (by simp; omega) fun k hk1 => (hk k hk1).1) ?_ hbx
  exact ((Lib.OthersKept.refl _ _ W).alloc o).grown hg fun g hg1 => (hal.kind g hg1).2
theorem BxSt.str {w W W2 : World} {base bx : Nat} {l l2 : List UInt8} {v v2 : Value} (h : BxSt w base bx l v W) (hsz : base ≤ W.heap.size) (ho : OwnB W2 base v2 l2) (hg : W.grownBy W2 v.ownBlock) (hbx : base ≤ bx) : BxSt w base bx l2 v2 (W2.setCell ⟨bx, 0, none⟩ v2) := by
  have hk := h.own.kind
  refine h.put ho (Below.grown (Below.refl base W) hg hsz fun k hk1 => (hk k hk1).1) ?_ hbx
  exact (Lib.OthersKept.refl _ _ W).grown hg fun g hg1 => (hk g hg1).2
theorem app_str1 (w : World) (base : Nat) (v : Value) (l s : List UInt8) (ho : OwnB w base v l) (hb : base ≤ w.heap.size) (hl : l.length + s.length ≤ 1000000000000) (ty : TypeId) :
    ∃ v' w', (Builtin.append_ #[22, 9] ty #[v, .string ⟨s.toArray⟩]).run Tryz.prog w = .ok v' w' ∧ OwnB w' base v' (l ++ s) ∧ w.grownBy w' v.ownBlock := by
  obtain ⟨i0, hi, hz0, hz1, hz2⟩ := info_parts u8_info
  have hss : (⟨s.toArray⟩ : ByteArray).size = s.length := by simp [ByteArray.size]
  have hsc : Lib.strCells ⟨s.toArray⟩ = bvs s := by simp [Lib.strCells, bvs]
  obtain ⟨v', w', hr, h2, h3, _⟩ := Lib.run_append_own_string (P := Tryz.prog) w base 22 9 ty 5 i0 Tryz.underlying22 Tryz.underlying9 hi hz0 hz1 hz2 v l.length (bvs l) ho ⟨s.toArray⟩ (by rw [hss]; unfold maxLen; omega) (by rw [hss]; omega) hb
  refine ⟨v', w', hr, ?_, h3⟩
  unfold OwnB
  rw [bvs_append, List.length_append]
  rw [hss, hsc] at h2; exact h2
theorem BxSt.mid {w W W2 : World} {base bx : Nat} {l : List UInt8} {v : Value} (h : BxSt w base bx l v W) (o : Obj) (hg : (W.alloc o).grownBy W2 v.ownBlock) : W2.cell? ⟨bx, 0, none⟩ = some v ∧ W2.frozen? ⟨bx, 0, none⟩ = false := by
  have hb : W2.heap[bx]? = some (byBox v) := by
    refine (hg.block bx (by have := h.blt; simp; omega) (fun e => bx_ne h.box h.own e.symm)).trans ?_
    rw [Below.heap_alloc W o bx h.blt]; exact h.box
  exact ⟨(cell_of_row W2 bx 0 _ _ (0, 0) hb).trans rfl, frozen_of_row W2 bx 0 _ _ hb⟩
theorem BxSt.mid0 {w W W2 : World} {base bx : Nat} {l : List UInt8} {v : Value} (h : BxSt w base bx l v W) (hg : W.grownBy W2 v.ownBlock) : W2.cell? ⟨bx, 0, none⟩ = some v ∧ W2.frozen? ⟨bx, 0, none⟩ = false := by
  have hb : W2.heap[bx]? = some (byBox v) := (hg.block bx h.blt (fun e => bx_ne h.box h.own e.symm)).trans h.box
  exact ⟨(cell_of_row W2 bx 0 _ _ (0, 0) hb).trans rfl, frozen_of_row W2 bx 0 _ _ hb⟩
theorem BxSt.midK {w W W2 : World} {base bx : Nat} {l : List UInt8} {v : Value} (h : BxSt w base bx l v W) (hk : Lib.OthersKept 5 none W W2) : W2.cell? ⟨bx, 0, none⟩ = some v ∧ W2.frozen? ⟨bx, 0, none⟩ = false := by
  have hb : W2.heap[bx]? = some (byBox v) := hk bx _ h.box (fun e => by cases e) (fun c fz e => by injection e with _ e; exact absurd e (by decide))
  exact ⟨(cell_of_row W2 bx 0 _ _ (0, 0) hb).trans rfl, frozen_of_row W2 bx 0 _ _ hb⟩
end Go.Proofs.YtdjoaboalknlkaaGreatDoor
namespace Go.Proofs.YtdjoaboalknlkaaGreatDoor
open Go.RowKit Go.Maps Go.Sort

/-- the numbers from one up to another one -/
def upto (a : Int) (k : Nat) : List Int := (List.range k).map fun (i : Nat) => a + i
def nums (rs : Rg) : List Int := rs.flatMap fun r => upto r.1 (r.2 - r.1).toNat
end Go.Proofs.YtdjoaboalknlkaaGreatDoor
namespace Go.Proofs.YtdjoaboalknlkaaGreatDoor
open Go.RowKit Go.Maps Go.Sort

/-- ranges, told from an end on -/
def encR : Int → Rg → List UInt8
  | _, [] => []
  | e, r :: rs => numB (r.1 - e).toNat ++ numB (r.2 - r.1).toNat ++ encR r.2 rs
def endR : Int → Rg → Int
  | e, [] => e
  | _, r :: rs => endR r.2 rs
theorem encR_snoc (r : Int × Int) : ∀ (e : Int) (rs : Rg), encR e (rs ++ [r]) = encR e rs ++ (numB (r.1 - endR e rs).toNat ++ numB (r.2 - r.1).toNat)
  | e, [] => by simp [encR, endR]
  | e, q :: rs => by simp only [List.cons_append, encR, endR, encR_snoc r q.2 rs, List.append_assoc]
theorem endR_snoc (r : Int × Int) : ∀ (e : Int) (rs : Rg), endR e (rs ++ [r]) = r.2
  | e, [] => rfl
  | e, q :: rs => by simp only [List.cons_append, endR]; exact endR_snoc r q.2 rs
/-- a source -/
def encS (p : List UInt8 × Rg) : List UInt8 := UInt8.ofNat p.1.length :: (p.1 ++ numB p.2.length ++ encR 1 p.2)
def encH (m : Had) : List UInt8 := numB m.length ++ m.flatMap encS
theorem encR_len (rs : Rg) (h : ∀ r ∈ rs, 1 ≤ r.1 ∧ r.1 < r.2 ∧ r.2 ≤ 1099511627777) : ∀ e : Int, 1 ≤ e → (encR e rs).length ≤ 16 * rs.length := by
  induction rs with
  | nil => intro e _; simp [encR]
  | cons r rs ih =>
    intro e he
    have hr := h r (by simp)
    have := ih (fun q hq => h q (by simp [hq])) r.2 (by omega)
    have h1 := numB_short (n := (r.1 - e).toNat) (by omega)
    have h2 := numB_short (n := (r.2 - r.1).toNat) (by omega)
    simp only [encR, List.length_append, List.length_cons]
    omega
end Go.Proofs.YtdjoaboalknlkaaGreatDoor
namespace Go.Proofs.YtdjoaboalknlkaaGreatDoor

/-- a text with its length ahead -/
def textB (s : List UInt8) : List UInt8 := UInt8.ofNat s.length :: s
/-- an event's bytes -/
def encE (e : Ev) : List UInt8 :=
  UInt8.ofNat e.kind.toNat :: (textB e.src ++ numB e.num.toNat ++ numB e.at_.toNat ++ textB e.per ++ textB e.item ++ numB e.val.toNat ++ textB e.text)
theorem encE_len {e : Ev} (h1 : e.src.length ≤ 300) (h2 : e.per.length ≤ 300) (h3 : e.item.length ≤ 300) (h4 : e.text.length ≤ 300) (n1 : e.num ≤ 1099511627776) (n2 : e.at_ ≤ 1099511627776) (n3 : e.val ≤ 1099511627776) : (encE e).length ≤ 1229 := by
  have a := numB_short (n := e.num.toNat) (by omega)
  have b := numB_short (n := e.at_.toNat) (by omega)
  have c := numB_short (n := e.val.toNat) (by omega)
  unfold encE textB
  simp only [List.length_cons, List.length_append]
  omega
end Go.Proofs.YtdjoaboalknlkaaGreatDoor
