/-
  Layer 7, the document's, plain: the numbers of ranges.
  Plain: groups of seven bits.
  Layer 7, plain: the bytes of a set.
  Slices of bytes that a call has made itself: appending to them, storing into them, reading them.
  A row of bytes that goes on: numbers and texts put behind it.
  Layer 2, plain: an event's bytes.
  Plain: how long the texts of an event that may be are.
-/
import Derived.Test.YtgbagjpokpchpaaGreatDoorRHadPlain
import Derived.Test.YtgbagjpokpchpaaGreatDoorRSets
import Derived.Test.YtgbagjpokpchpaaGreatDoorRRowK
import Derived.Lib.AppendStr
import Derived.Test.YtgbagjpokpchpaaGreatDoorREvMay
namespace Go.Proofs.YtgbagjpokpchpaaGreatDoor
open Go.RowKit Go.Maps Go.Sort

/-- the numbers from one up to another one -/
def upto (a : Int) (k : Nat) : List Int := (List.range k).map fun (i : Nat) => a + i
def nums (rs : Rg) : List Int := rs.flatMap fun r => upto r.1 (r.2 - r.1).toNat
theorem upto_mem {a : Int} {k : Nat} {n : Int} : n ∈ upto a k ↔ a ≤ n ∧ n < a + k := by
  unfold upto
  rw [List.mem_map]
  constructor
  · rintro ⟨i, hi, rfl⟩; have := List.mem_range.1 hi; omega
  · rintro ⟨h1, h2⟩; exact ⟨(n - a).toNat, List.mem_range.2 (by omega), by omega⟩
theorem upto_up (a : Int) (k : Nat) : (upto a k).Pairwise (· < ·) := by
  unfold upto
  rw [List.pairwise_map]
  exact List.pairwise_lt_range.imp fun h => by omega
theorem nums_mem {rs : Rg} (h : RgOk rs) (n : Int) : n ∈ nums rs ↔ hasR rs n = true := by
  unfold nums hasR
  rw [List.mem_flatMap, List.any_eq_true]
  constructor
  · rintro ⟨r, hr, hn⟩
    have := upto_mem.1 hn
    have := h.each r hr
    exact ⟨r, hr, by simp; omega⟩
  · rintro ⟨r, hr, hn⟩
    simp only [Bool.and_eq_true, decide_eq_true_eq] at hn
    have := h.each r hr
    exact ⟨r, hr, upto_mem.2 (by omega)⟩
theorem nums_up {rs : Rg} (h : RgOk rs) : (nums rs).Pairwise (· < ·) := by
  obtain ⟨hu, he⟩ := h
  unfold nums
  induction rs with
  | nil => exact List.Pairwise.nil
  | cons r rs ih =>
    obtain ⟨h1, h2⟩ := List.pairwise_cons.1 hu
    rw [List.flatMap_cons]
    refine List.pairwise_append.2 ⟨upto_up _ _, ih h2 (fun q hq => he q (by simp [hq])), fun a ha b hb => ?_⟩
    obtain ⟨q, hq, hb⟩ := List.mem_flatMap.1 hb
    have := upto_mem.1 ha; have := upto_mem.1 hb; have := h1 q hq; have := he r (by simp)
    omega
theorem up_unique {l l' : List Int} (h : l.Pairwise (· < ·)) (h' : l'.Pairwise (· < ·)) (hm : ∀ n, n ∈ l ↔ n ∈ l') : l = l' := by
  have n1 : l.Nodup := h.imp fun h => by omega
  have n2 : l'.Nodup := h'.imp fun h => by omega
  exact List.Perm.eq_of_pairwise (fun a b _ _ h1 h2 => by omega) h h' ((List.perm_ext_iff_of_nodup n1 n2).2 hm)
/-- the ranges of rising numbers -/
def joinN (out : Rg) (n : Int) : Rg := match out.getLast? with | some r => if r.2 = n then out.dropLast ++ [(r.1, n + 1)] else out ++ [(n, n + 1)] | none => [(n, n + 1)]
def rgs (l : List Int) : Rg := l.foldl joinN []
theorem rgs_upto (out : Rg) (a : Int) (k : Nat) : (upto a (k + 1)).foldl joinN out = (match out.getLast? with | some r => if r.2 = a then out.dropLast ++ [(r.1, a + k + 1)] else out ++ [(a, a + k + 1)] | none => [(a, a + k + 1)]) := by
  induction k with
  | zero => unfold upto joinN; simp
  | succ k ih =>
    have e : upto a (k + 1 + 1) = upto a (k + 1) ++ [a + (k + 1 : Nat)] := by unfold upto; rw [List.range_succ, List.map_append]; rfl
    rw [e, List.foldl_append, ih]
    simp only [List.foldl_cons, List.foldl_nil]
    cases hl : out.getLast? with
    | none => simp only [joinN]; simp; omega
    | some r =>
      simp only
      split <;> (simp only [joinN]; simp; omega)
theorem rgs_nums : ∀ (rs out : Rg), RgOk (out ++ rs) → (nums rs).foldl joinN out = out ++ rs
  | [], out, _ => by simp [nums]
  | r :: rs, out, h => by
    have hr := h.each r (by simp)
    obtain ⟨k, hk⟩ : ∃ k : Nat, (r.2 - r.1).toNat = k + 1 := ⟨(r.2 - r.1).toNat - 1, by omega⟩
    have e : nums (r :: rs) = upto r.1 (k + 1) ++ nums rs := by unfold nums; rw [List.flatMap_cons, hk]
    rw [e, List.foldl_append, rgs_upto]
    have e2 : (match out.getLast? with | some q => if q.2 = r.1 then out.dropLast ++ [(q.1, r.1 + k + 1)] else out ++ [(r.1, r.1 + k + 1)] | none => [(r.1, r.1 + k + 1)]) = out ++ [r] := by
      have hr2 : (r.1, r.1 + (k : Int) + 1) = r := by
        apply Prod.ext
        · rfl
        · show r.1 + (k : Int) + 1 = r.2; omega
      cases hl : out.getLast? with
      | none =>
        have : out = [] := List.getLast?_eq_none_iff.1 hl
        subst this; simp only [List.nil_append]; rw [hr2]
      | some q =>
        have hq : q ∈ out := List.mem_of_getLast? hl
        have := (List.pairwise_append.1 h.up).2.2 q hq r (by simp)
        simp only
        rw [if_neg (by omega), hr2]
    rw [e2]
    have h' : RgOk (out ++ [r] ++ rs) := by simpa using h
    rw [rgs_nums rs (out ++ [r]) h']
    simp
theorem rgs_eq {rs : Rg} (h : RgOk rs) : rgs (nums rs) = rs := rgs_nums rs [] h
end Go.Proofs.YtgbagjpokpchpaaGreatDoor
namespace Go.Proofs.YtgbagjpokpchpaaGreatDoor

/-- groups of seven bits -/
def numB (n : Nat) : List UInt8 := if n < 128 then [UInt8.ofNat n] else UInt8.ofNat (n % 128 + 128) :: numB (n / 128)
termination_by n
decreasing_by omega
theorem numB_lo {n : Nat} (h : n < 128) : numB n = [UInt8.ofNat n] := by rw [numB, if_pos h]
theorem numB_hi {n : Nat} (h : ¬ n < 128) : numB n = UInt8.ofNat (n % 128 + 128) :: numB (n / 128) := by rw [numB, if_neg h]
theorem numB_short {n : Nat} (h : n < 72057594037927936) : (numB n).length ≤ 8 := by
  have key : ∀ k n, n < 128 ^ (k + 1) → (numB n).length ≤ k + 1 := fun k => by
    induction k with
    | zero => intro n h; rw [numB_lo (by simpa using h)]; simp
    | succ k ih =>
      intro n h
      by_cases h1 : n < 128
      · rw [numB_lo h1]; simp
      · rw [numB_hi h1]
        have := ih (n / 128) (by rw [Nat.div_lt_iff_lt_mul (by omega)]; rw [Nat.pow_succ] at h; exact h)
        simp; omega
  exact key 7 n (by simpa using h)
end Go.Proofs.YtgbagjpokpchpaaGreatDoor
namespace Go.Proofs.YtgbagjpokpchpaaGreatDoor
open Go.RowKit Go.Maps Go.Sort

/-- ranges, told from an end on -/
def encR : Int → Rg → List UInt8
  | _, [] => []
  | e, r :: rs => numB (r.1 - e).toNat ++ numB (r.2 - r.1).toNat ++ encR r.2 rs
def endR : Int → Rg → Int
  | e, [] => e
  | _, r :: rs => endR r.2 rs
theorem encR_snoc (r : Int × Int) : ∀ (e : Int) (rs : Rg), encR e (rs ++ [r]) = encR e rs ++ (numB (r.1 - endR e rs).toNat ++ numB (r.2 - r.1).toNat)
  | e, [] => by simp [encR, endR]
  | e, q :: rs => by simp only [List.cons_append, encR, endR, encR_snoc r q.2 rs, List.append_assoc]
theorem endR_snoc (r : Int × Int) : ∀ (e : Int) (rs : Rg), endR e (rs ++ [r]) = r.2
  | e, [] => rfl
  | e, q :: rs => by simp only [List.cons_append, endR]; exact endR_snoc r q.2 rs
/-- a source -/
def encS (p : List UInt8 × Rg) : List UInt8 := UInt8.ofNat p.1.length :: (p.1 ++ numB p.2.length ++ encR 1 p.2)
def encH (m : Had) : List UInt8 := numB m.length ++ m.flatMap encS
theorem encR_len (rs : Rg) (h : ∀ r ∈ rs, 1 ≤ r.1 ∧ r.1 < r.2 ∧ r.2 ≤ 1099511627777) : ∀ e : Int, 1 ≤ e → (encR e rs).length ≤ 16 * rs.length := by
  induction rs with
  | nil => intro e _; simp [encR]
  | cons r rs ih =>
    intro e he
    have hr := h r (by simp)
    have := ih (fun q hq => h q (by simp [hq])) r.2 (by omega)
    have h1 := numB_short (n := (r.1 - e).toNat) (by omega)
    have h2 := numB_short (n := (r.2 - r.1).toNat) (by omega)
    simp only [encR, List.length_append, List.length_cons]
    omega
end Go.Proofs.YtgbagjpokpchpaaGreatDoor
namespace Go.Proofs.YtgbagjpokpchpaaGreatDoor
open Go.RowKit

theorem u8_info : (Tryz.prog.info? 5).map (fun i => (i.zero, i.size, i.bytes)) = some (some (.int .u8 0), 1, 1) := by kernel_rfl

def bvs (l : List UInt8) : List Value := l.map fun x => Value.int .u8 x.toNat
theorem bvs_length (l : List UInt8) : (bvs l).length = l.length := by simp [bvs]
theorem bvs_get (l : List UInt8) (i : Nat) (h : i < l.length) : (bvs l)[i]? = some (.int .u8 l[i].toNat) := by simp [bvs, h]
theorem bvs_append (l l' : List UInt8) : bvs (l ++ l') = bvs l ++ bvs l' := by simp [bvs]

/-- v is a slice of the call's own (its block is base or later) that holds just the bytes l -/
def OwnB (w : World) (base : Nat) (v : Value) (l : List UInt8) : Prop := w.ownsRow base 5 1 v l.length (bvs l)

theorem OwnB.nil (w : World) (base : Nat) : OwnB w base (.slice none 0 0) [] := World.ownsRow_nil _ _ _ _
theorem OwnB.byt {w : World} {base : Nat} {A : Option Addr} {n c : Nat} {l : List UInt8} (h : OwnB w base (.slice A n c) l) : Byt w w.heap.size A n c l := by
  rcases h.2 with ⟨e, hl⟩ | ⟨g, cap, cur, e, hb, hg, hnc, hm, hs, ht⟩
  · have hl' : l = [] := List.eq_nil_of_length_eq_zero hl
    subst hl'
    injection e with e1 e2 e3
    subst e1 e2 e3
    exact Byt.nil _ _ _ _ (by unfold maxLen; omega)
  · injection e with e1 e2 e3
    subst e1 e2 e3
    refine ⟨rfl, hnc, hm, fun _ => ⟨g, 0, rfl, (Array.getElem?_eq_some_iff.1 hg).1, fun i hi => ?_⟩⟩
    rw [Nat.zero_add, World.ownsRow.cellAt h i (by omega), bvs_get l i hi]
theorem OwnB.form {w : World} {base : Nat} {v : Value} {l : List UInt8} (h : OwnB w base v l) : ∃ A c, v = .slice A l.length c := by
  rcases h.2 with ⟨e, hl⟩ | ⟨g, cap, cur, e, _⟩
  · exact ⟨none, 0, by rw [e, hl]⟩
  · exact ⟨_, _, e⟩
theorem OwnB.below {w w' : World} {base B : Nat} {v : Value} {l : List UInt8} (h : OwnB w base v l) (hb : Below B w w') (hB : w.heap.size ≤ B) : OwnB w' base v l := by
  refine ⟨h.1, ?_⟩
  rcases h.2 with ⟨e, hl⟩ | ⟨g, cap, cur, e, hb', hg, hr⟩
  · exact .inl ⟨e, hl⟩
  · exact .inr ⟨g, cap, cur, e, hb', (hb.block g (by have := (Array.getElem?_eq_some_iff.1 hg).1; omega)).trans hg, hr⟩
theorem OwnB.base_le {w : World} {base base' : Nat} {v : Value} {l : List UInt8} (h : OwnB w base v l) (hb : base' ≤ base) : OwnB w base' v l := by
  refine ⟨h.1, ?_⟩
  rcases h.2 with ⟨e, hl⟩ | ⟨g, cap, cur, e, hb', hg, hr⟩
  · exact .inl ⟨e, hl⟩
  · exact .inr ⟨g, cap, cur, e, by omega, hg, hr⟩

theorem OwnB.alloc {w : World} {base : Nat} {v : Value} {l : List UInt8} (h : OwnB w base v l) (o : Obj) : OwnB (w.alloc o) base v l := World.ownsRow.alloc h o
theorem OwnB.lt {w : World} {base : Nat} {v : Value} {l : List UInt8} (h : OwnB w base v l) : ∀ k, v.ownBlock = some k → base ≤ k := fun k hk => (World.ownsRow.lt h k hk).1

set_option maxRecDepth 100000 in
theorem run_app8 (w : World) (ty : TypeId) (base : Nat) (v : Value) (l : List UInt8) (hown : OwnB w base v l) (B : Nat) (A : Option Addr) (m c : Nat) (l' : List UInt8) (hr : Byt w B A m c l')
    (hlen : l.length + m ≤ 1099511627776) (hbase : base ≤ w.heap.size) :
    ∃ v' w', (Builtin.append_ #[83, 83] ty #[v, .slice A m c]).run Tryz.prog w = .ok v' w' ∧ OwnB w' base v' (l ++ l') ∧ w.grownBy w' v.ownBlock ∧
      (v'.ownBlock = v.ownBlock ∨ v'.ownBlock = some w.heap.size) := by
  obtain ⟨i0, hi, hz0, hz1, hz2⟩ := info_parts u8_info
  rcases Nat.eq_zero_or_pos m with h0 | h0
  · subst h0
    have hl' : l' = [] := List.eq_nil_of_length_eq_zero hr.len
    subst hl'
    refine ⟨v, w, ?_, by simpa using hown, World.grownBy.refl w _, .inl rfl⟩
    rcases hown.2 with ⟨rfl, hn⟩ | ⟨g, cap, cur, rfl, _, _, hnc, _⟩
    · cases A <;> simp [Builtin.append_, run_underlying Tryz.underlying83, sizeOf, typeInfo, hi, Builtin.lenOf, Builtin.firstCells, loadCells, loadCellsFrom]
    · cases A <;> simp [Builtin.append_, run_underlying Tryz.underlying83, sizeOf, typeInfo, hi, Builtin.lenOf, Builtin.firstCells, hnc, loadCells, loadCellsFrom, storeCells]
  · obtain ⟨b, off, rfl, _, hc⟩ := hr.cell h0
    obtain ⟨v', w', h1, h2, h3, _, h5⟩ := run_append_own_at (P := Tryz.prog) w base 83 ty 5 i0 (.int .u8 0) 1 1 Tryz.underlying83 hi hz0 hz1 hz2 rfl (by decide) v l.length (bvs l) hown ⟨b, off, none⟩ m c (bvs l')
      (by rw [bvs_length, hr.len]; omega)
      (fun j u hj => by
        have hjl : j < l'.length := by
          rcases Nat.lt_or_ge j l'.length with h | h
          · exact h
          · rw [List.getElem?_eq_none (by rw [bvs_length]; exact h)] at hj; cases hj
        rw [bvs_get l' j hjl] at hj
        injection hj with hj
        subst hj
        have : (⟨b, off, none⟩ : Addr).add j = ⟨b, off + j, none⟩ := by unfold Addr.add; split <;> simp_all
        rw [this]
        exact hc j hjl)
      (fun u hu => by
        obtain ⟨x, _, rfl⟩ := List.mem_map.1 hu
        rfl)
      (by unfold maxLen; omega) (by omega) hbase
    refine ⟨v', w', h1, ?_, h3, h5⟩
    unfold OwnB
    rw [List.length_append, bvs_append, hr.len]
    exact h2

theorem wpList_app8 {ops : Array Oper} {rest : List Oper} {o : Oper} {a : Act} {Q : Exit → Act → World → Prop} {w : World} (hgd : o.guard = none) (s x : Operand)
    (ho : o.op = .call { callee := .builtin .append, args := #[s, x], argTypes := #[83, 83] })
    (base : Nat) (v : Value) (l : List UInt8) (hs : a.eval s = v) (hown : OwnB w base v l)
    (B : Nat) (A : Option Addr) (m c : Nat) (l' : List UInt8) (hx : a.eval x = .slice A m c) (hr : Byt w B A m c l')
    (hlen : l.length + m ≤ 1099511627776) (hbase : base ≤ w.heap.size)
    (h : ∀ v' w', OwnB w' base v' (l ++ l') → w.grownBy w' v.ownBlock → (v'.ownBlock = v.ownBlock ∨ v'.ownBlock = some w.heap.size) → wpList Tryz.prog ops Q rest (a.put o.dst v') w') :
    wpList Tryz.prog ops Q (o :: rest) a w :=
  wpList_plain hgd fun K hK => by
    obtain ⟨v', w', h1, h2, h3, h4⟩ := run_app8 w o.type base v l hown B A m c l' hr hlen hbase
    unfold Oper.wp execOp
    simp only [ho, resolve, invoke, builtin, Sem.run_bind, Sem.run_pure, Result.andThen_ok, List.map_toArray, List.map_cons, List.map_nil, hs, hx, h1]
    exact hK _ _ (h v' w' h2 h3 h4)
end Go.Proofs.YtgbagjpokpchpaaGreatDoor
namespace Go.Proofs.YtgbagjpokpchpaaGreatDoor
open Go.RowKit Go.Maps Go.Sort

/-- a row of bytes goes on -/
structure PnM (w : World) (base : Nat) (v : Value) (l : List UInt8) (v' : Value) (w' : World) : Prop where
  own : OwnB w' base v' l
  keep : Keep (fun b => v.ownBlock = some b) w w'
  blk : ∀ b, v'.ownBlock = some b → v.ownBlock = some b ∨ w.heap.size ≤ b
def PnPost (w : World) (base : Nat) (v : Value) (l : List UInt8) (e : Ending) (w' : World) : Prop := ∃ v', e = .returned v' ∧ PnM w base v l v' w'
def PnRel (w : World) (base : Nat) (v : Value) (l : List UInt8) (v' q : Value) (wr : World) : Prop := ∃ (n : Nat) (l' : List UInt8), q = .int .i64 n ∧ n < 4611686018427387904 ∧ l' ++ numB n = l ∧ PnM w base v l' v' wr
theorem PnM.app {w wr w2 : World} {base : Nat} {v v1 v2 : Value} {l l' : List UInt8} (h : PnM w base v l v1 wr) (o : Obj) (ho : OwnB w2 base v2 l') (hg : (wr.alloc o).grownBy w2 v1.ownBlock) (hv : v2.ownBlock = v1.ownBlock ∨ v2.ownBlock = some (wr.heap.size + 1)) : PnM w base v l' v2 w2 := by
  have hs := h.keep.size
  refine ⟨ho, (h.keep.alloc o).trans (Keep.of_grown (F := fun b => v1.ownBlock = some b) hg (fun k e => e)) (fun b hb hF => ?_), fun b hb => ?_⟩
  · rcases h.blk b hF with h' | h'
    · exact h'
    · omega
  · rcases hv with e | e
    · exact h.blk b (e ▸ hb)
    · rw [e] at hb; injection hb with hb; right; omega
theorem numB_len8 {n : Nat} (h : n < 4611686018427387904) : (numB n).length ≤ 9 := by
  by_cases h1 : n < 128
  · rw [numB_lo h1]; simp
  · rw [numB_hi h1]; have := numB_short (n := n / 128) (by omega); simp; omega
theorem or128 (x : Nat) (h : x < 256) : bits .or .u8 (x : Int) 128 = ((x % 128 + 128 : Nat) : Int) := by
  have : ∀ y : Fin 256, bits .or .u8 ((y.val : Nat) : Int) 128 = ((y.val % 128 + 128 : Nat) : Int) := by decide +kernel
  exact this ⟨x, h⟩
theorem app_str (w : World) (base : Nat) (v : Value) (l s : List UInt8) (ho : OwnB w base v l) (h0 : 0 < l.length) (hb : base ≤ w.heap.size) (hl : l.length + s.length ≤ 1000000000000) (ty : TypeId) :
    ∃ v' w', (Builtin.append_ #[83, 9] ty #[v, .string ⟨s.toArray⟩]).run Tryz.prog w = .ok v' w' ∧ OwnB w' base v' (l ++ s) ∧ w.grownBy w' v.ownBlock ∧ (v'.ownBlock = v.ownBlock ∨ v'.ownBlock = some w.heap.size) := by
  obtain ⟨i0, hi, hz0, hz1, hz2⟩ := info_parts u8_info
  have hss : (⟨s.toArray⟩ : ByteArray).size = s.length := by simp [ByteArray.size]
  have hsc : Lib.strCells ⟨s.toArray⟩ = bvs s := by simp [Lib.strCells, bvs]
  obtain ⟨v', w', hr, h2, h3, _⟩ := Lib.run_append_own_string (P := Tryz.prog) w base 83 9 ty 5 i0 Tryz.underlying83 Tryz.underlying9 hi hz0 hz1 hz2 v l.length (bvs l) ho ⟨s.toArray⟩ (by rw [hss]; unfold maxLen; omega) (by rw [hss]; omega) hb
  refine ⟨v', w', hr, ?_, h3, ?_⟩
  · unfold OwnB
    rw [bvs_append, List.length_append]
    rw [hss, hsc] at h2; exact h2
  · rcases ho.2 with ⟨_, h'⟩ | ⟨g, cap, cur, hv, hbg, hg, hnc, hcm, hcs, htake⟩
    · omega
    · subst hv
      by_cases hroom : l.length + (⟨s.toArray⟩ : ByteArray).size ≤ cap
      · have h5 := Lib.run_append_room_string (P := Tryz.prog) w 83 9 ty 5 i0 Tryz.underlying83 Tryz.underlying9 hi hz1 g l.length cap cur hg ⟨s.toArray⟩ hroom (by rw [hcs]; omega)
        rw [hr] at h5
        injection h5 with h5 _
        left; rw [h5]; rfl
      · have hxl : (bvs l).length = l.length * i0.size := by rw [hz1, bvs_length]; omega
        have h5 := Lib.run_append_grow_string (P := Tryz.prog) w 83 9 ty 5 i0 (.int .u8 0) Tryz.underlying83 Tryz.underlying9 hi hz0 ⟨g, 0, none⟩ l.length cap (bvs l) hxl (World.ownsRow.cells ho (g := g) rfl) ⟨s.toArray⟩ (by omega) (by rw [hss]; omega) (by rw [hz2, hss]; exact growslice_fits (by omega) (by omega))
        rw [hr] at h5
        injection h5 with h5 _
        right; rw [h5]; rfl
theorem PnM.then_ {w w1 w2 : World} {base : Nat} {v v1 v2 : Value} {l l' : List UInt8} (h : PnM w base v l v1 w1) (h2 : PnM w1 base v1 l' v2 w2) : PnM w base v l' v2 w2 := by
  have hs := h.keep.size
  refine ⟨h2.own, h.keep.trans h2.keep (fun b hb hF => ?_), fun b hb => ?_⟩
  · rcases h.blk b hF with h' | h'
    · exact h'
    · omega
  · rcases h2.blk b hb with h' | h'
    · exact h.blk b h'
    · right; omega
theorem PnM.up {w w1 w2 : World} {base : Nat} {v v1 : Value} {l : List UInt8} (h : PnM w base v l v1 w1) (hb : Below w1.heap.size w1 w2) : PnM w base v l v1 w2 :=
  ⟨h.own.below hb (Nat.le_refl _), h.keep.trans (G := fun _ => False) (Keep.of_below hb) (fun _ _ h => h.elim), h.blk⟩
theorem PnM.str {w wr w2 : World} {base : Nat} {v v1 v2 : Value} {l l' : List UInt8} (h : PnM w base v l v1 wr) (ho : OwnB w2 base v2 l') (hg : wr.grownBy w2 v1.ownBlock) (hv : v2.ownBlock = v1.ownBlock ∨ v2.ownBlock = some wr.heap.size) : PnM w base v l' v2 w2 := by
  have hs := h.keep.size
  refine ⟨ho, h.keep.trans (Keep.of_grown (F := fun b => v1.ownBlock = some b) hg (fun k e => e)) (fun b hb hF => ?_), fun b hb => ?_⟩
  · rcases h.blk b hF with h' | h'
    · exact h'
    · omega
  · rcases hv with e | e
    · exact h.blk b (e ▸ hb)
    · rw [e] at hb; injection hb with hb; right; omega
end Go.Proofs.YtgbagjpokpchpaaGreatDoor
namespace Go.Proofs.YtgbagjpokpchpaaGreatDoor

/-- a text with its length ahead -/
def textB (s : List UInt8) : List UInt8 := UInt8.ofNat s.length :: s
/-- an event's bytes -/
def encE (e : Ev) : List UInt8 :=
  UInt8.ofNat e.kind.toNat :: (textB e.src ++ numB e.num.toNat ++ numB e.at_.toNat ++ textB e.per ++ textB e.item ++ numB e.val.toNat ++ textB e.text)
theorem encE_len {e : Ev} (h1 : e.src.length ≤ 300) (h2 : e.per.length ≤ 300) (h3 : e.item.length ≤ 300) (h4 : e.text.length ≤ 300) (n1 : e.num ≤ 1099511627776) (n2 : e.at_ ≤ 1099511627776) (n3 : e.val ≤ 1099511627776) : (encE e).length ≤ 1229 := by
  have a := numB_short (n := e.num.toNat) (by omega)
  have b := numB_short (n := e.at_.toNat) (by omega)
  have c := numB_short (n := e.val.toNat) (by omega)
  unfold encE textB
  simp only [List.length_cons, List.length_append]
  omega
end Go.Proofs.YtgbagjpokpchpaaGreatDoor
namespace Go.Proofs.YtgbagjpokpchpaaGreatDoor
open Go.RowKit

theorem nameB_len {l : List UInt8} (h : nameB l = true) : 1 ≤ l.length ∧ l.length ≤ 24 := by
  unfold nameB at h
  simp only [Bool.and_eq_true, decide_eq_true_eq] at h
  exact ⟨h.1.1, h.1.2⟩
theorem splitB_len (c : UInt8) : ∀ (k : Nat) (s : ByteArray), (∀ t ∈ Lib.splitB ⟨#[c]⟩ 0 k s, t.size ≤ 24) → s.size + 1 ≤ 25 * (Lib.splitB ⟨#[c]⟩ 0 k s).length
  | 0, s, h => by
    rw [Lib.splitB_zero] at h ⊢
    have := h s (by simp)
    simp; omega
  | k + 1, s, h => by
    rcases Lib.indexB_cases s ⟨#[c]⟩ with hi | ⟨i, hi, hle⟩
    · rw [Lib.splitB_miss _ _ _ _ hi] at h ⊢
      have := h s (by simp)
      simp; omega
    · rw [Lib.splitB_hit _ _ _ _ _ hi] at h ⊢
      have h1 := h _ (List.mem_cons_self ..)
      have ih := splitB_len c k (s.extract (i + (⟨#[c]⟩ : ByteArray).size) s.size) (fun t ht => h t (List.mem_cons_of_mem _ ht))
      have hc : (⟨#[c]⟩ : ByteArray).size = 1 := rfl
      rw [hc] at hle ih h ⊢
      simp only [ByteArray.size_extract, List.length_cons] at h1 ih ⊢
      omega
theorem listing_len {s : List UInt8} (h : listingB s = true) : s.length ≤ 224 := by
  unfold listingB at h
  simp only [Bool.and_eq_true, decide_eq_true_eq] at h
  obtain ⟨⟨⟨h1, h2⟩, h3⟩, h4⟩ := h
  have hm := (nameB_len h2).2
  unfold Lib.cut at h1 hm
  by_cases hi : 0 ≤ Lib.index s [59]
  · rw [if_pos hi] at hm
    change (s.take _).length ≤ 24 at hm
    have hlen : s.length ≤ (s.take (Lib.index s [59]).toNat).length + 1 + (restL s).length := by
      unfold restL Lib.cut
      rw [if_pos hi]; simp; omega
    have hr : (restL s).length ≤ 199 := by
      unfold tagsL at h3 h4
      by_cases he : (restL s).isEmpty
      · rw [List.isEmpty_iff.1 he]; simp
      · rw [if_neg he] at h3 h4
        have key := splitB_len 44 (Lib.countB ⟨(restL s).toArray⟩ ⟨#[44]⟩) ⟨(restL s).toArray⟩ (fun t ht => by
          obtain ⟨k, hk, e⟩ := List.getElem_of_mem ht
          unfold tagsB at h4
          rw [List.all_eq_true] at h4
          have := h4 k (by simpa using hk)
          unfold tagB at this
          have h5 : nameB ((List.map (fun b : ByteArray => b.data.toList) (Lib.splitB ⟨#[44]⟩ 0 (Lib.countB ⟨(restL s).toArray⟩ ⟨#[44]⟩) ⟨(restL s).toArray⟩)).getD k []) = true := by
            simp only [Bool.and_eq_true] at this; exact this.1
          have h6 := (nameB_len h5).2
          simp only [List.getD, List.getElem?_map, List.getElem?_eq_getElem hk, Option.map_some, Option.getD_some, e] at h6
          show t.data.size ≤ 24
          rw [← Array.length_toList]; exact h6)
        have hs : (⟨(restL s).toArray⟩ : ByteArray).size = (restL s).length := by simp [ByteArray.size]
        rw [hs] at key
        simp only [List.length_map] at h3
        omega
    omega
  · rw [if_neg hi] at h1; simp at h1
structure Ev.Fit (e : Ev) : Prop where
  src : e.src.length ≤ 24
  per : e.per.length ≤ 24
  item : e.item.length ≤ 24
  text : e.text.length ≤ 224
  num0 : 1 ≤ e.num
  num1 : e.num ≤ 1099511627776
  at0 : 0 ≤ e.at_
  at1 : e.at_ ≤ 1099511627776
  val0 : 0 ≤ e.val
  val1 : e.val ≤ 1048576
  kind0 : 0 ≤ e.kind
  kind1 : e.kind ≤ 14
theorem mayB_fit {e : Ev} (h : mayB e = true) : e.Fit := by
  unfold mayB at h
  rw [Bool.and_eq_true] at h
  obtain ⟨hh, ht⟩ := h
  unfold headB at hh
  simp only [Bool.and_eq_true, decide_eq_true_eq] at hh
  obtain ⟨⟨⟨⟨a1, a2⟩, a3⟩, a4⟩, a5⟩ := hh
  have hs := (nameB_len a1).2
  have key : e.per.length ≤ 24 ∧ e.item.length ≤ 24 ∧ e.text.length ≤ 224 ∧ 0 ≤ e.val ∧ e.val ≤ 1048576 ∧ 0 ≤ e.kind ∧ e.kind ≤ 14 := by
    unfold tailB at ht
    have hk : e.kind = 0 ∨ e.kind = 1 ∨ e.kind = 2 ∨ e.kind = 3 ∨ e.kind = 4 ∨ e.kind = 5 ∨ e.kind = 6 ∨ e.kind = 7 ∨ e.kind = 8 ∨ e.kind = 9 ∨ e.kind = 10 ∨ e.kind = 11 ∨ e.kind = 12 ∨ e.kind = 13 ∨ e.kind = 14 ∨ ¬ (0 ≤ e.kind ∧ e.kind ≤ 14) := by omega
    have n1 := fun h : nameB e.per = true => (nameB_len h).2
    have n2 := fun h : nameB e.item = true => (nameB_len h).2
    have n3 := fun h : nameB e.text = true => (nameB_len h).2
    have n4 := fun h : listingB e.text = true => listing_len h
    rcases hk with k | k | k | k | k | k | k | k | k | k | k | k | k | k | k | k
    case inr.inr.inr.inr.inr.inr.inr.inr.inr.inr.inr.inr.inr.inr.inr =>
      rw [if_neg (by omega), if_neg (by omega), if_neg (by omega), if_neg (by omega), if_neg (by omega), if_neg (by omega), if_neg (by omega), if_neg (by omega), if_neg (by omega), if_neg (by omega), if_neg (by omega), if_neg (by omega), if_neg (by omega), if_neg (by omega), if_neg (by omega)] at ht
      cases ht
    all_goals (
      simp [k] at ht
      simp only [ht, forall_const, List.length_nil] at n1 n2 n3 n4
      simp only [ht, k, List.length_nil]
      first | omega | (simp; omega) | (simp_all; omega))
  exact ⟨hs, key.1, key.2.1, key.2.2.1, a2, a3, a4, a5, key.2.2.2.1, key.2.2.2.2.1, key.2.2.2.2.2.1, key.2.2.2.2.2.2⟩
theorem Ev.Fit.small {e : Ev} (h : e.Fit) : e.small := ⟨by have := h.src; omega, by have := h.per; omega, by have := h.item; omega, by have := h.text; omega⟩
theorem Ev.Fit.len {e : Ev} (h : e.Fit) : (encE e).length ≤ 1229 := encE_len (by have := h.src; omega) (by have := h.per; omega) (by have := h.item; omega) (by have := h.text; omega) h.num1 h.at1 (by have := h.val1; omega)
end Go.Proofs.YtgbagjpokpchpaaGreatDoor
