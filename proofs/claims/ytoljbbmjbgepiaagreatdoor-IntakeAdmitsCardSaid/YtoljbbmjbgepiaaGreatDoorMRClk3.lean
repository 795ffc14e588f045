/-
  Layer 6, the document's clock: held, active, Tell.
  Layer 6, the document's clock: Tell, Tick, place.
  Layer 6, the document's clock: Tick, place.
-/
import Derived.Test.YtoljbbmjbgepiaaGreatDoorMRNames
import Derived.Test.YtoljbbmjbgepiaaGreatDoorMClkPlain
import Derived.Test.YtoljbbmjbgepiaaGreatDoorMRef02
import Derived.StillTailTactics
import Derived.Deep.RegionLaw
namespace Go.Proofs.YtoljbbmjbgepiaaGreatDoor
open Go.RowKit Go.Maps Go.Sort

def srcOne (p : List UInt8 × Int × Int) : List Value := [.string ⟨p.1.toArray⟩, .int .i64 p.2.1, .int .i64 p.2.2]
def srcCells (l : Row (Int × Int)) : List Value := l.flatMap srcOne
theorem srcCells_length (l : Row (Int × Int)) : (srcCells l).length = l.length * 3 := by
  induction l with
  | nil => rfl
  | cons p l ih => simp only [srcCells, List.flatMap_cons, List.length_append, List.length_cons] at *; rw [ih]; simp [srcOne]; omega
theorem srcCells_append (a b : Row (Int × Int)) : srcCells (a ++ b) = srcCells a ++ srcCells b := by simp [srcCells]
theorem srcCells_get (l : Row (Int × Int)) (k j : Nat) (hk : k < l.length) (hj : j < 3) : (srcCells l)[k * 3 + j]? = (srcOne l[k])[j]? := by
  induction l generalizing k with
  | nil => simp at hk
  | cons p l ih =>
    have hc : (srcOne p).length = 3 := rfl
    simp only [srcCells, List.flatMap_cons]
    cases k with
    | zero => rw [Nat.zero_mul, Nat.zero_add, List.getElem?_append_left (by omega)]; rfl
    | succ k =>
      rw [List.getElem?_append_right (by omega), hc, show (k + 1) * 3 + j - 3 = k * 3 + j by omega]
      exact ih k (by simpa using hk)
/-- the slice reads as these sources -/
def Srcs (w : World) (B : Nat) (A : Option Addr) (n c : Nat) (l : Row (Int × Int)) : Prop := Cel w B 3 A n c (srcCells l)
theorem Srcs.len {w : World} {B n c : Nat} {A : Option Addr} {l : Row (Int × Int)} (h : Srcs w B A n c l) : l.length = n := by
  have := Cel.len h; rw [srcCells_length] at this; omega
theorem Srcs.at_ {w : World} {B n c : Nat} {A : Option Addr} {l : Row (Int × Int)} (h : Srcs w B A n c l) (k : Nat) (hk : k < l.length) :
    ∃ b off, A = some ⟨b, off, none⟩ ∧ b < B ∧ w.cell? ⟨b, off + k * 3, none⟩ = some (.string ⟨l[k].1.toArray⟩) ∧ w.cell? ⟨b, off + k * 3 + 1, none⟩ = some (.int .i64 l[k].2.1) ∧ w.cell? ⟨b, off + k * 3 + 2, none⟩ = some (.int .i64 l[k].2.2) := by
  have hl := h.len
  obtain ⟨b, off, e, hb, hc⟩ := Cel.cell h (by omega)
  have key : ∀ j u, j < 3 → (srcOne l[k])[j]? = some u → w.cell? ⟨b, off + k * 3 + j, none⟩ = some u := fun j u hj hu => by
    rw [Nat.add_assoc]; exact hc _ u (by rw [srcCells_get l k j hk hj, hu])
  exact ⟨b, off, e, hb, key 0 _ (by omega) rfl, key 1 _ (by omega) rfl, key 2 _ (by omega) rfl⟩

abbrev rclkObj (c : Clk) (vL : Value) : Obj := .cells #[.int .i64 c.slack, .int .i64 c.idle, .int .i64 c.now, .int .i64 c.mark, vL] 104
/-- a slice whose cells lie in blocks of S -/
def VwIn (S : Nat → Prop) (A : Option Addr) (n : Nat) : Prop := ∀ a, A = some a → 0 < n → S a.block
/-- the document's clock lies at bc; its sources in blocks of S -/
structure RClk (w : World) (bc : Nat) (S : Nat → Prop) (N : Nat) (c : Clk) : Prop where
  view : ∃ A n cp, w.heap[bc]? = some (rclkObj c (.slice A n cp)) ∧ Srcs w w.heap.size A n cp c.src ∧ VwIn S A n
  ns : ¬ S bc
  low : ∀ b, S b → b < w.heap.size
  ok : ClkOk c
  len : c.src.length ≤ N

theorem held_any (w : World) (n : Int) : Calls Tryz.prog 68 #[.int .i64 n] w fun e w' => e = .returned (.int .i64 (boundI n)) ∧ w' = w := by
  by_cases h : n < 0
  · go_enter Tryz.func68, Tryz.ntmps68
    go_wp2
    go_ret
    exact ⟨ret_int (by unfold boundI; omega), rfl⟩
  by_cases h2 : 1099511627776 < n
  · go_enter Tryz.func68, Tryz.ntmps68
    go_wp2
    go_ret
    exact ⟨ret_int (by unfold boundI; omega), rfl⟩
  · go_enter Tryz.func68, Tryz.ntmps68
    go_wp2
    go_ret
    exact ⟨ret_int (by unfold boundI; omega), rfl⟩

def srcAgg (p : List UInt8 × Int × Int) : Value := .agg #[.string ⟨p.1.toArray⟩, .int .i64 p.2.1, .int .i64 p.2.2]
abbrev srcObj (p : List UInt8 × Int × Int) : Obj := .cells #[.string ⟨p.1.toArray⟩, .int .i64 p.2.1, .int .i64 p.2.2] 142
set_option maxHeartbeats 1000000 in
theorem ract_any (w : World) (bc : Nat) (idle now : Int) (h1 : w.cell? ⟨bc, 1, none⟩ = some (.int .i64 idle)) (h2 : w.cell? ⟨bc, 2, none⟩ = some (.int .i64 now)) (p : List UInt8 × Int × Int)
    (hn : 0 ≤ now ∧ now ≤ 1099511627776) (hp : 0 ≤ p.2.2 ∧ p.2.2 ≤ now) :
    Calls Tryz.prog 109 #[.pointer (some ⟨bc, 0, none⟩), srcAgg p] w (Says (actB idle now p.2) w) := by
  have hlt : bc < w.heap.size := World.block_lt_of_cell? w ⟨bc, 1, none⟩ h1
  have hb : Below w.heap.size w (w.alloc (srcObj p)) := (Below.refl _ _).alloc (Nat.le_refl _) _
  have c1 : (w.alloc (srcObj p)).cell? ⟨bc, 1, none⟩ = some (.int .i64 idle) := (hb.cell (p := ⟨bc, 1, none⟩) hlt).trans h1
  have c2 : (w.alloc (srcObj p)).cell? ⟨bc, 2, none⟩ = some (.int .i64 now) := (hb.cell (p := ⟨bc, 2, none⟩) hlt).trans h2
  have c3 : (w.alloc (srcObj p)).cell? ⟨w.heap.size, 2, none⟩ = some (.int .i64 p.2.2) := (cell_of_row _ w.heap.size 2 _ _ (0, 0) (heap_alloc_new w (srcObj p))).trans rfl
  have HA := Lib.hid (show actB idle now p.2 = (decide (idle = 0) || decide (now - p.2.2 ≤ idle)) from rfl)
  obtain ⟨hn1, hn2⟩ := hn
  obtain ⟨hp1, hp2⟩ := hp
  clear h1 h2
  unfold srcAgg
  by_cases h0 : idle = 0
  · have b0 : (idle == 0) = true := by simp [h0]
    have HA' := Lib.hid (show actB idle now p.2 = true by rw [HA.out, decide_eq_true h0]; rfl)
    clear h0
    go_enter Tryz.func109, Tryz.ntmps109
    go_wp2
    go_quiet (fail)
    go_wp2
    go_ret
    exact ⟨ret_bool HA'.out.symm, below_drewN hb _⟩
  · have b0 : (idle == 0) = false := by simp [h0]
    have HA' := Lib.hid (show actB idle now p.2 = decide (now - p.2.2 ≤ idle) by rw [HA.out, decide_eq_false h0]; rfl)
    clear h0
    go_enter Tryz.func109, Tryz.ntmps109
    go_wp2
    go_quiet (fail)
    go_wp2
    go_ret
    exact ⟨ret_bool HA'.out.symm, below_drewN hb _⟩
theorem leastI_snoc (l : List Int) (x : Int) : leastI (l ++ [x]) = match leastI l with | none => some x | some y => some (if x < y then x else y) := by
  induction l with
  | nil => rfl
  | cons a l ih =>
    simp only [List.cons_append, leastI]
    rw [ih]
    cases leastI l with
    | none => simp only; congr 1; split <;> split <;> omega
    | some y =>
      simp only
      congr 1
      by_cases h1 : x < y
      · by_cases h2 : a ≤ x
        · simp [h1, h2]; have : a ≤ y := by omega
          simp [this]; omega
        · by_cases h3 : a ≤ y <;> simp [h1, h2, h3] <;> omega
      · by_cases h3 : a ≤ y
        · simp [h1, h3]; omega
        · simp [h1, h3]
end Go.Proofs.YtoljbbmjbgepiaaGreatDoor
namespace Go.Proofs.YtoljbbmjbgepiaaGreatDoor
open Go.RowKit Go.Maps Go.Sort

def tellI (c : Clk) : Int := match c.told with | none => -2 | some m => if m < -2 then -2 else m
def IntPost (w : World) (n : Int) (e : Ending) (w' : World) : Prop := e = .returned (.int .i64 n) ∧ Below w.heap.size w w'
/-- what the walk wants of the clock's block -/
structure RCells (w : World) (bc : Nat) (c : Clk) (v : Value) : Prop where
  c0 : w.cell? ⟨bc, 0, none⟩ = some (.int .i64 c.slack)
  c1 : w.cell? ⟨bc, 1, none⟩ = some (.int .i64 c.idle)
  c2 : w.cell? ⟨bc, 2, none⟩ = some (.int .i64 c.now)
  c3 : w.cell? ⟨bc, 3, none⟩ = some (.int .i64 c.mark)
  c4 : w.cell? ⟨bc, 4, none⟩ = some v
theorem RCells.of {w : World} {bc : Nat} {c : Clk} {v : Value} (h : w.heap[bc]? = some (rclkObj c v)) : RCells w bc c v := by
  have key : ∀ o, w.cell? ⟨bc, o, none⟩ = _ := fun o => cell_of_row w bc o _ _ (0, 0) h
  exact ⟨(key 0).trans rfl, (key 1).trans rfl, (key 2).trans rfl, (key 3).trans rfl, (key 4).trans rfl⟩
theorem RCells.below {w w' : World} {B bc : Nat} {c : Clk} {v : Value} (h : RCells w bc c v) (hb : Below B w w') (hB : bc < B) : RCells w' bc c v := by
  have key : ∀ o u, w.cell? ⟨bc, o, none⟩ = some u → w'.cell? ⟨bc, o, none⟩ = some u := fun o u hu => (hb.cell (p := ⟨bc, o, none⟩) hB).trans hu
  exact ⟨key _ _ h.c0, key _ _ h.c1, key _ _ h.c2, key _ _ h.c3, key _ _ h.c4⟩

def stepO (o : Option Int) (x : Int) : Option Int := match o with | none => some x | some y => some (if x < y then x else y)
theorem leastI_step (l : List Int) (x : Int) : leastI (l ++ [x]) = stepO (leastI l) x := leastI_snoc l x
def actL (c : Clk) (l : Row (Int × Int)) : List Int := (l.filter fun p => actB c.idle c.now p.2).map fun p => p.2.1 - c.slack - 1
def TlRel (w : World) (c : Clk) (l a i : Value) (wr : World) : Prop := ∃ (k : Nat) (o : Option Int), i = .int .i64 k ∧ k ≤ c.src.length ∧ l = .int .i64 (o.getD 0) ∧ a = .bool o.isSome ∧ leastI (actL c (c.src.take k)) = o ∧ Below w.heap.size w wr
theorem actL_take (c : Clk) (k : Nat) (hk : k < c.src.length) : actL c (c.src.take (k + 1)) = actL c (c.src.take k) ++ (if actB c.idle c.now c.src[k].2 then [c.src[k].2.1 - c.slack - 1] else []) := by
  unfold actL
  rw [List.take_add_one, List.getElem?_eq_getElem hk, Option.toList_some, List.filter_append, List.map_append]
  congr 1
  simp only [List.filter_cons, List.filter_nil]
  split <;> simp

set_option maxRecDepth 100000 in
set_option maxHeartbeats 2000000 in
theorem rtell_any (w : World) (bc : Nat) (S : Nat → Prop) (N : Nat) (c : Clk) (h : RClk w bc S N c) (hN : N ≤ 100000) : Calls Tryz.prog 69 #[.pointer (some ⟨bc, 0, none⟩)] w (IntPost w (tellI c)) := by
  obtain ⟨A, n, cp, hblk, hsrc, hvw⟩ := h.view
  have hok := h.ok
  obtain ⟨hsl1, hsl2⟩ := hok.slack
  obtain ⟨hnw1, hnw2⟩ := hok.now
  have HSRC := Lib.hid hsrc
  have HRC := Lib.hid (RCells.of hblk)
  have HOK := Lib.hid h.ok
  have hlen := h.len
  have hnl := hsrc.len
  have HNL := Lib.hid hnl
  have hbclt : bc < w.heap.size := (Array.getElem?_eq_some_iff.1 hblk).1
  have HTE := Lib.hid (show tellI c = match leastI (actL c c.src) with | none => -2 | some m => if m < -2 then -2 else m from rfl)
  clear hblk hsrc h hok hvw
  have hn1 : n ≤ 100000 := by omega
  obtain ⟨c0, c1, c2, c3, c4⟩ := HRC.out
  go_enter Tryz.func69, Tryz.ntmps69
  clear hnl
  go_wp2
  go_loopw [3, 4, 5] (fun l a i wr => TlRel w c l a i wr) (fun _ _ i _ => n - (intOf i).toNat)
  case atStart => exact ⟨0, none, rfl, Nat.zero_le _, rfl, rfl, rfl, Below.refl _ _⟩
  case round =>
    obtain ⟨k, o, rfl, hk, rfl, rfl, ho, hbel⟩ := hrel
    have HO := Lib.hid ho; clear ho
    obtain ⟨d0, d1, d2, d3, d4⟩ := HRC.out.below hbel hbclt
    clear c0 c1 c2 c3 c4
    by_cases hkn : k < n
    · have hkl : k < c.src.length := by rw [HNL.out]; exact hkn
      obtain ⟨b, off, rfl, hb, e0, e1, e2⟩ := HSRC.out.at_ k hkl
      have e0' := (hbel.cell (p := ⟨b, off + k * 3, none⟩) hb).trans e0
      have e1' := (hbel.cell (p := ⟨b, off + k * 3 + 1, none⟩) hb).trans e1
      have e2' := (hbel.cell (p := ⟨b, off + k * 3 + 2, none⟩) hb).trans e2
      clear e0 e1 e2
      obtain ⟨_, hp1, hp2, hp3, hp4⟩ := HOK.out.src _ (List.getElem_mem hkl)
      have HTK := Lib.hid (actL_take c k hkl)
      generalize c.src[k] = p at *
      obtain ⟨nm, pa, pl⟩ := p
      simp only at *
      have t1 : (k : Int) < n := by omega
      have w1 : IntKind.i64.wrap (pa - c.slack) = pa - c.slack := IntWalk.i64_in _ (by omega)
      have w2 : IntKind.i64.wrap (pa - c.slack - 1) = pa - c.slack - 1 := IntWalk.i64_in _ (by omega)
      go_wp2
      go_quiet (fail)
      have hbq : Below w.heap.size w (wr.drewN nq) := below_drewN hbel nq
      have a1 : (wr.drewN nq).cell? ⟨bc, 1, none⟩ = some (.int .i64 c.idle) := d1
      have a2 : (wr.drewN nq).cell? ⟨bc, 2, none⟩ = some (.int .i64 c.now) := d2
      have a4 : (wr.drewN nq).cell? ⟨bc, 4, none⟩ = some (.slice (some ⟨b, off, none⟩) n cp) := d4
      have q0 : (wr.drewN nq).cell? ⟨b, off + k * 3, none⟩ = _ := e0'
      have q1 : (wr.drewN nq).cell? ⟨b, off + k * 3 + 1, none⟩ = _ := e1'
      have q2 : (wr.drewN nq).cell? ⟨b, off + k * 3 + 2, none⟩ = _ := e2'
      clear d0 d1 d2 d3 d4 e0' e1' e2'
      generalize wr.drewN nq = w3 at *
      go_wp2_with fail
      refine (ract_any w3 bc c.idle c.now a1 a2 (nm, pa, pl) ⟨hnw1, hnw2⟩ ⟨hp3, hp4⟩).mono ?_
      rintro r w4 ⟨rfl, hb4⟩
      have hbw4 : Below w.heap.size w w4 := hbq.trans (hb4.mono hbq.size)
      clear a1 a2 a4 q0 q1 q2 hb4 hbq
      simp only
      have HTK' := Lib.hid (show leastI (actL c (c.src.take (k + 1))) = if actB c.idle c.now (pa, pl) then stepO o (pa - c.slack - 1) else o by
        rw [HTK.out]
        split
        · rw [leastI_step, HO.out]
        · rw [List.append_nil, HO.out])
      clear HTK HO
      generalize actB c.idle c.now (pa, pl) = ab at *
      generalize pa - c.slack - 1 = nn at *
      cases ab
      · have HR := Lib.hid (show TlRel w c (.int .i64 (o.getD 0)) (.bool o.isSome) (.int .i64 ((k + 1 : Nat) : Int)) w4 from ⟨k + 1, o, rfl, by omega, rfl, rfl, by rw [HTK'.out]; rfl, hbw4⟩)
        clear HTK'
        go_wp2
        go_roundw
        case rel => exact HR.out
        case measure => simp [intOf]; omega
      cases o with
      | none =>
        have HR := Lib.hid (show TlRel w c (.int .i64 nn) (.bool true) (.int .i64 ((k + 1 : Nat) : Int)) w4 from ⟨k + 1, some nn, rfl, by omega, rfl, rfl, by rw [HTK'.out]; rfl, hbw4⟩)
        clear HTK'
        simp only [Option.getD_none, Option.isSome_none]
        go_wp2
        go_roundw
        case rel => exact HR.out
        case measure => simp [intOf]; omega
      | some y =>
        simp only [Option.getD_some, Option.isSome_some]
        by_cases hny : nn < y
        · have HR := Lib.hid (show TlRel w c (.int .i64 nn) (.bool true) (.int .i64 ((k + 1 : Nat) : Int)) w4 from ⟨k + 1, some nn, rfl, by omega, rfl, rfl, by rw [HTK'.out]; simp [stepO, hny], hbw4⟩)
          clear HTK'
          go_wp2
          go_roundw
          case rel => exact HR.out
          case measure => simp [intOf]; omega
        · have HR := Lib.hid (show TlRel w c (.int .i64 y) (.bool true) (.int .i64 ((k + 1 : Nat) : Int)) w4 from ⟨k + 1, some y, rfl, by omega, rfl, rfl, by rw [HTK'.out]; simp [stepO, hny], hbw4⟩)
          clear HTK'
          go_wp2
          go_roundw
          case rel => exact HR.out
          case measure => simp [intOf]; omega
    · have t1 : ¬ (k : Int) < n := by omega
      have HO' := Lib.hid (show leastI (actL c c.src) = o by have := HO.out; rw [List.take_of_length_le (by rw [HNL.out]; omega)] at this; exact this)
      cases o with
      | none =>
        have HR := Lib.hid (show tellI c = -2 by rw [HTE.out, HO'.out])
        simp only [Option.getD_none, Option.isSome_none]
        go_wp2
        go_ret
        exact ⟨ret_int HR.out.symm, hbel⟩
      | some y =>
        simp only [Option.getD_some, Option.isSome_some]
        by_cases hy : y < -2
        · have HR := Lib.hid (show tellI c = -2 by rw [HTE.out, HO'.out]; simp [hy])
          go_wp2
          go_ret
          exact ⟨ret_int HR.out.symm, hbel⟩
        · have HR := Lib.hid (show tellI c = y by rw [HTE.out, HO'.out]; simp [hy])
          go_wp2
          go_ret
          exact ⟨ret_int HR.out.symm, hbel⟩
end Go.Proofs.YtoljbbmjbgepiaaGreatDoor
namespace Go.Proofs.YtoljbbmjbgepiaaGreatDoor
open Go.RowKit Go.Maps Go.Sort

theorem Cel.stay {w w' : World} {B B' size n c : Nat} {A : Option Addr} {xs : List Value} {S : Nat → Prop} (h : Cel w B size A n c xs) (hA : VwIn S A n) (hB : B ≤ B') (hk : ∀ b off, S b → b < B → w'.cell? ⟨b, off, none⟩ = w.cell? ⟨b, off, none⟩) : Cel w' B' size A n c xs :=
  ⟨h.len, h.cap, h.max, fun hn => by
    obtain ⟨b, off, e, hb, hc⟩ := h.cell hn
    exact ⟨b, off, e, by omega, fun i u hi => (hk b _ (hA _ e hn) hb).trans (hc i u hi)⟩⟩
theorem VwIn.mono {S T : Nat → Prop} {A : Option Addr} {n : Nat} (h : VwIn S A n) (hT : ∀ b, S b → T b) : VwIn T A n := fun a ha hn => hT _ (h a ha hn)
theorem RClk.stay {w w' : World} {bc N : Nat} {S F : Nat → Prop} {c : Clk} (h : RClk w bc S N c) (hk : Keep F w w') (hF : ∀ b, F b → ¬ S b ∧ b ≠ bc) : RClk w' bc S N c := by
  obtain ⟨⟨A, n, cp, hblk, hsrc, hvw⟩, hns, hlow, hok, hlen⟩ := h
  have hlt : bc < w.heap.size := (Array.getElem?_eq_some_iff.1 hblk).1
  exact ⟨⟨A, n, cp, (hk.block bc hlt (fun hf => (hF _ hf).2 rfl)).trans hblk, Cel.stay hsrc hvw hk.size (fun b off hb hlt => hk.cell (p := ⟨b, off, none⟩) hlt (fun hf => (hF _ hf).1 hb)), hvw⟩, hns, fun b hb => Nat.lt_of_lt_of_le (hlow b hb) hk.size, hok, hlen⟩
theorem RClk.wide {w : World} {bc N M : Nat} {S T : Nat → Prop} {c : Clk} (h : RClk w bc S N c) (hT : ∀ b, S b → T b) (hn : ¬ T bc) (hl : ∀ b, T b → b < w.heap.size) (hM : N ≤ M) : RClk w bc T M c := by
  obtain ⟨⟨A, n, cp, hblk, hsrc, hvw⟩, hns, hlow, hok, hlen⟩ := h
  exact ⟨⟨A, n, cp, hblk, hsrc, hvw.mono hT⟩, hn, hl, hok, by omega⟩
theorem RClk.lt {w : World} {bc N : Nat} {S : Nat → Prop} {c : Clk} (h : RClk w bc S N c) : bc < w.heap.size := by
  obtain ⟨A, n, cp, hblk, _⟩ := h.view
  exact (Array.getElem?_eq_some_iff.1 hblk).1
theorem RClk.put {w : World} {bc N : Nat} {S : Nat → Prop} {c c' : Clk} (h : RClk w bc S N c) (o : Nat) (u : Value) (hc' : ClkOk c') (hs : c'.src = c.src)
    (hset : ∀ v, (#[Value.int .i64 c.slack, .int .i64 c.idle, .int .i64 c.now, .int .i64 c.mark, v] : Array Value).setIfInBounds o u = #[.int .i64 c'.slack, .int .i64 c'.idle, .int .i64 c'.now, .int .i64 c'.mark, v]) :
    RClk (w.setCell ⟨bc, o, none⟩ u) bc S N c' := by
  obtain ⟨⟨A, n, cp, hblk, hsrc, hvw⟩, hns, hlow, hok, hlen⟩ := h
  refine ⟨⟨A, n, cp, ?_, ?_, hvw⟩, hns, fun b hb => by have := hlow b hb; simpa [World.setCell] using this, hc', by rw [hs]; exact hlen⟩
  · have := heap_setCell_same w bc o _ _ u hblk
    rw [hset] at this
    exact this
  · rw [hs]
    exact Cel.stay hsrc hvw (by simp [World.setCell]) (fun b off hb _ => World.cell?_setCell_other w _ _ _ (fun e => hns (by injection e with e1; rw [e1]; exact hb)))
theorem rise_tell {c : Clk} (h : ClkOk c) : c.rise = { c with mark := max c.mark (tellI c) } := by
  have := h.mark
  unfold Clk.rise tellI
  cases c.told with
  | none => simp only; obtain ⟨a1, a2, a3, a4, a5⟩ := c; simp only at *; congr 1; omega
  | some m => simp only; congr 1; split <;> omega
def RTickPost (w : World) (bc N : Nat) (S : Nat → Prop) (c : Clk) (e : Ending) (w' : World) : Prop := e = .returned (.int .i64 c.mark) ∧ RClk w' bc S N c ∧ Keep (· = bc) w w'

set_option maxRecDepth 100000 in
set_option maxHeartbeats 2000000 in
theorem rtick_any (w : World) (bc : Nat) (S : Nat → Prop) (N : Nat) (c : Clk) (h : RClk w bc S N c) (hN : N ≤ 100000) (now : Int) :
    Calls Tryz.prog 31 #[.pointer (some ⟨bc, 0, none⟩), .int .i64 now] w (RTickPost w bc N S (c.tick now)) := by
  have HC := Lib.hid h
  obtain ⟨A, n, cp, hblk, hsrc, hvw⟩ := h.view
  obtain ⟨c0, c1, c2, c3, c4⟩ := RCells.of hblk
  have f2 : ∀ o, w.frozen? ⟨bc, o, none⟩ = false := fun o => frozen_of_row w bc o _ _ hblk
  have hbl := boundI_lo now
  have hbh := boundI_hi now
  have hn := h.ok.now
  have hok := h.ok
  have HT := Lib.hid (show c.tick now = ({ c with now := max c.now (boundI now) } : Clk).rise from rfl)
  have HOK2 := Lib.hid (show ClkOk ({ c with now := max c.now (boundI now) } : Clk) from ⟨hok.slack, hok.idle, by show 0 ≤ max c.now (boundI now) ∧ max c.now (boundI now) ≤ 1099511627776; omega, hok.mark, hok.rising, fun p hp => by
    obtain ⟨q1, q2, q3, q4, q5⟩ := hok.src p hp
    exact ⟨q1, q2, q3, q4, by show p.2.2 ≤ max c.now (boundI now); omega⟩⟩)
  clear hblk hsrc hvw h hok
  go_enter Tryz.func31, Tryz.ntmps31
  go_wp2
  go_still_tail 10, (by kernel_rfl)
  still_call (held_any _ _)
  repeat still_step
  refine wpStill_nil ?_
  change wpList _ _ _ _ _ (w.drewN 1)
  have HC1 := Lib.hid (show RClk (w.drewN 1) bc S N c from HC.out.stay ((Keep.refl (fun _ => False) w).drewN 1) (fun _ h => h.elim))
  have HK := Lib.hid (show Keep (· = bc) w (w.drewN 1) from (Keep.refl _ _).drewN 1)
  have d2 : (w.drewN 1).cell? ⟨bc, 2, none⟩ = some (.int .i64 c.now) := c2
  have d3 : (w.drewN 1).frozen? ⟨bc, 2, none⟩ = false := f2 2
  generalize boundI now = nb at *
  generalize w.drewN 1 = w1 at *
  clear c0 c1 c2 c3 c4 f2
  go_upto_region 2 with fail
  have HC2 := Lib.hid (HC1.out.put (c' := { c with now := max c.now nb }) 2 (.int .i64 (max c.now nb)) HOK2.out rfl (fun _ => rfl))
  have HK2 := Lib.hid (HK.out.setCell (p := ⟨bc, 2, none⟩) (fun _ => rfl) (.int .i64 (max c.now nb)))
  clear HC1 HK d2 d3
  generalize w1.setCell ⟨bc, 2, none⟩ (Value.int IntKind.i64 (max c.now nb)) = w2 at *
  generalize ({ c with now := max c.now nb } : Clk) = c2 at *
  obtain ⟨A, n, cp, hblk, hsrc, hvw⟩ := HC2.out.view
  obtain ⟨e0, e1, e2, e3, e4⟩ := RCells.of hblk
  have g3 : w2.frozen? ⟨bc, 3, none⟩ = false := frozen_of_row w2 bc 3 _ _ hblk
  have hlt2 := HC2.out.lt
  have HRI := Lib.hid (rise_tell HOK2.out)
  have HTB := Lib.hid (show -1 ≤ max c2.mark (tellI c2) ∧ max c2.mark (tellI c2) ≤ 1099511627776 by
    have := HOK2.out.rise.mark; rw [HRI.out] at this; exact this)
  have HOK3 := Lib.hid HOK2.out.rise
  have HTL := Lib.hid (show Calls Tryz.prog 69 #[.pointer (some ⟨bc, 0, none⟩)] w2.drew (IntPost w2.drew (tellI c2)) from
    rtell_any w2.drew bc S N c2 (HC2.out.stay ((Keep.refl (fun _ => False) w2).drewN 1) (fun _ h => h.elim)) hN)
  clear hblk hsrc hvw HC HOK2 e0 e1 e2 e4
  go_wp2
  go_region_law ((go_simp; go_at_call 69; refine HTL.out.mono ?_; rintro r w3 ⟨rfl, hb3⟩; have HB3 := Lib.hid hb3; have d3 : w3.cell? ⟨bc, 3, none⟩ = some (.int .i64 c2.mark) := (hb3.cell (p := ⟨bc, 3, none⟩) hlt2).trans e3; have k3 : w3.frozen? ⟨bc, 3, none⟩ = false := (hb3.frozen (p := ⟨bc, 3, none⟩) hlt2).trans g3; clear hb3))
  all_goals
    have HC3 := Lib.hid (show RClk w3 bc S N c2 from HC2.out.stay (F := fun _ => False) (((Keep.refl (fun _ => False) w2).drewN 1).trans (G := fun _ => False) (Keep.of_below (w := w2.drew) HB3.out) (fun _ _ h => h)) (fun _ h => h.elim))
    have HC4 := Lib.hid (show RClk (w3.setCell ⟨bc, 3, none⟩ (.int .i64 (max c2.mark (tellI c2)))) bc S N (c.tick now) from by
      rw [HT.out, HRI.out]
      refine HC3.out.put 3 _ ?_ rfl (fun _ => rfl)
      rw [← HRI.out]; exact HOK3.out)
    have HM := Lib.hid (show (c.tick now).mark = max c2.mark (tellI c2) by rw [HT.out, HRI.out])
    have HK4 := Lib.hid (show Keep (· = bc) w (w3.setCell ⟨bc, 3, none⟩ (.int .i64 (max c2.mark (tellI c2)))) from
      ((HK2.out.drewN 1).trans (G := fun _ => False) (Keep.of_below (w := w2.drew) HB3.out) (fun _ _ h => h.elim)).setCell (fun _ => rfl) _)
    clear HC3 HRI HT HC2 HTL HTB HOK3 HB3 HK2
    generalize max c2.mark (tellI c2) = mm at *
    have q3 : (w3.setCell ⟨bc, 3, none⟩ (.int .i64 mm)).cell? ⟨bc, 3, none⟩ = some (.int .i64 mm) := by
      obtain ⟨A, n, cp, hblk, _⟩ := HC4.out.view
      have h3 := (RCells.of hblk).c3
      rw [HM.out] at h3
      exact h3
    clear d3 k3 e3 g3
    generalize w3.setCell ⟨bc, 3, none⟩ (.int .i64 mm) = w4 at *
    go_wp2
    go_ret
    exact ⟨ret_int HM.out.symm, HC4.out, HK4.out⟩

/-- how many sources are ahead of a name; is it there? -/
def plcS (l : Row (Int × Int)) (s : List UInt8) : Nat := (l.takeWhile fun p => Op.bytesLess p.1 s).length
def atS (l : Row (Int × Int)) (s : List UInt8) : Bool := (l[plcS l s]?).any fun p => p.1 == s
theorem plcS_of {l : Row (Int × Int)} {s : List UInt8} (k : Nat) (hk : k ≤ l.length) (h1 : ∀ i (h : i < l.length), i < k → Op.bytesLess l[i].1 s = true) (h2 : ∀ h : k < l.length, Op.bytesLess l[k].1 s = false) : plcS l s = k := by
  have e0 : l = l.take k ++ l.drop k := (List.take_append_drop k l).symm
  unfold plcS
  conv => lhs; rw [e0]
  rw [List.takeWhile_append_of_pos (fun x hx => by
    obtain ⟨i, hi, rfl⟩ := List.getElem_of_mem hx
    rw [List.length_take] at hi
    rw [List.getElem_take]
    exact h1 i (by omega) (by omega))]
  have : (l.drop k).takeWhile (fun p => Op.bytesLess p.1 s) = [] := by
    rcases Nat.lt_or_ge k l.length with hlt | hge
    · rw [List.drop_eq_getElem_cons hlt, List.takeWhile_cons_of_neg (by rw [h2 hlt]; simp)]
    · rw [List.drop_of_length_le hge]; rfl
  rw [this]; simp; omega
def PlcPost (w : World) (l : Row (Int × Int)) (s : List UInt8) (e : Ending) (w' : World) : Prop := e = .returned (.tuple #[.int .i64 (plcS l s), .bool (atS l s)]) ∧ ∃ q, w' = w.drewN q
set_option maxRecDepth 100000 in
set_option maxHeartbeats 2000000 in
theorem rplc_any (w : World) (bc : Nat) (S : Nat → Prop) (N : Nat) (c : Clk) (h : RClk w bc S N c) (hN : N ≤ 100000) (s : List UInt8) :
    Calls Tryz.prog 114 #[.pointer (some ⟨bc, 0, none⟩), .string ⟨s.toArray⟩] w (PlcPost w c.src s) := by
  obtain ⟨A, n, cp, hblk, hsrc, hvw⟩ := h.view
  obtain ⟨c0, c1, c2, c3, c4⟩ := RCells.of hblk
  have HSRC := Lib.hid hsrc
  have HNL := Lib.hid hsrc.len
  have hlen := h.len
  have hn1 : n ≤ 100000 := by have := hsrc.len; omega
  clear hblk hsrc h hvw c0 c1 c2 c3
  generalize c.src = l at *
  clear hlen
  go_enter Tryz.func114, Tryz.ntmps114
  go_wp2
  go_loop [6] (fun i => ∃ k : Nat, i = .int .i64 k ∧ k ≤ n ∧ Hid (∀ j (h : j < l.length), j < k → Op.bytesLess l[j].1 s = true)) (fun i => n - (intOf i).toNat)
  case atStart => exact ⟨0, rfl, Nat.zero_le _, fun j _ h => by omega⟩
  case round =>
    obtain ⟨k, rfl, hk, HK⟩ := hrel
    by_cases hkn : k < n
    · have hkl : k < l.length := by rw [HNL.out]; exact hkn
      obtain ⟨b, off, rfl, hb, e0, e1, e2⟩ := HSRC.out.at_ k hkl
      have t1 : (k : Int) < n := by omega
      cases hbl : Op.bytesLess l[k].1 s
      · have HP := Lib.hid (plcS_of k (by omega) HK.out (fun _ => hbl))
        have HA := Lib.hid (show atS l s = (l[k].1 == s) by unfold atS; rw [HP.out, List.getElem?_eq_getElem hkl]; rfl)
        generalize l[k] = p at *
        clear e1 e2
        have HR := Lib.hid (show ∀ q, PlcPost w l s (.returned (.tuple #[.int .i64 k, .bool (p.1 == s)])) (w.drewN q) from fun q => ⟨by rw [HP.out, HA.out], q, rfl⟩)
        clear HA HP
        cases hps : (p.1 == s)
        · rw [hps] at HR
          go_wp2
          go_quiet (fail)
          go_wp2
          go_ret2
          exact HR.out _
        · rw [hps] at HR
          go_wp2
          go_quiet (fail)
          go_wp2
          go_ret2
          exact HR.out _
      · have HN := Lib.hid (show ∀ j (h : j < l.length), j < k + 1 → Op.bytesLess l[j].1 s = true from fun j hj hlt => by
          by_cases e : j = k
          · subst e; exact hbl
          · exact HK.out j hj (by omega))
        generalize l[k] = p at *
        clear e1 e2
        go_wp2
        go_round
        case rel => exact ⟨k + 1, by go_num, by omega, HN.out⟩
        case measure => simp [intOf]; omega
    · have t1 : ¬ (k : Int) < n := by omega
      have HP := Lib.hid (plcS_of (l := l) (s := s) k (by rw [HNL.out]; omega) HK.out (fun h => by rw [HNL.out] at h; omega))
      have HA := Lib.hid (show atS l s = false by unfold atS; rw [HP.out, List.getElem?_eq_none (by rw [HNL.out]; omega)]; rfl)
      have HR := Lib.hid (show ∀ q, PlcPost w l s (.returned (.tuple #[.int .i64 k, .bool false])) (w.drewN q) from fun q => ⟨by rw [HP.out, HA.out], q, rfl⟩)
      clear HA HP
      go_wp2
      go_quiet (fail)
      go_wp2
      go_ret2
      exact HR.out _
end Go.Proofs.YtoljbbmjbgepiaaGreatDoor
