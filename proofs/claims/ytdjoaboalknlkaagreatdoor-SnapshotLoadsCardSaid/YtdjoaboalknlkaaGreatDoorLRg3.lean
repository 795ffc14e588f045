/-
  Layer 2: event.Decode, at any bytes.
-/
import Derived.Test.YtdjoaboalknlkaaGreatDoorLRg2
import Derived.Test.YtdjoaboalknlkaaGreatDoorLEvMay
namespace Go.Proofs.YtdjoaboalknlkaaGreatDoor
open Go.RowKit Go.Maps Go.Sort

theorem belowSetG {B : Nat} {w W : World} {p : Addr} (h : RowKit.Below B w W) (hp : B ≤ p.block) (u : Value) : RowKit.Below B w (W.setCell p u) :=
  ⟨h.os, h.tape, h.output, by have := h.size; simp [World.setCell]; omega, fun k hk => (Below.heap_setCell _ p u k (by omega)).trans (h.block k hk)⟩
abbrev evZG : Obj := .cells #[.string ⟨#[]⟩, .int .i64 0, .int .i64 0, .int .i64 0, .string ⟨#[]⟩, .string ⟨#[]⟩, .int .i64 0, .string ⟨#[]⟩] 78
abbrev rgZ (A : Option Addr) (n c : Nat) : Obj := .cells #[.slice A n c, .int .i64 0, .int .i64 0] 116
/-- Decode's boxes: the result, the reader, the event -/
structure Dg (w W : World) (A : Option Addr) (n c : Nat) (l : List UInt8) (st : Rst) (cs : Array Value) : Prop where
  rd : GrdS W (w.heap.size + 1) A n c l st
  ev : W.heap[w.heap.size + 1 + 1]? = some (.cells cs 78)
  re : W.heap[w.heap.size]? = some (evZG)
  be : RowKit.Below w.heap.size w W
section
variable {w W W' : World} {A : Option Addr} {n c : Nat} {l : List UInt8} {st st' : Rst} {cs : Array Value}
theorem Dg.lt (h : Dg w W A n c l st cs) : w.heap.size + 1 + 1 < W.heap.size := (Array.getElem?_eq_some_iff.1 h.ev).1
theorem Dg.call {v : Value} {e : Ending} (h : Dg w W A n c l st cs) (hp : GrdPost W (w.heap.size + 1) A n c l st' v e W') : Dg w W' A n c l st' cs := by
  have hl := h.lt
  obtain ⟨_, h1, h2⟩ := hp
  exact ⟨h1, (h2.block _ hl (by omega)).trans h.ev, (h2.block _ (by omega) (by omega)).trans h.re, h.be.trans (h2.below h.be.size (fun q hq e => by omega))⟩
theorem Dg.set (h : Dg w W A n c l st cs) (o : Nat) (u : Value) : Dg w (W.setCell ⟨w.heap.size + 1 + 1, o, none⟩ u) A n c l st (cs.setIfInBounds o u) := by
  obtain ⟨k, hk⟩ := h.rd
  exact ⟨⟨k, (Below.heap_setCell _ _ _ _ (by show w.heap.size + 1 ≠ w.heap.size + 1 + 1; omega)).trans hk.blk, hk.le, hk.rest, hk.row.setCell (by show w.heap.size + 1 ≤ w.heap.size + 1 + 1; omega) _, hk.num⟩,
    heap_set_row h.ev, (Below.heap_setCell _ _ _ _ (by show w.heap.size ≠ w.heap.size + 1 + 1; omega)).trans h.re, belowSetG h.be (by show w.heap.size ≤ w.heap.size + 1 + 1; omega) u⟩
end
theorem EvIn.of_heapG {W : World} {b : Nat} {e : Ev} (h : W.heap[b]? = some (evObj e)) : EvIn W b e :=
  ⟨cell_of_row W b 0 _ _ (0, 0) h, cell_of_row W b 1 _ _ (0, 0) h, cell_of_row W b 2 _ _ (0, 0) h, cell_of_row W b 3 _ _ (0, 0) h, cell_of_row W b 4 _ _ (0, 0) h, cell_of_row W b 5 _ _ (0, 0) h, cell_of_row W b 6 _ _ (0, 0) h, cell_of_row W b 7 _ _ (0, 0) h⟩
theorem evg_store {W : World} {t : Nat} (e : Ev) (h : W.heap[t]? = some evZG) : (((((((((W).setCell ⟨t, 0, none⟩ (.string ⟨e.src.toArray⟩)).setCell ⟨t, 1, none⟩ (.int .i64 e.num)).setCell ⟨t, 2, none⟩ (.int .i64 e.at_)).setCell ⟨t, 3, none⟩ (.int .i64 e.kind)).setCell ⟨t, 4, none⟩ (.string ⟨e.per.toArray⟩)).setCell ⟨t, 5, none⟩ (.string ⟨e.item.toArray⟩)).setCell ⟨t, 6, none⟩ (.int .i64 e.val)).setCell ⟨t, 7, none⟩ (.string ⟨e.text.toArray⟩)).heap[t]? = some (evObj e) := by
  have h0 := heap_set_row (o := 0) (u := .string ⟨e.src.toArray⟩) h
  have h1 := heap_set_row (o := 1) (u := .int .i64 e.num) h0
  have h2 := heap_set_row (o := 2) (u := .int .i64 e.at_) h1
  have h3 := heap_set_row (o := 3) (u := .int .i64 e.kind) h2
  have h4 := heap_set_row (o := 4) (u := .string ⟨e.per.toArray⟩) h3
  have h5 := heap_set_row (o := 5) (u := .string ⟨e.item.toArray⟩) h4
  have h6 := heap_set_row (o := 6) (u := .int .i64 e.val) h5
  have h7 := heap_set_row (o := 7) (u := .string ⟨e.text.toArray⟩) h6
  simp only [List.setIfInBounds_toArray, List.set_cons_zero, List.set_cons_succ] at h7
  exact h7
theorem evg_store_below {w W : World} (e : Ev) (h : RowKit.Below w.heap.size w W) : RowKit.Below w.heap.size w (((((((((W).setCell ⟨w.heap.size, 0, none⟩ (.string ⟨e.src.toArray⟩)).setCell ⟨w.heap.size, 1, none⟩ (.int .i64 e.num)).setCell ⟨w.heap.size, 2, none⟩ (.int .i64 e.at_)).setCell ⟨w.heap.size, 3, none⟩ (.int .i64 e.kind)).setCell ⟨w.heap.size, 4, none⟩ (.string ⟨e.per.toArray⟩)).setCell ⟨w.heap.size, 5, none⟩ (.string ⟨e.item.toArray⟩)).setCell ⟨w.heap.size, 6, none⟩ (.int .i64 e.val)).setCell ⟨w.heap.size, 7, none⟩ (.string ⟨e.text.toArray⟩)) := by
  have key : ∀ {W : World} (o : Nat) (u : Value), RowKit.Below w.heap.size w W → RowKit.Below w.heap.size w (W.setCell ⟨w.heap.size, o, none⟩ u) := fun o u h => belowSetG h (p := ⟨w.heap.size, o, none⟩) (Nat.le_refl _) u
  exact key _ _ (key _ _ (key _ _ (key _ _ (key _ _ (key _ _ (key _ _ (key _ _ (h))))))))
theorem evg_zero {W : World} {t : Nat} (h : W.heap[t]? = some evZG) : (((((((((W).setCell ⟨t, 0, none⟩ (.string ⟨#[]⟩)).setCell ⟨t, 1, none⟩ (.int .i64 0)).setCell ⟨t, 2, none⟩ (.int .i64 0)).setCell ⟨t, 3, none⟩ (.int .i64 0)).setCell ⟨t, 4, none⟩ (.string ⟨#[]⟩)).setCell ⟨t, 5, none⟩ (.string ⟨#[]⟩)).setCell ⟨t, 6, none⟩ (.int .i64 0)).setCell ⟨t, 7, none⟩ (.string ⟨#[]⟩)).heap[t]? = some evZG := evg_store ⟨[], 0, 0, 0, [], [], 0, []⟩ h
theorem evg_zero_below {w W : World} (h : RowKit.Below w.heap.size w W) : RowKit.Below w.heap.size w (((((((((W).setCell ⟨w.heap.size, 0, none⟩ (.string ⟨#[]⟩)).setCell ⟨w.heap.size, 1, none⟩ (.int .i64 0)).setCell ⟨w.heap.size, 2, none⟩ (.int .i64 0)).setCell ⟨w.heap.size, 3, none⟩ (.int .i64 0)).setCell ⟨w.heap.size, 4, none⟩ (.string ⟨#[]⟩)).setCell ⟨w.heap.size, 5, none⟩ (.string ⟨#[]⟩)).setCell ⟨w.heap.size, 6, none⟩ (.int .i64 0)).setCell ⟨w.heap.size, 7, none⟩ (.string ⟨#[]⟩)) := evg_store_below ⟨[], 0, 0, 0, [], [], 0, []⟩ h
def evZV : Value := .agg #[.string ⟨#[]⟩, .int .i64 0, .int .i64 0, .int .i64 0, .string ⟨#[]⟩, .string ⟨#[]⟩, .int .i64 0, .string ⟨#[]⟩]
def DgPost (w : World) (l : List UInt8) (r : Ending) (w' : World) : Prop :=
  (match decE l with
    | .ok e t => ∃ k : Nat, r = .returned (.tuple #[e.agg, .int .i64 k, .int .i64 0]) ∧ k ≤ l.length ∧ l.drop k = t
    | .torn => r = .returned (.tuple #[evZV, .int .i64 0, .int .i64 3])
    | .form => r = .returned (.tuple #[evZV, .int .i64 0, .int .i64 2])) ∧ RowKit.Below w.heap.size w w'
def DgR1 (w : World) (l : List UInt8) (A : Option Addr) (n c k : Nat) (e : Ev) (v : Value) (wc : World) : Prop := ∃ (er : Int) (b : Bool), v = .bool b ∧ wc.heap[w.heap.size + 1]? = some (rgObj A n c k er) ∧ wc.heap[w.heap.size + 1 + 1]? = some (evObj e) ∧ wc.heap[w.heap.size]? = some evZG ∧ RowKit.Below w.heap.size w wc ∧ ((b = true ∧ er = 0 ∧ decE l = .form) ∨ (b = false ∧ ((er = 0 ∧ ∃ rest, decE l = .ok e rest ∧ l.drop k = rest) ∨ (er = 3 ∧ decE l = .torn) ∨ (er = 2 ∧ decE l = .form))))
set_option maxRecDepth 100000 in
set_option maxHeartbeats 4000000 in
theorem evdecg_any (w : World) (A : Option Addr) (n c : Nat) (l : List UInt8) (hb : Byt w w.heap.size A n c l) (hnn : n ≤ 1000000000) (hmx : MaxAt w) :
    Calls Tryz.prog 30 #[.slice A n c] w (DgPost w l) := by
  obtain ⟨e, he⟩ : ∃ e, e = evD l := ⟨_, rfl⟩
  have HSM := Lib.hid (show e.small by rw [he]; exact evD_small l)
  have HD := Lib.hid (show decE l = (match st8 l with | .ok r => if mayB e then .ok e r else .form | .torn => .torn | .form => .form) by rw [he]; rfl)
  have HV0 := Lib.hid (show ((oneV (.ok l)).toNat : Int) = e.kind by rw [he]; rfl)
  have HV1 := Lib.hid (show txtV (st1 l) = e.src by rw [he]; rfl)
  have HV2 := Lib.hid (show (numV (st2 l) : Int) = e.num by rw [he]; rfl)
  have HV3 := Lib.hid (show (numV (st3 l) : Int) = e.at_ by rw [he]; rfl)
  have HV4 := Lib.hid (show txtV (st4 l) = e.per by rw [he]; rfl)
  have HV5 := Lib.hid (show txtV (st5 l) = e.item by rw [he]; rfl)
  have HV6 := Lib.hid (show (numV (st6 l) : Int) = e.val by rw [he]; rfl)
  have HV7 := Lib.hid (show txtV (st7 l) = e.text by rw [he]; rfl)
  have hkd := oneV_lt (.ok l)
  have hkd2 : 0 ≤ e.kind ∧ e.kind < 256 := by have := HV0.out; omega
  have HMX := Lib.hid hmx
  have HBY := Lib.hid hb
  clear he hb hmx hkd
  go_enter Tryz.func30, Tryz.ntmps30
  go_upto_region 3 with fail
  have HC := Lib.hid (show Dg w (((w.alloc (evZG)).alloc (rgZ A n c)).alloc (evZG)) A n c l (.ok l) #[.string ⟨#[]⟩, .int .i64 0, .int .i64 0, .int .i64 0, .string ⟨#[]⟩, .string ⟨#[]⟩, .int .i64 0, .string ⟨#[]⟩] from by
    refine ⟨⟨0, ?_, Nat.zero_le _, fun r h => by injection h, ?_, hnn⟩, ?_, ?_, (((Below.refl _ _).alloc (Nat.le_refl _) _).alloc (by simp) _).alloc (by simp; omega) _⟩
    · have := heap_alloc_new (w.alloc (evZG)) (rgZ A n c)
      have h2 : ((w.alloc (evZG)).alloc (rgZ A n c)).heap[w.heap.size + 1]? = some (rgZ A n c) := by simpa using this
      exact (heap_alloc_old _ _ (by simp)).trans (h2.trans rfl)
    · exact (((HBY.out.alloc (Nat.le_refl _) _).alloc (by simp) _).alloc (by simp; omega) _).more (by omega)
    · have := heap_alloc_new ((w.alloc (evZG)).alloc (rgZ A n c)) (evZG)
      simpa using this
    · exact (heap_alloc_old _ _ (by simp; omega)).trans ((heap_alloc_old _ _ (by simp)).trans (heap_alloc_new w _)))
  obtain ⟨w0, hw0⟩ : ∃ w0, w0 = ((w.alloc (evZG)).alloc (rgZ A n c)).alloc (evZG) := ⟨_, rfl⟩
  rw [← hw0] at HC ⊢
  clear hw0
  have HP := Lib.hid (show Calls Tryz.prog 62 #[.pointer (some ⟨w.heap.size + 1, 0, none⟩)] w0 (GrdPost w0 (w.heap.size + 1) A n c l (st1 l) (.int .u8 (e.kind))) from by
    rw [← HV0.out]
    exact rgone_any w0 _ A n c l (.ok l) HC.out.rd)
  go_wp2_with fail
  with_reducible refine HP.out.mono ?_
  rintro r w1 hp
  have HC2 := Lib.hid (HC.out.call hp)
  obtain ⟨rfl, _, _⟩ := hp
  clear HC HP
  have c0 : w1.cell? ⟨w.heap.size + 1 + 1, 3, none⟩ = some (.int .i64 0) := cell_of_row w1 _ 3 _ _ (0, 0) HC2.out.ev
  have z0 : w1.frozen? ⟨w.heap.size + 1 + 1, 3, none⟩ = false := frozen_of_row w1 _ 3 _ _ HC2.out.ev
  go_upto_region 4 with fail
  have HC := Lib.hid (HC2.out.set 3 (.int .i64 e.kind))
  simp only [List.setIfInBounds_toArray, List.set_cons_zero, List.set_cons_succ] at HC
  obtain ⟨w2, hw1⟩ : ∃ w2, w2 = w1.setCell ⟨w.heap.size + 1 + 1, 3, none⟩ (.int .i64 e.kind) := ⟨_, rfl⟩
  rw [← hw1] at HC ⊢
  clear hw1 c0 z0 HC2
  have HP := Lib.hid (show Calls Tryz.prog 63 #[.pointer (some ⟨w.heap.size + 1, 0, none⟩)] w2 (GrdPost w2 (w.heap.size + 1) A n c l (st2 l) (.string ⟨e.src.toArray⟩)) from by
    rw [← HV1.out]
    exact rgtext_any w2 _ A n c l (st1 l) HC.out.rd)
  go_wp2_with fail
  with_reducible refine HP.out.mono ?_
  rintro r w3 hp
  have HC2 := Lib.hid (HC.out.call hp)
  obtain ⟨rfl, _, _⟩ := hp
  clear HC HP
  have c0 : w3.cell? ⟨w.heap.size + 1 + 1, 0, none⟩ = some (.string ⟨#[]⟩) := cell_of_row w3 _ 0 _ _ (0, 0) HC2.out.ev
  have z0 : w3.frozen? ⟨w.heap.size + 1 + 1, 0, none⟩ = false := frozen_of_row w3 _ 0 _ _ HC2.out.ev
  go_upto_region 5 with fail
  have HC := Lib.hid (HC2.out.set 0 (.string ⟨e.src.toArray⟩))
  simp only [List.setIfInBounds_toArray, List.set_cons_zero] at HC
  obtain ⟨w4, hw2⟩ : ∃ w4, w4 = w3.setCell ⟨w.heap.size + 1 + 1, 0, none⟩ (.string ⟨e.src.toArray⟩) := ⟨_, rfl⟩
  rw [← hw2] at HC ⊢
  clear hw2 c0 z0 HC2
  have HP := Lib.hid (show Calls Tryz.prog 64 #[.pointer (some ⟨w.heap.size + 1, 0, none⟩)] w4 (GrdPost w4 (w.heap.size + 1) A n c l (st3 l) (.int .i64 e.num)) from by
    rw [← HV2.out]
    exact rgnumber_any w4 _ A n c l (st2 l) HC.out.rd)
  go_wp2_with fail
  with_reducible refine HP.out.mono ?_
  rintro r w5 hp
  have HC2 := Lib.hid (HC.out.call hp)
  obtain ⟨rfl, _, _⟩ := hp
  clear HC HP
  have c0 : w5.cell? ⟨w.heap.size + 1 + 1, 1, none⟩ = some (.int .i64 0) := cell_of_row w5 _ 1 _ _ (0, 0) HC2.out.ev
  have z0 : w5.frozen? ⟨w.heap.size + 1 + 1, 1, none⟩ = false := frozen_of_row w5 _ 1 _ _ HC2.out.ev
  go_upto_region 6 with fail
  have HC := Lib.hid (HC2.out.set 1 (.int .i64 e.num))
  simp only [List.setIfInBounds_toArray, List.set_cons_zero, List.set_cons_succ] at HC
  obtain ⟨w6, hw3⟩ : ∃ w6, w6 = w5.setCell ⟨w.heap.size + 1 + 1, 1, none⟩ (.int .i64 e.num) := ⟨_, rfl⟩
  rw [← hw3] at HC ⊢
  clear hw3 c0 z0 HC2
  have HP := Lib.hid (show Calls Tryz.prog 64 #[.pointer (some ⟨w.heap.size + 1, 0, none⟩)] w6 (GrdPost w6 (w.heap.size + 1) A n c l (st4 l) (.int .i64 e.at_)) from by
    rw [← HV3.out]
    exact rgnumber_any w6 _ A n c l (st3 l) HC.out.rd)
  go_wp2_with fail
  with_reducible refine HP.out.mono ?_
  rintro r w7 hp
  have HC2 := Lib.hid (HC.out.call hp)
  obtain ⟨rfl, _, _⟩ := hp
  clear HC HP
  have c0 : w7.cell? ⟨w.heap.size + 1 + 1, 2, none⟩ = some (.int .i64 0) := cell_of_row w7 _ 2 _ _ (0, 0) HC2.out.ev
  have z0 : w7.frozen? ⟨w.heap.size + 1 + 1, 2, none⟩ = false := frozen_of_row w7 _ 2 _ _ HC2.out.ev
  go_upto_region 7 with fail
  have HC := Lib.hid (HC2.out.set 2 (.int .i64 e.at_))
  simp only [List.setIfInBounds_toArray, List.set_cons_zero, List.set_cons_succ] at HC
  obtain ⟨w8, hw4⟩ : ∃ w8, w8 = w7.setCell ⟨w.heap.size + 1 + 1, 2, none⟩ (.int .i64 e.at_) := ⟨_, rfl⟩
  rw [← hw4] at HC ⊢
  clear hw4 c0 z0 HC2
  have HP := Lib.hid (show Calls Tryz.prog 63 #[.pointer (some ⟨w.heap.size + 1, 0, none⟩)] w8 (GrdPost w8 (w.heap.size + 1) A n c l (st5 l) (.string ⟨e.per.toArray⟩)) from by
    rw [← HV4.out]
    exact rgtext_any w8 _ A n c l (st4 l) HC.out.rd)
  go_wp2_with fail
  with_reducible refine HP.out.mono ?_
  rintro r w9 hp
  have HC2 := Lib.hid (HC.out.call hp)
  obtain ⟨rfl, _, _⟩ := hp
  clear HC HP
  have c0 : w9.cell? ⟨w.heap.size + 1 + 1, 4, none⟩ = some (.string ⟨#[]⟩) := cell_of_row w9 _ 4 _ _ (0, 0) HC2.out.ev
  have z0 : w9.frozen? ⟨w.heap.size + 1 + 1, 4, none⟩ = false := frozen_of_row w9 _ 4 _ _ HC2.out.ev
  go_upto_region 8 with fail
  have HC := Lib.hid (HC2.out.set 4 (.string ⟨e.per.toArray⟩))
  simp only [List.setIfInBounds_toArray, List.set_cons_zero, List.set_cons_succ] at HC
  obtain ⟨w10, hw5⟩ : ∃ w10, w10 = w9.setCell ⟨w.heap.size + 1 + 1, 4, none⟩ (.string ⟨e.per.toArray⟩) := ⟨_, rfl⟩
  rw [← hw5] at HC ⊢
  clear hw5 c0 z0 HC2
  have HP := Lib.hid (show Calls Tryz.prog 63 #[.pointer (some ⟨w.heap.size + 1, 0, none⟩)] w10 (GrdPost w10 (w.heap.size + 1) A n c l (st6 l) (.string ⟨e.item.toArray⟩)) from by
    rw [← HV5.out]
    exact rgtext_any w10 _ A n c l (st5 l) HC.out.rd)
  go_wp2_with fail
  with_reducible refine HP.out.mono ?_
  rintro r w11 hp
  have HC2 := Lib.hid (HC.out.call hp)
  obtain ⟨rfl, _, _⟩ := hp
  clear HC HP
  have c0 : w11.cell? ⟨w.heap.size + 1 + 1, 5, none⟩ = some (.string ⟨#[]⟩) := cell_of_row w11 _ 5 _ _ (0, 0) HC2.out.ev
  have z0 : w11.frozen? ⟨w.heap.size + 1 + 1, 5, none⟩ = false := frozen_of_row w11 _ 5 _ _ HC2.out.ev
  go_upto_region 9 with fail
  have HC := Lib.hid (HC2.out.set 5 (.string ⟨e.item.toArray⟩))
  simp only [List.setIfInBounds_toArray, List.set_cons_zero, List.set_cons_succ] at HC
  obtain ⟨w12, hw6⟩ : ∃ w12, w12 = w11.setCell ⟨w.heap.size + 1 + 1, 5, none⟩ (.string ⟨e.item.toArray⟩) := ⟨_, rfl⟩
  rw [← hw6] at HC ⊢
  clear hw6 c0 z0 HC2
  have HP := Lib.hid (show Calls Tryz.prog 64 #[.pointer (some ⟨w.heap.size + 1, 0, none⟩)] w12 (GrdPost w12 (w.heap.size + 1) A n c l (st7 l) (.int .i64 e.val)) from by
    rw [← HV6.out]
    exact rgnumber_any w12 _ A n c l (st6 l) HC.out.rd)
  go_wp2_with fail
  with_reducible refine HP.out.mono ?_
  rintro r w13 hp
  have HC2 := Lib.hid (HC.out.call hp)
  obtain ⟨rfl, _, _⟩ := hp
  clear HC HP
  have c0 : w13.cell? ⟨w.heap.size + 1 + 1, 6, none⟩ = some (.int .i64 0) := cell_of_row w13 _ 6 _ _ (0, 0) HC2.out.ev
  have z0 : w13.frozen? ⟨w.heap.size + 1 + 1, 6, none⟩ = false := frozen_of_row w13 _ 6 _ _ HC2.out.ev
  go_upto_region 10 with fail
  have HC := Lib.hid (HC2.out.set 6 (.int .i64 e.val))
  simp only [List.setIfInBounds_toArray, List.set_cons_zero, List.set_cons_succ] at HC
  obtain ⟨w14, hw7⟩ : ∃ w14, w14 = w13.setCell ⟨w.heap.size + 1 + 1, 6, none⟩ (.int .i64 e.val) := ⟨_, rfl⟩
  rw [← hw7] at HC ⊢
  clear hw7 c0 z0 HC2
  have HP := Lib.hid (show Calls Tryz.prog 63 #[.pointer (some ⟨w.heap.size + 1, 0, none⟩)] w14 (GrdPost w14 (w.heap.size + 1) A n c l (st8 l) (.string ⟨e.text.toArray⟩)) from by
    rw [← HV7.out]
    exact rgtext_any w14 _ A n c l (st7 l) HC.out.rd)
  go_wp2_with fail
  with_reducible refine HP.out.mono ?_
  rintro r w15 hp
  have HC2 := Lib.hid (HC.out.call hp)
  obtain ⟨rfl, _, _⟩ := hp
  clear HC HP
  have c0 : w15.cell? ⟨w.heap.size + 1 + 1, 7, none⟩ = some (.string ⟨#[]⟩) := cell_of_row w15 _ 7 _ _ (0, 0) HC2.out.ev
  have z0 : w15.frozen? ⟨w.heap.size + 1 + 1, 7, none⟩ = false := frozen_of_row w15 _ 7 _ _ HC2.out.ev
  go_upto_region 11 with fail
  have HC := Lib.hid (HC2.out.set 7 (.string ⟨e.text.toArray⟩))
  simp only [List.setIfInBounds_toArray, List.set_cons_zero, List.set_cons_succ] at HC
  obtain ⟨w16, hw8⟩ : ∃ w16, w16 = w15.setCell ⟨w.heap.size + 1 + 1, 7, none⟩ (.string ⟨e.text.toArray⟩) := ⟨_, rfl⟩
  rw [← hw8] at HC ⊢
  clear hw8 c0 z0 HC2
  have HCE := Lib.hid (show ∀ (W : World), Dg w W A n c l (st8 l) #[.string ⟨e.src.toArray⟩, .int .i64 e.num, .int .i64 e.at_, .int .i64 e.kind, .string ⟨e.per.toArray⟩, .string ⟨e.item.toArray⟩, .int .i64 e.val, .string ⟨e.text.toArray⟩] →
      (W.cell? ⟨w.heap.size + 1 + 1, 0, none⟩ = some (.string ⟨e.src.toArray⟩) ∧ W.cell? ⟨w.heap.size + 1 + 1, 1, none⟩ = some (.int .i64 e.num) ∧ W.cell? ⟨w.heap.size + 1 + 1, 2, none⟩ = some (.int .i64 e.at_) ∧ W.cell? ⟨w.heap.size + 1 + 1, 3, none⟩ = some (.int .i64 e.kind) ∧ W.cell? ⟨w.heap.size + 1 + 1, 4, none⟩ = some (.string ⟨e.per.toArray⟩) ∧ W.cell? ⟨w.heap.size + 1 + 1, 5, none⟩ = some (.string ⟨e.item.toArray⟩) ∧ W.cell? ⟨w.heap.size + 1 + 1, 6, none⟩ = some (.int .i64 e.val) ∧ W.cell? ⟨w.heap.size + 1 + 1, 7, none⟩ = some (.string ⟨e.text.toArray⟩)) from fun W h =>
    ⟨cell_of_row W _ 0 _ _ (0, 0) h.ev, cell_of_row W _ 1 _ _ (0, 0) h.ev, cell_of_row W _ 2 _ _ (0, 0) h.ev, cell_of_row W _ 3 _ _ (0, 0) h.ev, cell_of_row W _ 4 _ _ (0, 0) h.ev, cell_of_row W _ 5 _ _ (0, 0) h.ev, cell_of_row W _ 6 _ _ (0, 0) h.ev, cell_of_row W _ 7 _ _ (0, 0) h.ev⟩)
  obtain ⟨f0, f1, f2, f3, f4, f5, f6, f7⟩ := HCE.out _ HC.out
  obtain ⟨k, hk⟩ := HC.out.rd
  obtain ⟨_, r1, r2, _, zr⟩ := hk.cells
  have HKN := Lib.hid hk.le
  have HKR := Lib.hid hk.rest
  have HLN := Lib.hid hk.row.len
  have HBK := Lib.hid hk.blk
  have HL16 := Lib.hid HC.out.lt
  clear hk HV0 HV1 HV2 HV3 HV4 HV5 HV6 HV7 HCE
  go_cut [44] (fun v wc => DgR1 w l A n c k e v wc)
  case first =>
    cases hs : st8 l with
    | torn =>
      rw [hs] at HD r2 HBK
      have r2' : w16.cell? ⟨w.heap.size + 1, 2, none⟩ = some (.int .i64 3) := r2
      have HF := Lib.hid (show DgR1 w l A n c k e (.bool false) w16 from ⟨3, false, rfl, HBK.out, HC.out.ev, HC.out.re, HC.out.be, .inr ⟨rfl, .inr (.inl ⟨rfl, HD.out⟩)⟩⟩)
      clear r2 hs HD HBK
      go_wp2
      go_meet
      exact HF.out
    | form =>
      rw [hs] at HD r2 HBK
      have r2' : w16.cell? ⟨w.heap.size + 1, 2, none⟩ = some (.int .i64 2) := r2
      have HF := Lib.hid (show DgR1 w l A n c k e (.bool false) w16 from ⟨2, false, rfl, HBK.out, HC.out.ev, HC.out.re, HC.out.be, .inr ⟨rfl, .inr (.inr ⟨rfl, HD.out⟩)⟩⟩)
      clear r2 hs HD HBK
      go_wp2
      go_meet
      exact HF.out
    | ok rest =>
      rw [hs] at HD r2 HBK
      have r2' : w16.cell? ⟨w.heap.size + 1, 2, none⟩ = some (.int .i64 0) := r2
      have HKR2 := Lib.hid (HKR.out rest hs)
      have HMA := Lib.hid (may_any w16 e HSM.out (HMX.out.up HC.out.be))
      unfold Ev.agg at HMA
      clear r2 hs HKR
      cases hmb : mayB e
      · rw [hmb] at HMA HD
        have HR := Lib.hid (show decE l = .form from HD.out)
        clear hmb HD
        go_wp2_with fail
        with_reducible refine HMA.out.mono ?_
        rintro r w17 ⟨rfl, hb17⟩
        have HB17 := Lib.hid (show RowKit.Below w.heap.size w w17 from HC.out.be.trans (hb17.mono HC.out.be.size))
        have HF := Lib.hid (show DgR1 w l A n c k e (.bool true) w17 from
          ⟨0, true, rfl, (hb17.block _ (by have := HL16.out; omega)).trans HBK.out, (hb17.block _ HL16.out).trans HC.out.ev, (hb17.block _ (by have := HL16.out; omega)).trans HC.out.re, HB17.out, .inl ⟨rfl, rfl, HR.out⟩⟩)
        clear f0 f1 f2 f3 f4 f5 f6 f7 r1 r2' hb17 zr
        go_wp2
        go_meet
        exact HF.out
      · rw [hmb] at HMA HD
        have HR := Lib.hid (show decE l = .ok e rest from HD.out)
        clear hmb HD
        go_wp2_with fail
        with_reducible refine HMA.out.mono ?_
        rintro r w17 ⟨rfl, hb17⟩
        have HF := Lib.hid (show DgR1 w l A n c k e (.bool false) w17 from
          ⟨0, false, rfl, (hb17.block _ (by have := HL16.out; omega)).trans HBK.out, (hb17.block _ HL16.out).trans HC.out.ev, (hb17.block _ (by have := HL16.out; omega)).trans HC.out.re, HC.out.be.trans (hb17.mono HC.out.be.size), .inr ⟨rfl, .inl ⟨rfl, rest, HR.out, HKR2.out⟩⟩⟩)
        clear f0 f1 f2 f3 f4 f5 f6 f7 r1 r2' hb17 zr
        go_wp2
        go_meet
        exact HF.out
  case rest =>
  clear f0 f1 f2 f3 f4 f5 f6 f7 r1 r2 zr HC HBK HKR HD HMX HBY
  obtain ⟨er, b, rfl, hrb, hev, hre, hbe, hout⟩ := hcut
  have HERR := Lib.hid (show ∀ er : Int, (er = 3 ∧ decE l = .torn) ∨ (er = 2 ∧ decE l = .form) → ∀ W, RowKit.Below w.heap.size w W → DgPost w l (.returned (.tuple #[evZV, .int .i64 0, .int .i64 er])) W from fun er h W hW => by
    unfold DgPost
    rcases h with ⟨rfl, h⟩ | ⟨rfl, h⟩ <;> rw [h] <;> exact ⟨rfl, hW⟩)
  rcases hout with ⟨rfl, rfl, hd⟩ | ⟨rfl, hout⟩
  · have z2 := frozen_of_row wc (w.heap.size + 1) 2 _ _ hrb
    have c2 : wc.cell? ⟨w.heap.size + 1, 2, none⟩ = some (.int .i64 0) := cell_of_row wc (w.heap.size + 1) 2 _ _ (0, 0) hrb
    have p2 : (wc.setCell ⟨w.heap.size + 1, 2, none⟩ (.int .i64 2)).cell? ⟨w.heap.size + 1, 2, none⟩ = some (.int .i64 2) := cell_of_row _ _ 2 _ _ (0, 0) (heap_set_row hrb)
    have HU := Lib.hid (show (wc.setCell ⟨w.heap.size + 1, 2, none⟩ (.int .i64 2)).heap[w.heap.size]? = some evZG from (Below.heap_setCell _ _ _ _ (by show w.heap.size ≠ w.heap.size + 1; omega)).trans hre)
    have HB17 := Lib.hid (show RowKit.Below w.heap.size w (wc.setCell ⟨w.heap.size + 1, 2, none⟩ (.int .i64 2)) from belowSetG hbe (by show w.heap.size ≤ w.heap.size + 1; omega) _)
    have HER := Lib.hid (HERR.out 2 (.inr ⟨rfl, hd⟩))
    clear hrb hev hre hbe hd HERR
    go_upto_region 13 with fail
    generalize wc.setCell ⟨w.heap.size + 1, 2, none⟩ (.int .i64 2) = w17 at *
    clear c2 z2
    have hv0 := evg_zero HU.out
    have hr0 := evg_zero_below HB17.out
    generalize hw18 : ((((((((w17).setCell ⟨w.heap.size, 0, none⟩ (.string ⟨#[]⟩)).setCell ⟨w.heap.size, 1, none⟩ (.int .i64 0)).setCell ⟨w.heap.size, 2, none⟩ (.int .i64 0)).setCell ⟨w.heap.size, 3, none⟩ (.int .i64 0)).setCell ⟨w.heap.size, 4, none⟩ (.string ⟨#[]⟩)).setCell ⟨w.heap.size, 5, none⟩ (.string ⟨#[]⟩)).setCell ⟨w.heap.size, 6, none⟩ (.int .i64 0)).setCell ⟨w.heap.size, 7, none⟩ (.string ⟨#[]⟩) = w18 at hv0 hr0
    have HV := Lib.hid (show w18.drew.heap[w.heap.size]? = some evZG from hv0)
    have HF := Lib.hid (HER.out w18.drew (below_drewN hr0 1))
    clear hv0 hr0
    have c0 := cell_of_row w17 w.heap.size 0 _ _ (0, 0) HU.out
    have z0 := frozen_of_row w17 w.heap.size 0 _ _ HU.out
    have s0 : w18.drew.cell? ⟨w.heap.size, 0, none⟩ = some (.string ⟨#[]⟩) := cell_of_row w18.drew w.heap.size 0 _ _ (0, 0) HV.out
    have c1 := cell_of_row w17 w.heap.size 1 _ _ (0, 0) HU.out
    have z1 := frozen_of_row w17 w.heap.size 1 _ _ HU.out
    have s1 : w18.drew.cell? ⟨w.heap.size, 1, none⟩ = some (.int .i64 0) := cell_of_row w18.drew w.heap.size 1 _ _ (0, 0) HV.out
    have c2 := cell_of_row w17 w.heap.size 2 _ _ (0, 0) HU.out
    have z2 := frozen_of_row w17 w.heap.size 2 _ _ HU.out
    have s2 : w18.drew.cell? ⟨w.heap.size, 2, none⟩ = some (.int .i64 0) := cell_of_row w18.drew w.heap.size 2 _ _ (0, 0) HV.out
    have c3 := cell_of_row w17 w.heap.size 3 _ _ (0, 0) HU.out
    have z3 := frozen_of_row w17 w.heap.size 3 _ _ HU.out
    have s3 : w18.drew.cell? ⟨w.heap.size, 3, none⟩ = some (.int .i64 0) := cell_of_row w18.drew w.heap.size 3 _ _ (0, 0) HV.out
    have c4 := cell_of_row w17 w.heap.size 4 _ _ (0, 0) HU.out
    have z4 := frozen_of_row w17 w.heap.size 4 _ _ HU.out
    have s4 : w18.drew.cell? ⟨w.heap.size, 4, none⟩ = some (.string ⟨#[]⟩) := cell_of_row w18.drew w.heap.size 4 _ _ (0, 0) HV.out
    have c5 := cell_of_row w17 w.heap.size 5 _ _ (0, 0) HU.out
    have z5 := frozen_of_row w17 w.heap.size 5 _ _ HU.out
    have s5 : w18.drew.cell? ⟨w.heap.size, 5, none⟩ = some (.string ⟨#[]⟩) := cell_of_row w18.drew w.heap.size 5 _ _ (0, 0) HV.out
    have c6 := cell_of_row w17 w.heap.size 6 _ _ (0, 0) HU.out
    have z6 := frozen_of_row w17 w.heap.size 6 _ _ HU.out
    have s6 : w18.drew.cell? ⟨w.heap.size, 6, none⟩ = some (.int .i64 0) := cell_of_row w18.drew w.heap.size 6 _ _ (0, 0) HV.out
    have c7 := cell_of_row w17 w.heap.size 7 _ _ (0, 0) HU.out
    have z7 := frozen_of_row w17 w.heap.size 7 _ _ HU.out
    have s7 : w18.drew.cell? ⟨w.heap.size, 7, none⟩ = some (.string ⟨#[]⟩) := cell_of_row w18.drew w.heap.size 7 _ _ (0, 0) HV.out
    have HW := Lib.hid hw18
    clear hw18
    go_upto_region 14 with fail
    go_region_law (fail)
    all_goals
      clear c0 c1 c2 c3 c4 c5 c6 c7 z0 z1 z2 z3 z4 z5 z6 z7 p2
      rw [HW.out]
      clear HW
      go_wp2
      exact bodyPost_ret (v := .tuple #[evZV, .int .i64 0, .int .i64 2]) (by simp [results, Tryz.results30, go_sem, s0, s1, s2, s3, s4, s5, s6, s7, evZV]) rfl HF.out
  have HT := Lib.hid hev; have HU := Lib.hid hre; have HB17 := Lib.hid hbe
  have p1 : wc.cell? ⟨w.heap.size + 1, 1, none⟩ = some (.int .i64 k) := cell_of_row wc _ 1 _ _ (0, 0) hrb
  have p2 : wc.cell? ⟨w.heap.size + 1, 2, none⟩ = some (.int .i64 er) := cell_of_row wc _ 2 _ _ (0, 0) hrb
  clear hrb hev hre hbe
  generalize wc = w17 at *
  go_upto_region 13 with fail
  by_cases her : er = 0
  · subst her
    obtain ⟨rest, hR, hdr⟩ : ∃ rest, decE l = .ok e rest ∧ l.drop k = rest := by
      rcases hout with h | h | h
      · exact h.2
      · exact absurd h.1 (by decide)
      · exact absurd h.1 (by decide)
    have HR := Lib.hid hR; have HKR := Lib.hid hdr
    clear hout hR hdr HERR
    obtain ⟨f0, f1, f2, f3, f4, f5, f6, f7⟩ := EvIn.of_heapG HT.out
    go_upto_region 15 with fail
    have hv0 := evg_store e HU.out
    have hr0 := evg_store_below e HB17.out
    generalize hw18 : ((((((((w17).setCell ⟨w.heap.size, 0, none⟩ (.string ⟨e.src.toArray⟩)).setCell ⟨w.heap.size, 1, none⟩ (.int .i64 e.num)).setCell ⟨w.heap.size, 2, none⟩ (.int .i64 e.at_)).setCell ⟨w.heap.size, 3, none⟩ (.int .i64 e.kind)).setCell ⟨w.heap.size, 4, none⟩ (.string ⟨e.per.toArray⟩)).setCell ⟨w.heap.size, 5, none⟩ (.string ⟨e.item.toArray⟩)).setCell ⟨w.heap.size, 6, none⟩ (.int .i64 e.val)).setCell ⟨w.heap.size, 7, none⟩ (.string ⟨e.text.toArray⟩) = w18 at hv0 hr0
    have HV := Lib.hid (show w18.drew.heap[w.heap.size]? = some (evObj e) from hv0)
    have HF := Lib.hid (show DgPost w l (.returned (.tuple #[e.agg, .int .i64 k, .int .i64 0])) w18.drew from by
      unfold DgPost; rw [HR.out]; exact ⟨⟨k, rfl, by have := HLN.out; have := HKN.out; omega, HKR.out⟩, below_drewN hr0 1⟩)
    clear hv0 hr0
    obtain ⟨s0, s1, s2, s3, s4, s5, s6, s7⟩ := EvIn.of_heapG HV.out
    have c0 := cell_of_row w17 w.heap.size 0 _ _ (0, 0) HU.out
    have z0 := frozen_of_row w17 w.heap.size 0 _ _ HU.out
    have c1 := cell_of_row w17 w.heap.size 1 _ _ (0, 0) HU.out
    have z1 := frozen_of_row w17 w.heap.size 1 _ _ HU.out
    have c2 := cell_of_row w17 w.heap.size 2 _ _ (0, 0) HU.out
    have z2 := frozen_of_row w17 w.heap.size 2 _ _ HU.out
    have c3 := cell_of_row w17 w.heap.size 3 _ _ (0, 0) HU.out
    have z3 := frozen_of_row w17 w.heap.size 3 _ _ HU.out
    have c4 := cell_of_row w17 w.heap.size 4 _ _ (0, 0) HU.out
    have z4 := frozen_of_row w17 w.heap.size 4 _ _ HU.out
    have c5 := cell_of_row w17 w.heap.size 5 _ _ (0, 0) HU.out
    have z5 := frozen_of_row w17 w.heap.size 5 _ _ HU.out
    have c6 := cell_of_row w17 w.heap.size 6 _ _ (0, 0) HU.out
    have z6 := frozen_of_row w17 w.heap.size 6 _ _ HU.out
    have c7 := cell_of_row w17 w.heap.size 7 _ _ (0, 0) HU.out
    have z7 := frozen_of_row w17 w.heap.size 7 _ _ HU.out
    have HW := Lib.hid hw18
    clear hw18
    go_region_law (fail)
    all_goals
      clear c0 c1 c2 c3 c4 c5 c6 c7 z0 z1 z2 z3 z4 z5 z6 z7 f0 f1 f2 f3 f4 f5 f6 f7 p1 p2
      rw [HW.out]
      clear HW
      go_wp2
      exact bodyPost_ret (v := .tuple #[e.agg, .int .i64 k, .int .i64 0]) (by simp [results, Tryz.results30, go_sem, s0, s1, s2, s3, s4, s5, s6, s7, Ev.agg]) rfl HF.out
  · rcases hout with h | ⟨rfl, hd⟩ | ⟨rfl, hd⟩
    · exact absurd h.1 her
    · have HER := Lib.hid (HERR.out 3 (.inl ⟨rfl, hd⟩))
      clear hd HERR HT p1 her
      have hv0 := evg_zero HU.out
      have hr0 := evg_zero_below HB17.out
      generalize hw18 : ((((((((w17).setCell ⟨w.heap.size, 0, none⟩ (.string ⟨#[]⟩)).setCell ⟨w.heap.size, 1, none⟩ (.int .i64 0)).setCell ⟨w.heap.size, 2, none⟩ (.int .i64 0)).setCell ⟨w.heap.size, 3, none⟩ (.int .i64 0)).setCell ⟨w.heap.size, 4, none⟩ (.string ⟨#[]⟩)).setCell ⟨w.heap.size, 5, none⟩ (.string ⟨#[]⟩)).setCell ⟨w.heap.size, 6, none⟩ (.int .i64 0)).setCell ⟨w.heap.size, 7, none⟩ (.string ⟨#[]⟩) = w18 at hv0 hr0
      have HV := Lib.hid (show w18.drew.heap[w.heap.size]? = some evZG from hv0)
      have HF := Lib.hid (HER.out w18.drew (below_drewN hr0 1))
      clear hv0 hr0
      have c0 := cell_of_row w17 w.heap.size 0 _ _ (0, 0) HU.out
      have z0 := frozen_of_row w17 w.heap.size 0 _ _ HU.out
      have s0 : w18.drew.cell? ⟨w.heap.size, 0, none⟩ = some (.string ⟨#[]⟩) := cell_of_row w18.drew w.heap.size 0 _ _ (0, 0) HV.out
      have c1 := cell_of_row w17 w.heap.size 1 _ _ (0, 0) HU.out
      have z1 := frozen_of_row w17 w.heap.size 1 _ _ HU.out
      have s1 : w18.drew.cell? ⟨w.heap.size, 1, none⟩ = some (.int .i64 0) := cell_of_row w18.drew w.heap.size 1 _ _ (0, 0) HV.out
      have c2 := cell_of_row w17 w.heap.size 2 _ _ (0, 0) HU.out
      have z2 := frozen_of_row w17 w.heap.size 2 _ _ HU.out
      have s2 : w18.drew.cell? ⟨w.heap.size, 2, none⟩ = some (.int .i64 0) := cell_of_row w18.drew w.heap.size 2 _ _ (0, 0) HV.out
      have c3 := cell_of_row w17 w.heap.size 3 _ _ (0, 0) HU.out
      have z3 := frozen_of_row w17 w.heap.size 3 _ _ HU.out
      have s3 : w18.drew.cell? ⟨w.heap.size, 3, none⟩ = some (.int .i64 0) := cell_of_row w18.drew w.heap.size 3 _ _ (0, 0) HV.out
      have c4 := cell_of_row w17 w.heap.size 4 _ _ (0, 0) HU.out
      have z4 := frozen_of_row w17 w.heap.size 4 _ _ HU.out
      have s4 : w18.drew.cell? ⟨w.heap.size, 4, none⟩ = some (.string ⟨#[]⟩) := cell_of_row w18.drew w.heap.size 4 _ _ (0, 0) HV.out
      have c5 := cell_of_row w17 w.heap.size 5 _ _ (0, 0) HU.out
      have z5 := frozen_of_row w17 w.heap.size 5 _ _ HU.out
      have s5 : w18.drew.cell? ⟨w.heap.size, 5, none⟩ = some (.string ⟨#[]⟩) := cell_of_row w18.drew w.heap.size 5 _ _ (0, 0) HV.out
      have c6 := cell_of_row w17 w.heap.size 6 _ _ (0, 0) HU.out
      have z6 := frozen_of_row w17 w.heap.size 6 _ _ HU.out
      have s6 : w18.drew.cell? ⟨w.heap.size, 6, none⟩ = some (.int .i64 0) := cell_of_row w18.drew w.heap.size 6 _ _ (0, 0) HV.out
      have c7 := cell_of_row w17 w.heap.size 7 _ _ (0, 0) HU.out
      have z7 := frozen_of_row w17 w.heap.size 7 _ _ HU.out
      have s7 : w18.drew.cell? ⟨w.heap.size, 7, none⟩ = some (.string ⟨#[]⟩) := cell_of_row w18.drew w.heap.size 7 _ _ (0, 0) HV.out
      have HW := Lib.hid hw18
      clear hw18
      go_upto_region 14 with fail
      go_region_law (fail)
      all_goals
        clear c0 c1 c2 c3 c4 c5 c6 c7 z0 z1 z2 z3 z4 z5 z6 z7 p2
        rw [HW.out]
        clear HW
        go_wp2
        exact bodyPost_ret (v := .tuple #[evZV, .int .i64 0, .int .i64 3]) (by simp [results, Tryz.results30, go_sem, s0, s1, s2, s3, s4, s5, s6, s7, evZV]) rfl HF.out
    · have HER := Lib.hid (HERR.out 2 (.inr ⟨rfl, hd⟩))
      clear hd HERR HT p1 her
      have hv0 := evg_zero HU.out
      have hr0 := evg_zero_below HB17.out
      generalize hw18 : ((((((((w17).setCell ⟨w.heap.size, 0, none⟩ (.string ⟨#[]⟩)).setCell ⟨w.heap.size, 1, none⟩ (.int .i64 0)).setCell ⟨w.heap.size, 2, none⟩ (.int .i64 0)).setCell ⟨w.heap.size, 3, none⟩ (.int .i64 0)).setCell ⟨w.heap.size, 4, none⟩ (.string ⟨#[]⟩)).setCell ⟨w.heap.size, 5, none⟩ (.string ⟨#[]⟩)).setCell ⟨w.heap.size, 6, none⟩ (.int .i64 0)).setCell ⟨w.heap.size, 7, none⟩ (.string ⟨#[]⟩) = w18 at hv0 hr0
      have HV := Lib.hid (show w18.drew.heap[w.heap.size]? = some evZG from hv0)
      have HF := Lib.hid (HER.out w18.drew (below_drewN hr0 1))
      clear hv0 hr0
      have c0 := cell_of_row w17 w.heap.size 0 _ _ (0, 0) HU.out
      have z0 := frozen_of_row w17 w.heap.size 0 _ _ HU.out
      have s0 : w18.drew.cell? ⟨w.heap.size, 0, none⟩ = some (.string ⟨#[]⟩) := cell_of_row w18.drew w.heap.size 0 _ _ (0, 0) HV.out
      have c1 := cell_of_row w17 w.heap.size 1 _ _ (0, 0) HU.out
      have z1 := frozen_of_row w17 w.heap.size 1 _ _ HU.out
      have s1 : w18.drew.cell? ⟨w.heap.size, 1, none⟩ = some (.int .i64 0) := cell_of_row w18.drew w.heap.size 1 _ _ (0, 0) HV.out
      have c2 := cell_of_row w17 w.heap.size 2 _ _ (0, 0) HU.out
      have z2 := frozen_of_row w17 w.heap.size 2 _ _ HU.out
      have s2 : w18.drew.cell? ⟨w.heap.size, 2, none⟩ = some (.int .i64 0) := cell_of_row w18.drew w.heap.size 2 _ _ (0, 0) HV.out
      have c3 := cell_of_row w17 w.heap.size 3 _ _ (0, 0) HU.out
      have z3 := frozen_of_row w17 w.heap.size 3 _ _ HU.out
      have s3 : w18.drew.cell? ⟨w.heap.size, 3, none⟩ = some (.int .i64 0) := cell_of_row w18.drew w.heap.size 3 _ _ (0, 0) HV.out
      have c4 := cell_of_row w17 w.heap.size 4 _ _ (0, 0) HU.out
      have z4 := frozen_of_row w17 w.heap.size 4 _ _ HU.out
      have s4 : w18.drew.cell? ⟨w.heap.size, 4, none⟩ = some (.string ⟨#[]⟩) := cell_of_row w18.drew w.heap.size 4 _ _ (0, 0) HV.out
      have c5 := cell_of_row w17 w.heap.size 5 _ _ (0, 0) HU.out
      have z5 := frozen_of_row w17 w.heap.size 5 _ _ HU.out
      have s5 : w18.drew.cell? ⟨w.heap.size, 5, none⟩ = some (.string ⟨#[]⟩) := cell_of_row w18.drew w.heap.size 5 _ _ (0, 0) HV.out
      have c6 := cell_of_row w17 w.heap.size 6 _ _ (0, 0) HU.out
      have z6 := frozen_of_row w17 w.heap.size 6 _ _ HU.out
      have s6 : w18.drew.cell? ⟨w.heap.size, 6, none⟩ = some (.int .i64 0) := cell_of_row w18.drew w.heap.size 6 _ _ (0, 0) HV.out
      have c7 := cell_of_row w17 w.heap.size 7 _ _ (0, 0) HU.out
      have z7 := frozen_of_row w17 w.heap.size 7 _ _ HU.out
      have s7 : w18.drew.cell? ⟨w.heap.size, 7, none⟩ = some (.string ⟨#[]⟩) := cell_of_row w18.drew w.heap.size 7 _ _ (0, 0) HV.out
      have HW := Lib.hid hw18
      clear hw18
      go_upto_region 14 with fail
      go_region_law (fail)
      all_goals
        clear c0 c1 c2 c3 c4 c5 c6 c7 z0 z1 z2 z3 z4 z5 z6 z7 p2
        rw [HW.out]
        clear HW
        go_wp2
        exact bodyPost_ret (v := .tuple #[evZV, .int .i64 0, .int .i64 2]) (by simp [results, Tryz.results30, go_sem, s0, s1, s2, s3, s4, s5, s6, s7, evZV]) rfl HF.out
end Go.Proofs.YtdjoaboalknlkaaGreatDoor
