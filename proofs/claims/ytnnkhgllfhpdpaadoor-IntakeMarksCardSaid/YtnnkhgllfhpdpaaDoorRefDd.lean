/-
  Layer 2: the document's Same, Texts, Big, Some.
  Layer 8: deeds in memory; the laws' Heavy.
-/
import Derived.Test.YtnnkhgllfhpdpaaDoorErWalk
import Derived.Test.YtnnkhgllfhpdpaaDoorStrs
namespace Go.Proofs.YtnnkhgllfhpdpaaDoor
open Go.RowKit Go.Maps Go.Sort

set_option maxRecDepth 100000 in
set_option maxHeartbeats 2000000 in
theorem same02_any (w : World) (B B' : Nat) (A A' : Option Addr) (n c c' : Nat) (es : List Ev) (h : Evs w B A n c es) (h' : Evs w B' A' n c' es) (hn : n ≤ 100000) :
    Calls Tryd.prog 15 #[.slice A n c, .slice A' n c'] w fun e w' => e = .returned (.bool true) ∧ ∃ k, w' = w.drewN k := by
  have HH := Lib.hid h; clear h
  have HH' := Lib.hid h'; clear h'
  have hnn : ((n : Int) != (n : Int)) = false := by simp
  go_enter Tryd.func15, Tryd.ntmps15
  go_wp2
  clear hnn
  go_loopw [5] (fun i wr => ∃ k q : Nat, i = .int .i64 k ∧ k ≤ n ∧ wr = w.drewN q) (fun i _ => n - (intOf i).toNat)
  case atStart => exact ⟨0, 0, rfl, Nat.zero_le _, rfl⟩
  case round =>
    obtain ⟨k, q, rfl, hk, rfl⟩ := hrel
    by_cases hkn : k < n
    · have hkl : k < es.length := by rw [HH.out.len]; exact hkn
      obtain ⟨b, off, rfl, hb, hc⟩ := HH.out.ev k hkl
      obtain ⟨b', off', rfl, hb', hc'⟩ := HH'.out.ev k hkl
      obtain ⟨e0, e1, e2, e3, e4, e5, e6, e7⟩ := hc
      obtain ⟨f0, f1, f2, f3, f4, f5, f6, f7⟩ := hc'
      have t1 : (k : Int) < n := by omega
      generalize es[k] = x at *
      go_wp2
      go_quiet (fail)
      go_wp2
      go_roundw
      case rel => exact ⟨k + 1, q + nq, by go_num, by omega, by first | rfl | exact World.drewN_drewN ..⟩
      case measure => simp [intOf]; omega
    · go_wp2
      go_ret
      exact ⟨rfl, _, rfl⟩

def bigB (e : Ev) (m : Int) : Bool := decide (m < e.src.length) || decide (m < e.per.length) || decide (m < e.item.length) || decide (m < e.text.length)
theorem big_any (w : World) (e : Ev) (m : Int) : Calls Tryd.prog 29 #[e.agg, .int .i64 m] w (Says (bigB e m) w) := by
  have HB := Lib.hid (show bigB e m = (decide (m < e.src.length) || decide (m < e.per.length) || decide (m < e.item.length) || decide (m < e.text.length)) from rfl)
  have hb : Below w.heap.size w (w.alloc (evObj e)) := (Below.refl _ _).alloc (Nat.le_refl _) _
  unfold Ev.agg
  cases h1 : decide (m < (e.src.length : Int))
  · cases h2 : decide (m < (e.per.length : Int))
    · cases h3 : decide (m < (e.item.length : Int))
      · have HX := Lib.hid (show bigB e m = decide (m < e.text.length) by rw [HB.out, h1, h2, h3]; rfl)
        go_enter Tryd.func29, Tryd.ntmps29
        go_wp2
        go_ret
        exact ⟨ret_bool HX.out.symm, hb⟩
      · have HX := Lib.hid (show bigB e m = true by rw [HB.out, h1, h2, h3]; rfl)
        go_enter Tryd.func29, Tryd.ntmps29
        go_wp2
        go_ret
        exact ⟨ret_bool HX.out.symm, hb⟩
    · have HX := Lib.hid (show bigB e m = true by rw [HB.out, h1, h2]; rfl)
      go_enter Tryd.func29, Tryd.ntmps29
      go_wp2
      go_ret
      exact ⟨ret_bool HX.out.symm, hb⟩
  · have HX := Lib.hid (show bigB e m = true by rw [HB.out, h1]; rfl)
    go_enter Tryd.func29, Tryd.ntmps29
    go_wp2
    go_ret
    exact ⟨ret_bool HX.out.symm, hb⟩
end Go.Proofs.YtnnkhgllfhpdpaaDoor
namespace Go.Proofs.YtnnkhgllfhpdpaaDoor
open Go.RowKit Go.Maps Go.Sort

structure Dd where
  kind : Int
  e : Ev
  now : Int
  per : List UInt8
def Dd.cells (d : Dd) : List Value := .int .u8 d.kind :: (d.e.cells ++ [.int .i64 d.now, .string ⟨d.per.toArray⟩])
def ddCells (ds : List Dd) : List Value := ds.flatMap Dd.cells
theorem ddCells_length (ds : List Dd) : (ddCells ds).length = ds.length * 11 := by
  induction ds with
  | nil => rfl
  | cons e es ih => simp only [ddCells, List.flatMap_cons, List.length_append, List.length_cons] at *; rw [ih]; simp [Dd.cells, Ev.cells]; omega
theorem ddCells_get (ds : List Dd) (k j : Nat) (hk : k < ds.length) (hj : j < 11) : (ddCells ds)[k * 11 + j]? = ds[k].cells[j]? := by
  induction ds generalizing k with
  | nil => simp at hk
  | cons e es ih =>
    have hc : e.cells.length = 11 := rfl
    simp only [ddCells, List.flatMap_cons]
    cases k with
    | zero => rw [Nat.zero_mul, Nat.zero_add, List.getElem?_append_left (by omega)]; rfl
    | succ k =>
      rw [List.getElem?_append_right (by omega), hc, show (k + 1) * 11 + j - 11 = k * 11 + j by omega]
      exact ih k (by simpa using hk)
/-- the slice value 'A, n, c' reads as these deeds -/
def Dds (w : World) (B : Nat) (A : Option Addr) (n c : Nat) (ds : List Dd) : Prop := Cel w B 11 A n c (ddCells ds)
theorem Dds.len {w : World} {B n c : Nat} {A : Option Addr} {ds : List Dd} (h : Dds w B A n c ds) : ds.length = n := by
  have := Cel.len h; rw [ddCells_length] at this; omega
/-- a deed lies at this place -/
def DdAt (w : World) (b o : Nat) (d : Dd) : Prop := w.cell? ⟨b, o, none⟩ = some (.int .u8 d.kind) ∧ EvAt w b (o + 1) d.e ∧ w.cell? ⟨b, o + 9, none⟩ = some (.int .i64 d.now)
theorem Dds.at_ {w : World} {B n c : Nat} {A : Option Addr} {ds : List Dd} (h : Dds w B A n c ds) (k : Nat) (hk : k < ds.length) : ∃ b off, A = some ⟨b, off, none⟩ ∧ b < B ∧ DdAt w b (off + k * 11) ds[k] := by
  have hl := h.len
  obtain ⟨b, off, e, hb, hc⟩ := Cel.cell h (by omega)
  have key : ∀ j u, j < 11 → ds[k].cells[j]? = some u → w.cell? ⟨b, off + k * 11 + j, none⟩ = some u := fun j u hj hu => by
    rw [Nat.add_assoc]; exact hc _ u (by rw [ddCells_get ds k j hk hj, hu])
  have ev : ∀ j u, j < 8 → ds[k].e.cells[j]? = some u → w.cell? ⟨b, off + k * 11 + 1 + j, none⟩ = some u := fun j u hj hu => by
    rw [show off + k * 11 + 1 + j = off + k * 11 + (1 + j) by omega]
    refine key (1 + j) u (by omega) ?_
    unfold Dd.cells
    rw [show 1 + j = j + 1 by omega, List.getElem?_cons_succ, List.getElem?_append_left (by show j < 8; exact hj)]
    exact hu
  exact ⟨b, off, e, hb, key 0 _ (by omega) rfl, ⟨ev 0 _ (by omega) rfl, ev 1 _ (by omega) rfl, ev 2 _ (by omega) rfl, ev 3 _ (by omega) rfl, ev 4 _ (by omega) rfl, ev 5 _ (by omega) rfl, ev 6 _ (by omega) rfl, ev 7 _ (by omega) rfl⟩, key 9 _ (by omega) rfl⟩
theorem DdAt.below {w w' : World} {b o B : Nat} {d : Dd} (h : DdAt w b o d) (hb : Below B w w') (hB : b < B) : DdAt w' b o d :=
  ⟨(hb.cell (p := ⟨b, o, none⟩) hB).trans h.1, h.2.1.below hb hB, (hb.cell (p := ⟨b, o + 9, none⟩) hB).trans h.2.2⟩

def heavyB (ds : List Dd) (m : Int) : Bool := decide (m < ds.length) || ds.any (fun d => bigB d.e 300)
def HvRel (w : World) (ds : List Dd) (i : Value) (wr : World) : Prop := ∃ k : Nat, i = .int .i64 k ∧ k ≤ ds.length ∧ (∀ d ∈ ds.take k, bigB d.e 300 = false) ∧ Below w.heap.size w wr
set_option maxRecDepth 100000 in
set_option maxHeartbeats 2000000 in
theorem heavy_any (w : World) (A : Option Addr) (n c : Nat) (ds : List Dd) (h : Dds w w.heap.size A n c ds) (hn : n ≤ 140737488355328) (m : Int) :
    Calls Tryd.prog 8 #[.slice A n c, .int .i64 m] w (Says (heavyB ds m) w) := by
  have HH := Lib.hid h; clear h
  have hl := HH.out.len
  have HL := Lib.hid hl; clear hl
  have HB := Lib.hid (show heavyB ds m = (decide (m < (n : Int)) || ds.any (fun d => bigB d.e 300)) by unfold heavyB; rw [HL.out])
  by_cases hm : m < (n : Int)
  · have HX := Lib.hid (show heavyB ds m = true by rw [HB.out, decide_eq_true hm]; rfl)
    go_enter Tryd.func8, Tryd.ntmps8
    go_wp2
    go_ret
    exact ⟨ret_bool HX.out.symm, Below.refl _ _⟩
  have HX := Lib.hid (show heavyB ds m = ds.any (fun d => bigB d.e 300) by rw [HB.out, decide_eq_false hm]; rfl)
  clear HB
  go_enter Tryd.func8, Tryd.ntmps8
  go_wp2
  go_loopw [5] (fun i wr => HvRel w ds i wr) (fun i _ => n - (intOf i).toNat)
  case atStart => exact ⟨0, rfl, Nat.zero_le _, fun d hd => by simp at hd, Below.refl _ _⟩
  case round =>
    obtain ⟨k, rfl, hk, hno, hbel⟩ := hrel
    have HNO := Lib.hid hno; clear hno
    have hkL : k ≤ n := by rw [← HL.out]; exact hk
    by_cases hkn : k < n
    · have hkl : k < ds.length := by rw [HL.out]; exact hkn
      obtain ⟨b, off, rfl, hb, hd⟩ := HH.out.at_ k hkl
      obtain ⟨d0, ⟨e0, e1, e2, e3, e4, e5, e6, e7⟩, d9⟩ := hd.below hbel hb
      have HT := Lib.hid (show bigB ds[k].e 300 = false → ∀ d ∈ ds.take (k + 1), bigB d.e 300 = false from fun h d hd => by
        rw [List.take_add_one, List.getElem?_eq_getElem hkl, Option.toList_some] at hd
        rcases List.mem_append.1 hd with hd | hd
        · exact HNO.out d hd
        · simp at hd; subst hd; exact h)
      have HY := Lib.hid (show bigB ds[k].e 300 = true → ds.any (fun d => bigB d.e 300) = true from fun h => List.any_eq_true.2 ⟨_, List.getElem_mem hkl, h⟩)
      generalize ds[k] = d at *
      have t1 : (k : Int) < n := by omega
      go_wp2_with fail
      refine (big_any wr d.e 300).mono ?_
      rintro r w2 ⟨rfl, hb2⟩
      have hbw2 : Below w.heap.size w w2 := hbel.trans (hb2.mono hbel.size)
      clear hb2 d0 e0 e1 e2 e3 e4 e5 e6 e7 d9 hd
      cases hbg : bigB d.e 300
      · have HT' := Lib.hid (HT.out hbg)
        clear hbg
        go_wp2
        go_roundw
        case rel => exact ⟨k + 1, by go_num, by omega, HT'.out, hbw2⟩
        case measure => simp [intOf]; omega
      · have HY' := Lib.hid (HY.out hbg)
        clear hbg
        go_wp2
        go_ret
        exact ⟨ret_bool (by rw [HX.out, HY'.out]), hbw2⟩
    · have HZ := Lib.hid (show ds.any (fun d => bigB d.e 300) = false by
        rw [List.any_eq_false]
        intro d hd
        have := HNO.out d (by rw [List.take_of_length_le (by rw [HL.out]; omega)]; exact hd)
        simp [this])
      have t1 : ¬ (k : Int) < n := by omega
      go_wp2
      go_ret
      exact ⟨ret_bool (by rw [HX.out, HZ.out]), hbel⟩
end Go.Proofs.YtnnkhgllfhpdpaaDoor
