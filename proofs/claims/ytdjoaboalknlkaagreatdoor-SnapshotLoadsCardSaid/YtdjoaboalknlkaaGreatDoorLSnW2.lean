/-
  Layer 30: the text of an intake's parts, written.
-/
import Derived.Test.YtdjoaboalknlkaaGreatDoorLSnW
import Derived.Test.YtdjoaboalknlkaaGreatDoorLParts
namespace Go.Proofs.YtdjoaboalknlkaaGreatDoor
open Go.RowKit Go.Maps Go.Sort

/-- write's boxes: the parts, the bytes, the closure -/
structure SnSt (w : World) (p : Array Value) (L : List UInt8) (v : Value) (W : World) : Prop where
  own : OwnB W w.heap.size v L
  bx : W.heap[w.heap.size + 1]? = some (byBox v)
  pb : W.heap[w.heap.size]? = some (.cells p 42)
  lb : W.heap[w.heap.size + 1 + 1]? = some (lnBox (w.heap.size + 1))
  bel : Below w.heap.size w W
def SnP (w : World) (p : Array Value) (L : List UInt8) (e : Ending) (W : World) : Prop := e = .returned (.tuple #[]) ∧ ∃ v, SnSt w p L v W
section
variable {w W W2 : World} {p : Array Value} {L L2 : List UInt8} {v v2 : Value}
theorem SnSt.next (h : SnSt w p L v W) (h2 : BxSt W w.heap.size (w.heap.size + 1) L2 v2 W2) : SnSt w p L2 v2 W2 :=
  ⟨h2.own, h2.box, h2.kept _ _ h.pb (fun e => by injection e with e; omega) (fun c fz e => by injection e with _ e; exact absurd e (by decide)), h2.line h.lb (.inr (by omega)), h.bel.trans h2.bel⟩
theorem SnSt.line (h : SnSt w p L v W) (s : List UInt8) (n : Int) (h0 : -9223372036854775808 ≤ n) (h1 : n ≤ 9223372036854775807) (hl : L.length + s.length ≤ 100000000) (htab : Lib.TabBelow Tryz.prog w.heap.size w "internal/strconv.uint64pow10" .u64 Lib.pow10Tab) :
    Calls Tryz.prog 40 #[.string ⟨s.toArray⟩, .int .i64 n, .pointer (some ⟨w.heap.size + 1, 0, none⟩)] W (SnP w p (L ++ lineB s [n])) :=
  (snline_any W w.heap.size (w.heap.size + 1) L v h.own h.bx (by omega) s n h0 h1 hl (htab.on h.bel)).mono fun _ _ ⟨he, v', hs⟩ => ⟨he, v', h.next hs⟩
theorem SnSt.some_ (h : SnSt w p L v W) (s d : List UInt8) (A : Option Addr) (n c : Nat) (hd : Byt w w.heap.size A n c d) (hn : n ≤ 1000000000) (hl : L.length + s.length + n ≤ 50000000) (htab : Lib.TabBelow Tryz.prog w.heap.size w "internal/strconv.uint64pow10" .u64 Lib.pow10Tab) :
    Calls Tryz.prog 42 #[.string ⟨s.toArray⟩, .slice A n c, .pointer (some ⟨w.heap.size + 1 + 1, 0, none⟩), .pointer (some ⟨w.heap.size + 1, 0, none⟩)] W (SnP w p (L ++ lineB s [(d.length : Int)] ++ d)) := by
  obtain rfl : d.length = n := hd.len
  exact (snsome_any W w.heap.size (w.heap.size + 1) (w.heap.size + 1 + 1) L v h.own h.bx (by omega) h.lb s d A _ c (hd.below h.bel) hn hl (htab.on h.bel)).mono fun _ _ ⟨he, v', hs⟩ => ⟨he, v', h.next hs⟩
theorem SnSt.evs (h : SnSt w p L v W) (s : List UInt8) (es : List Ev) (A : Option Addr) (n c : Nat) (hd : Evs w w.heap.size A n c es) (hm : ∀ e ∈ es, mayB e = true) (hn : n ≤ 10000) (hl : L.length + s.length ≤ 50000000) (hmx : MaxAt w) (htab : Lib.TabBelow Tryz.prog w.heap.size w "internal/strconv.uint64pow10" .u64 Lib.pow10Tab) :
    Calls Tryz.prog 43 #[.string ⟨s.toArray⟩, .slice A n c, .pointer (some ⟨w.heap.size + 1 + 1, 0, none⟩), .pointer (some ⟨w.heap.size + 1, 0, none⟩)] W (SnP w p (L ++ lineB s [(es.length : Int)] ++ evsT es)) := by
  obtain rfl : es.length = n := hd.len
  exact (snevs_any W w.heap.size (w.heap.size + 1) (w.heap.size + 1 + 1) L v h.own h.bx (by omega) h.lb s es A _ c (Cel.below hd h.bel) hm hn hl (fun W2 hW => hmx.up (h.bel.trans hW)) (htab.on h.bel)).mono fun _ _ ⟨he, v', hs⟩ => ⟨he, v', h.next hs⟩
theorem SnSt.cells {a b : Int} {vc vh vt vl vg : Value} (h : SnSt w #[.int .i64 a, .int .i64 b, vc, vh, vt, vl, vg] L v W) : W.cell? ⟨w.heap.size + 1 + 1, 0, none⟩ = some (.func (Fn.func 40) #[] #[.pointer (some ⟨w.heap.size + 1, 0, none⟩)]) ∧
    W.cell? ⟨w.heap.size, 0, none⟩ = some (.int .i64 a) ∧ W.cell? ⟨w.heap.size, 1, none⟩ = some (.int .i64 b) ∧ W.cell? ⟨w.heap.size, 2, none⟩ = some vc ∧ W.cell? ⟨w.heap.size, 3, none⟩ = some vh ∧ W.cell? ⟨w.heap.size, 4, none⟩ = some vt ∧ W.cell? ⟨w.heap.size, 5, none⟩ = some vl ∧ W.cell? ⟨w.heap.size, 6, none⟩ = some vg :=
  ⟨(cell_of_row W _ 0 _ _ (0, 0) h.lb).trans rfl, cell_of_row W _ 0 _ _ (0, 0) h.pb, cell_of_row W _ 1 _ _ (0, 0) h.pb, cell_of_row W _ 2 _ _ (0, 0) h.pb, cell_of_row W _ 3 _ _ (0, 0) h.pb, cell_of_row W _ 4 _ _ (0, 0) h.pb, cell_of_row W _ 5 _ _ (0, 0) h.pb, cell_of_row W _ 6 _ _ (0, 0) h.pb⟩
end
theorem lineB_one (s : List UInt8) (n : Int) (h0 : -9223372036854775808 ≤ n) (h1 : n ≤ 9223372036854775807) : (lineB s [n]).length ≤ s.length + 23 := by
  have := Lib.itoa_length_le n h0 h1
  unfold lineB numsB; simp; omega
theorem namesT_take (gs : List (List UInt8)) (k : Nat) (hk : k < gs.length) : namesT (gs.take (k + 1)) = namesT (gs.take k) ++ gs[k] ++ [10] := by
  unfold namesT
  rw [List.take_add_one, List.getElem?_eq_getElem hk, Option.toList_some, List.flatMap_append]
  simp
theorem namesT_len (gs : List (List UInt8)) (h : ∀ g ∈ gs, g.length ≤ 1000) : (namesT gs).length ≤ 1001 * gs.length := by
  induction gs with
  | nil => simp [namesT]
  | cons g gs ih =>
    have h1 := ih fun x hx => h x (List.mem_cons_of_mem _ hx)
    have h2 := h g (List.mem_cons_self)
    have h3 : namesT (g :: gs) = g ++ [10] ++ namesT gs := by simp [namesT]
    have h4 : (g ++ [10]).length = g.length + 1 := by simp
    rw [h3, List.length_append, List.length_cons, h4]
    omega
def SgRel (w : World) (p : Array Value) (L : List UInt8) (gs : List (List UInt8)) (i : Value) (wr : World) : Prop := ∃ (k : Nat) (v : Value), i = .int .i64 k ∧ k ≤ gs.length ∧ SnSt w p (L ++ namesT (gs.take k)) v wr
/-- what write wants of the parts -/
structure SnIn (w : World) (Ac Ah At Al Ag : Option Addr) (nc kc nh kh nt kt nl kl ng kg : Nat) (n a b : Int) (lc lh : List UInt8) (ts ls : List Ev) (gs : List (List UInt8)) : Prop where
  clk : Byt w w.heap.size Ac nc kc lc
  had : Byt w w.heap.size Ah nh kh lh
  tk : Evs w w.heap.size At nt kt ts
  lt : Evs w w.heap.size Al nl kl ls
  gn : Strs w w.heap.size Ag ng kg gs
  n0 : -9223372036854775808 ≤ n
  n1 : n ≤ 9223372036854775807
  a0 : -9223372036854775808 ≤ a
  a1 : a ≤ 9223372036854775807
  b0 : -9223372036854775808 ≤ b
  b1 : b ≤ 9223372036854775807
  hc : nc ≤ 10000000
  hh : nh ≤ 20000000
  ht : nt ≤ 10000
  hl : nl ≤ 10000
  hg : ng ≤ 10000
  tm : ∀ e ∈ ts, mayB e = true
  lm : ∀ e ∈ ls, mayB e = true
  gm : ∀ g ∈ gs, g.length ≤ 1000
  max : MaxAt w
  tab : Lib.TabBelow Tryz.prog w.heap.size w "internal/strconv.uint64pow10" .u64 Lib.pow10Tab
def SnWPost (w : World) (l : List UInt8) (e : Ending) (w' : World) : Prop := ∃ v, e = .returned v ∧ OwnB w' w.heap.size v l ∧ Below w.heap.size w w'
set_option maxRecDepth 100000 in
set_option maxHeartbeats 8000000 in
theorem snwrite_any (w : World) (Ac Ah At Al Ag : Option Addr) (nc kc nh kh nt kt nl kl ng kg : Nat) (n a b : Int) (lc lh : List UInt8) (ts ls : List Ev) (gs : List (List UInt8)) (h : SnIn w Ac Ah At Al Ag nc kc nh kh nt kt nl kl ng kg n a b lc lh ts ls gs) :
    Calls Tryz.prog 16 #[ptsAgg a b (.slice Ac nc kc) (.slice Ah nh kh) (.slice At nt kt) (.slice Al nl kl) (.slice Ag ng kg), .int .i64 n] w (SnWPost w (snT n a b lc lh ts ls gs)) := by
  have HI := Lib.hid h
  have hc := h.hc; have hh := h.hh; have ht := h.ht; have hl := h.hl; have hg := h.hg
  have HLC := Lib.hid (h.clk.len); have HLH := Lib.hid (h.had.len); have HLT := Lib.hid (h.tk.len); have HLL := Lib.hid (h.lt.len); have HLG := Lib.hid (h.gn.len)
  have HTX := Lib.hid (show snT n a b lc lh ts ls gs = [] ++ lineB wSnap [n] ++ lineB wSlack [a] ++ lineB wIdle [b] ++ lineB wClock [(lc.length : Int)] ++ lc ++ lineB wHad [(lh.length : Int)] ++ lh ++ lineB wTaken [(ts.length : Int)] ++ evsT ts ++ lineB wLate [(ls.length : Int)] ++ evsT ls ++ lineB wGone [(gs.length : Int)] ++ namesT gs from by unfold snT; simp only [List.append_assoc, List.nil_append])
  have HK1 := Lib.hid (lineB_one wSnap n h.n0 h.n1); have HK2 := Lib.hid (lineB_one wSlack a h.a0 h.a1); have HK3 := Lib.hid (lineB_one wIdle b h.b0 h.b1)
  have HK4 := Lib.hid (lineB_one wClock lc.length (by omega) (by have := h.clk.len; omega)); have HK5 := Lib.hid (lineB_one wHad lh.length (by omega) (by have := h.had.len; omega))
  have HK6 := Lib.hid (lineB_one wTaken ts.length (by omega) (by have := h.tk.len; omega)); have HK7 := Lib.hid (lineB_one wLate ls.length (by omega) (by have := h.lt.len; omega)); have HK8 := Lib.hid (lineB_one wGone gs.length (by omega) (by have := h.gn.len; omega))
  have HE1 := Lib.hid (evsT_len ts h.tm); have HE2 := Lib.hid (evsT_len ls h.lm)
  clear h
  go_enter Tryz.func16, Tryz.ntmps16
  go_upto_region 5 with fail
  have HS := Lib.hid (show SnSt w #[.int .i64 a, .int .i64 b, .slice Ac nc kc, .slice Ah nh kh, .slice At nt kt, .slice Al nl kl, .slice Ag ng kg] [] (.slice none 0 0) (((w.alloc (.cells #[.int .i64 a, .int .i64 b, .slice Ac nc kc, .slice Ah nh kh, .slice At nt kt, .slice Al nl kl, .slice Ag ng kg] 42)).alloc (byBox (.slice none 0 0))).alloc (lnBox (w.heap.size + 1))) from by
    refine ⟨OwnB.nil _ _, ?_, ?_, ?_, (((Below.refl _ _).alloc (Nat.le_refl _) _).alloc (by simp) _).alloc (by first | (simp; done) | (simp; omega)) _⟩
    · exact (heap_alloc_old _ _ (by simp)).trans (by have := heap_alloc_new (w.alloc (.cells #[.int .i64 a, .int .i64 b, .slice Ac nc kc, .slice Ah nh kh, .slice At nt kt, .slice Al nl kl, .slice Ag ng kg] 42)) (byBox (.slice none 0 0)); simpa using this)
    · exact (heap_alloc_old _ _ (by first | (simp; done) | (simp; omega))).trans ((heap_alloc_old _ _ (by simp)).trans (heap_alloc_new w _))
    · have := heap_alloc_new ((w.alloc (.cells #[.int .i64 a, .int .i64 b, .slice Ac nc kc, .slice Ah nh kh, .slice At nt kt, .slice Al nl kl, .slice Ag ng kg] 42)).alloc (byBox (.slice none 0 0))) (lnBox (w.heap.size + 1)); simpa using this)
  generalize ((w.alloc (.cells #[.int .i64 a, .int .i64 b, .slice Ac nc kc, .slice Ah nh kh, .slice At nt kt, .slice Al nl kl, .slice Ag ng kg] 42)).alloc (byBox (.slice none 0 0))).alloc (lnBox (w.heap.size + 1)) = w1 at *
  have HL1 := Lib.hid (show ([] : List UInt8).length ≤ 0 from Nat.le_refl _)
  obtain ⟨cl, p0, p1, p2, p3, p4, p5, p6⟩ := HS.out.cells
  have HC := Lib.hid (show Calls Tryz.prog 40 #[.string ⟨#[115, 110, 97, 112, 115, 104, 111, 116]⟩, .int .i64 n, .pointer (some ⟨w.heap.size + 1, 0, none⟩)] w1 (SnP w #[.int .i64 a, .int .i64 b, .slice Ac nc kc, .slice Ah nh kh, .slice At nt kt, .slice Al nl kl, .slice Ag ng kg] ([] ++ lineB wSnap [n])) from HS.out.line wSnap n HI.out.n0 HI.out.n1 (by have := HL1.out; simp only [wSnap, List.length_cons, List.length_nil] at *; omega) HI.out.tab)
  have HL2 := Lib.hid (show ([] ++ lineB wSnap [n]).length ≤ 40 from by have := HL1.out; have := HK1.out; have := HK2.out; have := HK3.out; have := HK4.out; have := HK5.out; have := HK6.out; have := HK7.out; have := HK8.out; have := HE1.out; have := HE2.out; have := HLC.out; have := HLH.out; have := HLT.out; have := HLL.out; have := HLG.out; simp only [List.length_append]; simp only [wSnap, wSlack, wIdle, wClock, wHad, wTaken, wLate, wGone, List.length_cons, List.length_nil] at *; omega)
  obtain ⟨Q1, hQ1⟩ : ∃ Q, Q = [] ++ lineB wSnap [n] := ⟨_, rfl⟩
  have HQ1 := Lib.hid hQ1
  rw [← hQ1] at HC HL2
  clear hQ1
  go_wp2_with fail
  with_reducible refine HC.out.mono ?_
  rintro r w2 ⟨rfl, v2, hs2⟩
  clear HC HS cl p0 p1 p2 p3 p4 p5 p6
  have HS := Lib.hid hs2
  clear hs2
  obtain ⟨cl, p0, p1, p2, p3, p4, p5, p6⟩ := HS.out.cells
  have HC := Lib.hid (show Calls Tryz.prog 40 #[.string ⟨#[115, 108, 97, 99, 107]⟩, .int .i64 a, .pointer (some ⟨w.heap.size + 1, 0, none⟩)] w2 (SnP w #[.int .i64 a, .int .i64 b, .slice Ac nc kc, .slice Ah nh kh, .slice At nt kt, .slice Al nl kl, .slice Ag ng kg] (Q1 ++ lineB wSlack [a])) from HS.out.line wSlack a HI.out.a0 HI.out.a1 (by have := HL2.out; simp only [wSlack, List.length_cons, List.length_nil] at *; omega) HI.out.tab)
  have HL3 := Lib.hid (show (Q1 ++ lineB wSlack [a]).length ≤ 80 from by have := HL2.out; have := HK1.out; have := HK2.out; have := HK3.out; have := HK4.out; have := HK5.out; have := HK6.out; have := HK7.out; have := HK8.out; have := HE1.out; have := HE2.out; have := HLC.out; have := HLH.out; have := HLT.out; have := HLL.out; have := HLG.out; simp only [List.length_append]; simp only [wSnap, wSlack, wIdle, wClock, wHad, wTaken, wLate, wGone, List.length_cons, List.length_nil] at *; omega)
  obtain ⟨Q2, hQ2⟩ : ∃ Q, Q = Q1 ++ lineB wSlack [a] := ⟨_, rfl⟩
  have HQ2 := Lib.hid hQ2
  rw [← hQ2] at HC HL3
  clear hQ2
  go_wp2_with fail
  with_reducible refine HC.out.mono ?_
  rintro r w3 ⟨rfl, v3, hs3⟩
  clear HC HS cl p0 p1 p2 p3 p4 p5 p6
  have HS := Lib.hid hs3
  clear hs3
  obtain ⟨cl, p0, p1, p2, p3, p4, p5, p6⟩ := HS.out.cells
  have HC := Lib.hid (show Calls Tryz.prog 40 #[.string ⟨#[105, 100, 108, 101]⟩, .int .i64 b, .pointer (some ⟨w.heap.size + 1, 0, none⟩)] w3 (SnP w #[.int .i64 a, .int .i64 b, .slice Ac nc kc, .slice Ah nh kh, .slice At nt kt, .slice Al nl kl, .slice Ag ng kg] (Q2 ++ lineB wIdle [b])) from HS.out.line wIdle b HI.out.b0 HI.out.b1 (by have := HL3.out; simp only [wIdle, List.length_cons, List.length_nil] at *; omega) HI.out.tab)
  have HL4 := Lib.hid (show (Q2 ++ lineB wIdle [b]).length ≤ 120 from by have := HL3.out; have := HK1.out; have := HK2.out; have := HK3.out; have := HK4.out; have := HK5.out; have := HK6.out; have := HK7.out; have := HK8.out; have := HE1.out; have := HE2.out; have := HLC.out; have := HLH.out; have := HLT.out; have := HLL.out; have := HLG.out; simp only [List.length_append]; simp only [wSnap, wSlack, wIdle, wClock, wHad, wTaken, wLate, wGone, List.length_cons, List.length_nil] at *; omega)
  obtain ⟨Q3, hQ3⟩ : ∃ Q, Q = Q2 ++ lineB wIdle [b] := ⟨_, rfl⟩
  have HQ3 := Lib.hid hQ3
  rw [← hQ3] at HC HL4
  clear hQ3
  go_wp2_with fail
  with_reducible refine HC.out.mono ?_
  rintro r w4 ⟨rfl, v4, hs4⟩
  clear HC HS cl p0 p1 p2 p3 p4 p5 p6
  have HS := Lib.hid hs4
  clear hs4
  obtain ⟨cl, p0, p1, p2, p3, p4, p5, p6⟩ := HS.out.cells
  have HC := Lib.hid (show Calls Tryz.prog 42 #[.string ⟨#[99, 108, 111, 99, 107]⟩, .slice Ac nc kc, .pointer (some ⟨w.heap.size + 1 + 1, 0, none⟩), .pointer (some ⟨w.heap.size + 1, 0, none⟩)] w4 (SnP w #[.int .i64 a, .int .i64 b, .slice Ac nc kc, .slice Ah nh kh, .slice At nt kt, .slice Al nl kl, .slice Ag ng kg] (Q3 ++ lineB wClock [(lc.length : Int)] ++ lc)) from by
    exact HS.out.some_ wClock lc Ac nc kc HI.out.clk (by omega) (by have := HL4.out; simp only [wClock, List.length_cons, List.length_nil] at *; omega) HI.out.tab)
  have HL5 := Lib.hid (show (Q3 ++ lineB wClock [(lc.length : Int)] ++ lc).length ≤ 10000160 from by have := HL4.out; have := HK1.out; have := HK2.out; have := HK3.out; have := HK4.out; have := HK5.out; have := HK6.out; have := HK7.out; have := HK8.out; have := HE1.out; have := HE2.out; have := HLC.out; have := HLH.out; have := HLT.out; have := HLL.out; have := HLG.out; simp only [List.length_append]; simp only [wSnap, wSlack, wIdle, wClock, wHad, wTaken, wLate, wGone, List.length_cons, List.length_nil] at *; omega)
  obtain ⟨Q4, hQ4⟩ : ∃ Q, Q = Q3 ++ lineB wClock [(lc.length : Int)] ++ lc := ⟨_, rfl⟩
  have HQ4 := Lib.hid hQ4
  rw [← hQ4] at HC HL5
  clear hQ4
  go_wp2_with fail
  with_reducible refine HC.out.mono ?_
  rintro r w5 ⟨rfl, v5, hs5⟩
  clear HC HS cl p0 p1 p2 p3 p4 p5 p6
  have HS := Lib.hid hs5
  clear hs5
  obtain ⟨cl, p0, p1, p2, p3, p4, p5, p6⟩ := HS.out.cells
  have HC := Lib.hid (show Calls Tryz.prog 42 #[.string ⟨#[104, 97, 100]⟩, .slice Ah nh kh, .pointer (some ⟨w.heap.size + 1 + 1, 0, none⟩), .pointer (some ⟨w.heap.size + 1, 0, none⟩)] w5 (SnP w #[.int .i64 a, .int .i64 b, .slice Ac nc kc, .slice Ah nh kh, .slice At nt kt, .slice Al nl kl, .slice Ag ng kg] (Q4 ++ lineB wHad [(lh.length : Int)] ++ lh)) from by
    exact HS.out.some_ wHad lh Ah nh kh HI.out.had (by omega) (by have := HL5.out; simp only [wHad, List.length_cons, List.length_nil] at *; omega) HI.out.tab)
  have HL6 := Lib.hid (show (Q4 ++ lineB wHad [(lh.length : Int)] ++ lh).length ≤ 30000200 from by have := HL5.out; have := HK1.out; have := HK2.out; have := HK3.out; have := HK4.out; have := HK5.out; have := HK6.out; have := HK7.out; have := HK8.out; have := HE1.out; have := HE2.out; have := HLC.out; have := HLH.out; have := HLT.out; have := HLL.out; have := HLG.out; simp only [List.length_append]; simp only [wSnap, wSlack, wIdle, wClock, wHad, wTaken, wLate, wGone, List.length_cons, List.length_nil] at *; omega)
  obtain ⟨Q5, hQ5⟩ : ∃ Q, Q = Q4 ++ lineB wHad [(lh.length : Int)] ++ lh := ⟨_, rfl⟩
  have HQ5 := Lib.hid hQ5
  rw [← hQ5] at HC HL6
  clear hQ5
  go_wp2_with fail
  with_reducible refine HC.out.mono ?_
  rintro r w6 ⟨rfl, v6, hs6⟩
  clear HC HS cl p0 p1 p2 p3 p4 p5 p6
  have HS := Lib.hid hs6
  clear hs6
  obtain ⟨cl, p0, p1, p2, p3, p4, p5, p6⟩ := HS.out.cells
  have HC := Lib.hid (show Calls Tryz.prog 43 #[.string ⟨#[116, 97, 107, 101, 110]⟩, .slice At nt kt, .pointer (some ⟨w.heap.size + 1 + 1, 0, none⟩), .pointer (some ⟨w.heap.size + 1, 0, none⟩)] w6 (SnP w #[.int .i64 a, .int .i64 b, .slice Ac nc kc, .slice Ah nh kh, .slice At nt kt, .slice Al nl kl, .slice Ag ng kg] (Q5 ++ lineB wTaken [(ts.length : Int)] ++ evsT ts)) from by
    exact HS.out.evs wTaken ts At nt kt HI.out.tk HI.out.tm HI.out.ht (by have := HL6.out; simp only [wTaken, List.length_cons, List.length_nil] at *; omega) HI.out.max HI.out.tab)
  have HL7 := Lib.hid (show (Q5 ++ lineB wTaken [(ts.length : Int)] ++ evsT ts).length ≤ 42290240 from by have := HL6.out; have := HK1.out; have := HK2.out; have := HK3.out; have := HK4.out; have := HK5.out; have := HK6.out; have := HK7.out; have := HK8.out; have := HE1.out; have := HE2.out; have := HLC.out; have := HLH.out; have := HLT.out; have := HLL.out; have := HLG.out; simp only [List.length_append]; simp only [wSnap, wSlack, wIdle, wClock, wHad, wTaken, wLate, wGone, List.length_cons, List.length_nil] at *; omega)
  obtain ⟨Q6, hQ6⟩ : ∃ Q, Q = Q5 ++ lineB wTaken [(ts.length : Int)] ++ evsT ts := ⟨_, rfl⟩
  have HQ6 := Lib.hid hQ6
  rw [← hQ6] at HC HL7
  clear hQ6
  go_wp2_with fail
  with_reducible refine HC.out.mono ?_
  rintro r w7 ⟨rfl, v7, hs7⟩
  clear HC HS cl p0 p1 p2 p3 p4 p5 p6
  have HS := Lib.hid hs7
  clear hs7
  obtain ⟨cl, p0, p1, p2, p3, p4, p5, p6⟩ := HS.out.cells
  have HC := Lib.hid (show Calls Tryz.prog 43 #[.string ⟨#[108, 97, 116, 101]⟩, .slice Al nl kl, .pointer (some ⟨w.heap.size + 1 + 1, 0, none⟩), .pointer (some ⟨w.heap.size + 1, 0, none⟩)] w7 (SnP w #[.int .i64 a, .int .i64 b, .slice Ac nc kc, .slice Ah nh kh, .slice At nt kt, .slice Al nl kl, .slice Ag ng kg] (Q6 ++ lineB wLate [(ls.length : Int)] ++ evsT ls)) from by
    exact HS.out.evs wLate ls Al nl kl HI.out.lt HI.out.lm HI.out.hl (by have := HL7.out; simp only [wLate, List.length_cons, List.length_nil] at *; omega) HI.out.max HI.out.tab)
  have HL8 := Lib.hid (show (Q6 ++ lineB wLate [(ls.length : Int)] ++ evsT ls).length ≤ 54580280 from by have := HL7.out; have := HK1.out; have := HK2.out; have := HK3.out; have := HK4.out; have := HK5.out; have := HK6.out; have := HK7.out; have := HK8.out; have := HE1.out; have := HE2.out; have := HLC.out; have := HLH.out; have := HLT.out; have := HLL.out; have := HLG.out; simp only [List.length_append]; simp only [wSnap, wSlack, wIdle, wClock, wHad, wTaken, wLate, wGone, List.length_cons, List.length_nil] at *; omega)
  obtain ⟨Q7, hQ7⟩ : ∃ Q, Q = Q6 ++ lineB wLate [(ls.length : Int)] ++ evsT ls := ⟨_, rfl⟩
  have HQ7 := Lib.hid hQ7
  rw [← hQ7] at HC HL8
  clear hQ7
  go_wp2_with fail
  with_reducible refine HC.out.mono ?_
  rintro r w8 ⟨rfl, v8, hs8⟩
  clear HC HS cl p0 p1 p2 p3 p4 p5 p6
  have HS := Lib.hid hs8
  clear hs8
  obtain ⟨cl, p0, p1, p2, p3, p4, p5, p6⟩ := HS.out.cells
  have HC := Lib.hid (show Calls Tryz.prog 40 #[.string ⟨#[103, 111, 110, 101]⟩, .int .i64 (ng : Int), .pointer (some ⟨w.heap.size + 1, 0, none⟩)] w8 (SnP w #[.int .i64 a, .int .i64 b, .slice Ac nc kc, .slice Ah nh kh, .slice At nt kt, .slice Al nl kl, .slice Ag ng kg] (Q7 ++ lineB wGone [(gs.length : Int)])) from by
    have := HS.out.line wGone (gs.length : Int) (by omega) (by have := HLG.out; omega) (by have := HL8.out; simp only [wGone, List.length_cons, List.length_nil] at *; omega) HI.out.tab
    rw [HLG.out] at this ⊢; exact this)
  have HL9 := Lib.hid (show (Q7 ++ lineB wGone [(gs.length : Int)]).length ≤ 54580320 from by have := HL8.out; have := HK1.out; have := HK2.out; have := HK3.out; have := HK4.out; have := HK5.out; have := HK6.out; have := HK7.out; have := HK8.out; have := HE1.out; have := HE2.out; have := HLC.out; have := HLH.out; have := HLT.out; have := HLL.out; have := HLG.out; simp only [List.length_append]; simp only [wSnap, wSlack, wIdle, wClock, wHad, wTaken, wLate, wGone, List.length_cons, List.length_nil] at *; omega)
  obtain ⟨Q8, hQ8⟩ : ∃ Q, Q = Q7 ++ lineB wGone [(gs.length : Int)] := ⟨_, rfl⟩
  have HQ8 := Lib.hid hQ8
  rw [← hQ8] at HC HL9
  clear hQ8
  go_wp2_with fail
  with_reducible refine HC.out.mono ?_
  rintro r w9 ⟨rfl, v9, hs9⟩
  clear HC HS cl p0 p1 p2 p3 p4 p5 p6
  have HS := Lib.hid hs9
  clear hs9
  obtain ⟨cl, p0, p1, p2, p3, p4, p5, p6⟩ := HS.out.cells
  have HGL := Lib.hid (show ∀ k, (namesT (gs.take k)).length ≤ 1001 * 10000 from fun k => by
    have h1 := namesT_len (gs.take k) fun e he => HI.out.gm e (List.mem_of_mem_take he)
    have h2 : (gs.take k).length ≤ gs.length := by rw [List.length_take]; omega
    have := HLG.out
    omega)
  have HR0 := Lib.hid (show SgRel w #[.int .i64 a, .int .i64 b, .slice Ac nc kc, .slice Ah nh kh, .slice At nt kt, .slice Al nl kl, .slice Ag ng kg] Q8 gs (.int .i64 ((0 : Nat) : Int)) w9 from ⟨0, v9, rfl, Nat.zero_le _, by simpa [namesT] using HS.out⟩)
  clear HS
  go_wp2
  clear cl p0 p1 p2 p3 p4 p5 p6
  go_loopw [49] (fun i wr => SgRel w #[.int .i64 a, .int .i64 b, .slice Ac nc kc, .slice Ah nh kh, .slice At nt kt, .slice Al nl kl, .slice Ag ng kg] Q8 gs i wr) (fun i _ => gs.length - (intOf i).toNat)
  case atStart => exact HR0.out
  case round =>
    obtain ⟨k, vk, rfl, hk, hst⟩ := hrel
    have HS := Lib.hid hst
    have hsr := hst.bel.size
    have HPL := Lib.hid (show (Q8 ++ namesT (gs.take k)).length ≤ 80000000 from by have := HL9.out; have := HGL.out k; rw [List.length_append]; omega)
    clear hst HR0
    by_cases hkn : k < gs.length
    · have hkg : k < ng := by have := HLG.out; omega
      have t1 : (k : Int) < ng := by omega
      obtain ⟨bg, og, hA, hbg, hgc⟩ := HI.out.gn.at_ k hkn
      have hgc2 := (HS.out.bel.cell (p := ⟨bg, og + k, none⟩) hbg).trans hgc
      have HGM := Lib.hid (HI.out.gm _ (List.getElem_mem hkn))
      have HTK := Lib.hid (namesT_take gs k hkn)
      have HL3 := Lib.hid (show (Q8 ++ namesT (gs.take k)) ++ gs[k] ++ [10] = Q8 ++ namesT (gs.take (k + 1)) from by rw [HTK.out]; simp)
      clear hgc HTK
      generalize gs[k] = g at *
      subst hA
      generalize Q8 ++ namesT (gs.take k) = P at *
      have HST := Lib.hid (show BxSt wr w.heap.size (w.heap.size + 1) P vk wr from ⟨HS.out.own, HS.out.bx, Below.refl _ _, Lib.OthersKept.refl _ _ _⟩)
      obtain ⟨c0, f0⟩ := HST.out.cell
      have hpl := HPL.out
      have hgl := HGM.out
      obtain ⟨v1, w10, hr1, ho1, hg1⟩ := app_str1 wr w.heap.size vk P g HST.out.own hsr (by omega) 22
      obtain ⟨A1, k1, rfl⟩ := ho1.formA
      have HR1 := Lib.hid hr1
      have HS1 := Lib.hid (HST.out.str hsr ho1 hg1 (by omega))
      obtain ⟨c1, f1⟩ := HST.out.mid0 hg1
      clear hr1 ho1 hg1 HST
      go_upto_region 17 with (at_builtin; refine Lib.wpList_append_run _ rfl (.tmp 53) (.tmp 54) _ _ rfl _ _ rfl rfl _ _ HR1.out ?_)
      clear c0 f0 c1 f1 HR1
      generalize w10.setCell ⟨w.heap.size + 1, 0, none⟩ (.slice A1 (P.length + g.length) k1) = w11 at *
      have HLS := Lib.hid (show (P ++ g).length = P.length + g.length from List.length_append)
      rw [← HLS.out]
      generalize P ++ g = P2 at *
      obtain ⟨c0, f0⟩ := HS1.out.cell
      have hs2 := HS1.out.bel.size
      go_wp2_with (at_builtin; refine wpList_app8 rfl (.tmp 56) (.tmp 57) rfl w.heap.size _ P2 rfl ?c1 (w11.heap.size + 1) _ _ _ [10] rfl ?c2 ?c3 ?c4 ?_)
      case c1 => exact OwnB.alloc HS1.out.own _
      case c2 => exact Byt.new w11 _ _ [10] rfl 1 rfl (by unfold maxLen; omega)
      case c3 => have := HLS.out; first | omega | (simp; omega)
      case c4 => first | omega | (simp; omega)
      intro v12 w12 ho2 hg2 hv2
      obtain ⟨A2, k2, rfl⟩ := ho2.formS
      obtain ⟨c2, f2⟩ := HS1.out.mid _ hg2
      have HS2 := Lib.hid (HS1.out.app (by omega) _ ho2 hg2 (by omega))
      clear ho2 hg2 c0 f0 HS1 hv2
      rw [HL3.out] at HS2
      have HR2 := Lib.hid (show SgRel w #[.int .i64 a, .int .i64 b, .slice Ac nc kc, .slice Ah nh kh, .slice At nt kt, .slice Al nl kl, .slice (some ⟨bg, og, none⟩) ng kg] Q8 gs (.int .i64 ((k + 1 : Nat) : Int)) _ from ⟨k + 1, _, rfl, hkn, HS.out.next HS2.out⟩)
      clear HS HS2
      go_wp2
      go_roundw
      case rel => exact HR2.out
      case measure => simp [intOf]; omega
    · have t1 : ¬ (k : Int) < ng := by have := HLG.out; omega
      have hkl : k = gs.length := by omega
      have HPE := Lib.hid (show Q8 ++ namesT (gs.take k) = snT n a b lc lh ts ls gs from by
        rw [hkl, List.take_length, HTX.out, HQ8.out, HQ7.out, HQ6.out, HQ5.out, HQ4.out, HQ3.out, HQ2.out, HQ1.out])
      generalize Q8 ++ namesT (gs.take k) = P at *
      obtain ⟨Av, kv, hvk⟩ := HS.out.own.form
      have HF := Lib.hid (show SnWPost w (snT n a b lc lh ts ls gs) (.returned vk) wr from ⟨vk, rfl, by rw [← HPE.out]; exact HS.out.own, HS.out.bel⟩)
      have c9 := (cell_of_row wr _ 0 _ _ (0, 0) HS.out.bx).trans rfl
      clear hkl HS
      subst hvk
      go_wp2
      go_ret
      exact HF.out
end Go.Proofs.YtdjoaboalknlkaaGreatDoor
