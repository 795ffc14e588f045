/-
  Layer 30: any bytes, read.
-/
import Derived.Test.YtdjoaboalknlkaaGreatDoorLSnRd2
import Derived.Test.YtdjoaboalknlkaaGreatDoorLPtQ
namespace Go.Proofs.YtdjoaboalknlkaaGreatDoor
open Go.RowKit Go.Maps Go.Sort

theorem own_lower {w : World} {b0 b1 n size : Nat} {e : TypeId} {v : Value} {xs : List Value} (h : w.ownsRow b1 e size v n xs) (hb : b0 ≤ b1) : w.ownsRow b0 e size v n xs := by
  refine ⟨h.1, ?_⟩
  rcases h.2 with h' | ⟨g, cap, cur, rfl, hb', hg, hr⟩
  · exact .inl h'
  · exact .inr ⟨g, cap, cur, rfl, Nat.le_trans hb hb', hg, hr⟩
/-- read's boxes -/
structure RdSt (w : World) (s : Sn) (a b : Int) (vc vh vt vl vg : Value) (W : World) : Prop where
  sb : SnB W w.heap.size w.heap.size (w.heap.size + 1 + 1) s
  tb : W.heap[w.heap.size + 1 + 1 + 1]? = some (tiBox w.heap.size (w.heap.size + 1 + 1))
  lb : W.heap[w.heap.size + 1 + 1 + 1 + 1]? = some (liBox (w.heap.size + 1 + 1 + 1) (w.heap.size + 1 + 1))
  pb : W.heap[w.heap.size + 1 + 1 + 1 + 1 + 1]? = some (ptsObj a b vc vh vt vl vg)
  rb : W.heap[w.heap.size + 1]? = some (ptsObj 0 0 (.slice none 0 0) (.slice none 0 0) (.slice none 0 0) (.slice none 0 0) (.slice none 0 0))
  bel : Below w.heap.size w W
abbrev SbK (w W W' : World) : Prop := SbKeep w.heap.size (w.heap.size + 1 + 1) W W'
section
variable {w W W' : World} {s s' : Sn} {a b : Int} {vc vh vt vl vg : Value}
theorem RdSt.lt (h : RdSt w s a b vc vh vt vl vg W) : w.heap.size + 6 ≤ W.heap.size := by
  have := (Array.getElem?_eq_some_iff.1 h.pb).1; omega
theorem RdSt.next (h : RdSt w s a b vc vh vt vl vg W) (h1 : SnB W' w.heap.size w.heap.size (w.heap.size + 1 + 1) s') (hk : SbK w W W') : RdSt w s' a b vc vh vt vl vg W' := by
  have hl := h.lt
  have key : ∀ k, k < W.heap.size → k ≠ w.heap.size → k ≠ w.heap.size + 1 + 1 → W'.heap[k]? = W.heap[k]? := fun k hk1 n1 n2 => Keep.block hk k hk1 (fun e => e.elim n1 n2)
  exact ⟨h1, (key _ (by omega) (by omega) (by omega)).trans h.tb, (key _ (by omega) (by omega) (by omega)).trans h.lb, (key _ (by omega) (by omega) (by omega)).trans h.pb, (key _ (by omega) (by omega) (by omega)).trans h.rb, h.bel.trans (Keep.below hk (by omega) (fun k hk e => by omega))⟩
theorem RdSt.set (h : RdSt w s a b vc vh vt vl vg W) {a' b' : Int} {vc' vh' vt' vl' vg' : Value} (o : Nat) (u : Value) (hu : (#[.int .i64 a, .int .i64 b, vc, vh, vt, vl, vg] : Array Value).setIfInBounds o u = #[.int .i64 a', .int .i64 b', vc', vh', vt', vl', vg']) : RdSt w s a' b' vc' vh' vt' vl' vg' (W.setCell ⟨w.heap.size + 1 + 1 + 1 + 1 + 1, o, none⟩ u) := by
  have key : ∀ k, k ≠ w.heap.size + 1 + 1 + 1 + 1 + 1 → (W.setCell ⟨w.heap.size + 1 + 1 + 1 + 1 + 1, o, none⟩ u).heap[k]? = W.heap[k]? := fun k hk => Below.heap_setCell _ _ _ _ hk
  obtain ⟨A, n, c, g1, g2, g3⟩ := h.sb.b
  refine ⟨⟨⟨A, n, c, (key _ (by omega)).trans g1, g2.setCell (by show w.heap.size ≤ w.heap.size + 1 + 1 + 1 + 1 + 1; omega) _, g3⟩, (key _ (by omega)).trans h.sb.ok, h.sb.hb, h.sb.ho, h.sb.ne, h.sb.num⟩, (key _ (by omega)).trans h.tb, (key _ (by omega)).trans h.lb, ?_, (key _ (by omega)).trans h.rb, belowSetG h.bel (by show w.heap.size ≤ w.heap.size + 1 + 1 + 1 + 1 + 1; omega) u⟩
  have := heap_set_row (o := o) (u := u) h.pb
  rw [this, hu]
theorem RdSt.up (h : RdSt w s a b vc vh vt vl vg W) (hb : Below W.heap.size W W') : RdSt w s a b vc vh vt vl vg W' := h.next (h.sb.up hb) (SbKeep.below hb)
theorem RdSt.errs (h : RdSt w s a b vc vh vt vl vg W) (he : ErrsAt w) : ∀ W', SbK w W W' → ErrsAt W' := fun _ hk => he.up (h.bel.trans (Keep.below hk h.bel.size (fun k hk e => by omega)))
theorem RdSt.maxs (h : RdSt w s a b vc vh vt vl vg W) (he : MaxAt w) : ∀ W', SbK w W W' → MaxAt W' := fun _ hk => he.up (h.bel.trans (Keep.below hk h.bel.size (fun k hk e => by omega)))
theorem RdSt.till (h : RdSt w s a b vc vh vt vl vg W) : Calls Tryz.prog 23 #[.pointer (some ⟨w.heap.size, 0, none⟩), .pointer (some ⟨w.heap.size + 1 + 1, 0, none⟩)] W (fun e W' => e = .returned (.string ⟨(tilV s).toArray⟩) ∧ RdSt w (tilS s) a b vc vh vt vl vg W' ∧ SbK w W W') :=
  (till_any W _ _ _ s h.sb).mono fun _ _ ⟨h1, h2, h3⟩ => ⟨h1, h.next h2 h3, h3⟩
theorem RdSt.line (h : RdSt w s a b vc vh vt vl vg W) (ws : List UInt8) (hws : ws.length ≤ 1000) (he : ErrsAt w) : Calls Tryz.prog 25 #[.string ⟨ws.toArray⟩, .pointer (some ⟨w.heap.size + 1 + 1 + 1, 0, none⟩), .pointer (some ⟨w.heap.size + 1 + 1, 0, none⟩)] W (fun e W' => e = .returned (.int .i64 (linV ws s)) ∧ RdSt w (linS ws s) a b vc vh vt vl vg W' ∧ SbK w W W') :=
  (rdline_any W _ _ _ _ s h.sb h.tb ws hws (h.errs he)).mono fun _ _ ⟨h1, h2, h3⟩ => ⟨h1, h.next h2 h3, h3⟩
theorem RdSt.some_ (h : RdSt w s a b vc vh vt vl vg W) (ws : List UInt8) (hws : ws.length ≤ 1000) (he : ErrsAt w) : Calls Tryz.prog 28 #[.string ⟨ws.toArray⟩, .pointer (some ⟨w.heap.size + 1 + 1 + 1 + 1, 0, none⟩), .pointer (some ⟨w.heap.size, 0, none⟩), .pointer (some ⟨w.heap.size + 1 + 1, 0, none⟩)] W (fun e W' => ∃ A n c, e = .returned (.slice A n c) ∧ Byt W' w.heap.size A n c (somV ws s) ∧ RdSt w (somS ws s) a b vc vh vt vl vg W' ∧ SbK w W W') :=
  (rdsome_any W _ _ _ _ _ s h.sb h.tb h.lb ws hws (h.errs he)).mono fun _ _ ⟨A, n, c, h1, h0, h2, h3⟩ => ⟨A, n, c, h1, h0, h.next h2 h3, h3⟩
theorem RdSt.evs (h : RdSt w s a b vc vh vt vl vg W) (ws : List UInt8) (hws : ws.length ≤ 1000) (he : ErrsAt w) (hm : MaxAt w) : Calls Tryz.prog 29 #[.string ⟨ws.toArray⟩, .pointer (some ⟨w.heap.size + 1 + 1 + 1 + 1, 0, none⟩), .pointer (some ⟨w.heap.size, 0, none⟩), .pointer (some ⟨w.heap.size + 1 + 1, 0, none⟩)] W (fun e W' => ∃ A n c, e = .returned (.slice A n c) ∧ OwnE W' (w.heap.size + 6) (.slice A n c) (evV ws s) ∧ RdSt w (evS ws s) a b vc vh vt vl vg W' ∧ SbK w W W') :=
  (rdevs_any W _ _ _ _ _ s h.sb h.tb h.lb ws hws (h.errs he) (h.maxs hm)).mono fun _ _ ⟨v, h1, h0, h2, h3⟩ => by
    obtain ⟨A, c, rfl⟩ := ownsRow_form h0
    exact ⟨A, _, c, h1, own_lower h0 h.lt, h.next h2 h3, h3⟩
theorem own_sbk {n size : Nat} {e : TypeId} {v : Value} {xs : List Value} (h : W.ownsRow (w.heap.size + 6) e size v n xs) (hk : SbK w W W') : W'.ownsRow (w.heap.size + 6) e size v n xs :=
  ownsRow_keep h fun b hb => by
    have := World.ownsRow.lt h b hb
    exact Keep.block hk b this.2 (fun e => by omega)
theorem RdSt.cells (h : RdSt w s a b vc vh vt vl vg W) :
    W.cell? ⟨w.heap.size + 1 + 1 + 1 + 1, 0, none⟩ = some (.func (Fn.func 25) #[] #[.pointer (some ⟨w.heap.size + 1 + 1 + 1, 0, none⟩), .pointer (some ⟨w.heap.size + 1 + 1, 0, none⟩)]) ∧
    W.cell? ⟨w.heap.size + 1 + 1 + 1, 0, none⟩ = some (.func (Fn.func 23) #[] #[.pointer (some ⟨w.heap.size, 0, none⟩), .pointer (some ⟨w.heap.size + 1 + 1, 0, none⟩)]) ∧
    W.cell? ⟨w.heap.size + 1 + 1, 0, none⟩ = some (.bool s.ok) :=
  ⟨(cell_of_row W _ 0 _ _ (0, 0) h.lb).trans rfl, (cell_of_row W _ 0 _ _ (0, 0) h.tb).trans rfl, (cell_of_row W _ 0 _ _ (0, 0) h.sb.ok).trans rfl⟩
end
theorem alloc6 (w : World) (o0 o1 o2 o3 o4 o5 : Obj) : ((((((w.alloc o0).alloc o1).alloc o2).alloc o3).alloc o4).alloc o5).heap[w.heap.size]? = some o0 ∧ ((((((w.alloc o0).alloc o1).alloc o2).alloc o3).alloc o4).alloc o5).heap[w.heap.size + 1]? = some o1 ∧ ((((((w.alloc o0).alloc o1).alloc o2).alloc o3).alloc o4).alloc o5).heap[w.heap.size + 1 + 1]? = some o2 ∧
    ((((((w.alloc o0).alloc o1).alloc o2).alloc o3).alloc o4).alloc o5).heap[w.heap.size + 1 + 1 + 1]? = some o3 ∧ ((((((w.alloc o0).alloc o1).alloc o2).alloc o3).alloc o4).alloc o5).heap[w.heap.size + 1 + 1 + 1 + 1]? = some o4 ∧ ((((((w.alloc o0).alloc o1).alloc o2).alloc o3).alloc o4).alloc o5).heap[w.heap.size + 1 + 1 + 1 + 1 + 1]? = some o5 ∧ Below w.heap.size w ((((((w.alloc o0).alloc o1).alloc o2).alloc o3).alloc o4).alloc o5) := by
  have s1 : (w.alloc o0).heap.size = w.heap.size + 1 := by simp
  have s2 : ((w.alloc o0).alloc o1).heap.size = w.heap.size + 1 + 1 := by simp
  have s3 : (((w.alloc o0).alloc o1).alloc o2).heap.size = w.heap.size + 1 + 1 + 1 := by simp
  have s4 : ((((w.alloc o0).alloc o1).alloc o2).alloc o3).heap.size = w.heap.size + 1 + 1 + 1 + 1 := by simp
  have s5 : (((((w.alloc o0).alloc o1).alloc o2).alloc o3).alloc o4).heap.size = w.heap.size + 1 + 1 + 1 + 1 + 1 := by simp
  have n0 := heap_alloc_new w o0
  have n1 := heap_alloc_new (w.alloc o0) o1
  have n2 := heap_alloc_new ((w.alloc o0).alloc o1) o2
  have n3 := heap_alloc_new (((w.alloc o0).alloc o1).alloc o2) o3
  have n4 := heap_alloc_new ((((w.alloc o0).alloc o1).alloc o2).alloc o3) o4
  have n5 := heap_alloc_new (((((w.alloc o0).alloc o1).alloc o2).alloc o3).alloc o4) o5
  rw [s1] at n1; rw [s2] at n2; rw [s3] at n3; rw [s4] at n4; rw [s5] at n5
  refine ⟨?_, ?_, ?_, ?_, ?_, n5, ?_⟩
  · exact (heap_alloc_old _ _ (by omega)).trans ((heap_alloc_old _ _ (by omega)).trans ((heap_alloc_old _ _ (by omega)).trans ((heap_alloc_old _ _ (by omega)).trans ((heap_alloc_old _ _ (by omega)).trans n0))))
  · exact (heap_alloc_old _ _ (by omega)).trans ((heap_alloc_old _ _ (by omega)).trans ((heap_alloc_old _ _ (by omega)).trans ((heap_alloc_old _ _ (by omega)).trans n1)))
  · exact (heap_alloc_old _ _ (by omega)).trans ((heap_alloc_old _ _ (by omega)).trans ((heap_alloc_old _ _ (by omega)).trans n2))
  · exact (heap_alloc_old _ _ (by omega)).trans ((heap_alloc_old _ _ (by omega)).trans n3)
  · exact (heap_alloc_old _ _ (by omega)).trans n4
  · exact (((((((Below.refl _ _).alloc (Nat.le_refl _) _).alloc (by omega) _).alloc (by omega) _).alloc (by omega) _).alloc (by omega) _).alloc (by omega) _)
def RdOut (w : World) (l : List UInt8) (e : Ending) (W : World) : Prop :=
  ∃ Ac nc kc Ah nh kh At nt kt Al nl kl Ag ng kg, e = .returned (.tuple #[ptsAgg (snD l).slack (snD l).idle (.slice Ac nc kc) (.slice Ah nh kh) (.slice At nt kt) (.slice Al nl kl) (.slice Ag ng kg), .int .i64 (snD l).off, .bool (snD l).ok]) ∧
    Byt W w.heap.size Ac nc kc (snD l).clk ∧ Byt W w.heap.size Ah nh kh (snD l).had ∧ Evs W W.heap.size At nt kt (snD l).tk ∧ Evs W W.heap.size Al nl kl (snD l).lt ∧ Strs W W.heap.size Ag ng kg (snD l).gn ∧ Below w.heap.size w W
theorem SbK.bel {w W W' : World} (hk : SbK w W W') (h : w.heap.size ≤ W.heap.size) : Below w.heap.size W W' := Keep.below hk h (fun k hk e => by omega)
/-- the rows that are read -/
structure SgnRows (w W : World) (vc vh vt vl : Value) (lc lh : List UInt8) (tk lt : List Ev) : Prop where
  tk : OwnE W (w.heap.size + 6) vt tk
  lt : OwnE W (w.heap.size + 6) vl lt
  clk : ∃ A n c, vc = .slice A n c ∧ Byt W w.heap.size A n c lc
  had : ∃ A n c, vh = .slice A n c ∧ Byt W w.heap.size A n c lh
theorem SgnRows.sbk {w W W' : World} {vc vh vt vl : Value} {lc lh : List UInt8} {tk lt : List Ev} (h : SgnRows w W vc vh vt vl lc lh tk lt) (hk : SbK w W W') (hs : w.heap.size ≤ W.heap.size) : SgnRows w W' vc vh vt vl lc lh tk lt := by
  obtain ⟨A, n, c, h1, h2⟩ := h.clk
  obtain ⟨A', n', c', h3, h4⟩ := h.had
  exact ⟨own_sbk h.tk hk, own_sbk h.lt hk, ⟨A, n, c, h1, h2.below (SbK.bel hk hs)⟩, ⟨A', n', c', h3, h4.below (SbK.bel hk hs)⟩⟩
theorem RdSt.upB {w W W' : World} {s : Sn} {a b : Int} {vc vh vt vl vg : Value} (h : RdSt w s a b vc vh vt vl vg W) (hb : Below (w.heap.size + 6) W W') : RdSt w s a b vc vh vt vl vg W' :=
  ⟨h.sb.upB hb (by omega) (by omega), (hb.block _ (by omega)).trans h.tb, (hb.block _ (by omega)).trans h.lb, (hb.block _ (by omega)).trans h.pb, (hb.block _ (by omega)).trans h.rb, h.bel.trans (hb.mono (by omega))⟩
/-- a name is appended -/
theorem rg_app {w W W' : World} {s : Sn} {a b : Int} {vc vh vt vl v : Value} {lc lh : List UInt8} {tk lt : List Ev} {L : List (List UInt8)} {o : Obj} (h : RdSt w s a b vc vh vt vl v W) (hv : W.ownsRow (w.heap.size + 6) 9 1 v L.length (L.map encStr)) (hr : SgnRows w W vc vh vt vl lc lh tk lt)
    (hg : (W.alloc o).grownBy W' v.ownBlock) : RdSt w s a b vc vh vt vl v W' ∧ SgnRows w W' vc vh vt vl lc lh tk lt := by
  have hl := h.lt
  have hA : Below W.heap.size W (W.alloc o) := (Below.refl _ _).alloc (Nat.le_refl _) _
  have hvA := World.ownsRow.alloc hv o
  have hb : Below (w.heap.size + 6) W W' := (hA.mono hl).grown hg (by have := hA.size; omega) (fun k hk => (World.ownsRow.lt hv k hk).1)
  have hrA := hr.sbk (SbKeep.below hA) h.bel.size
  obtain ⟨A, n, c, h1, h2⟩ := hr.clk
  obtain ⟨A', n', c', h3, h4⟩ := hr.had
  exact ⟨h.upB hb, own_grow hrA.tk hg (own_ne hrA.tk hvA (by decide)), own_grow hrA.lt hg (own_ne hrA.lt hvA (by decide)), ⟨A, n, c, h1, h2.below (hb.mono (by omega))⟩, ⟨A', n', c', h3, h4.below (hb.mono (by omega))⟩⟩
theorem SgnRows.set {w W : World} {vc vh vt vl : Value} {lc lh : List UInt8} {tk lt : List Ev} (h : SgnRows w W vc vh vt vl lc lh tk lt) (o : Nat) (u : Value) : SgnRows w (W.setCell ⟨w.heap.size + 1 + 1 + 1 + 1 + 1, o, none⟩ u) vc vh vt vl lc lh tk lt := by
  obtain ⟨A, n, c, h1, h2⟩ := h.clk
  obtain ⟨A', n', c', h3, h4⟩ := h.had
  exact ⟨own_set h.tk (by show w.heap.size + 1 + 1 + 1 + 1 + 1 < _; omega) _, own_set h.lt (by show w.heap.size + 1 + 1 + 1 + 1 + 1 < _; omega) _, ⟨A, n, c, h1, h2.setCell (by show w.heap.size ≤ w.heap.size + 1 + 1 + 1 + 1 + 1; omega) _⟩, ⟨A', n', c', h3, h4.setCell (by show w.heap.size ≤ w.heap.size + 1 + 1 + 1 + 1 + 1; omega) _⟩⟩
theorem pts_store {W : World} {t : Nat} (a b : Int) (vc vh vt vl vg : Value) (h : W.heap[t]? = some (ptsObj 0 0 (.slice none 0 0) (.slice none 0 0) (.slice none 0 0) (.slice none 0 0) (.slice none 0 0))) : ((((((((W).setCell ⟨t, 0, none⟩ (.int .i64 a)).setCell ⟨t, 1, none⟩ (.int .i64 b)).setCell ⟨t, 2, none⟩ (vc)).setCell ⟨t, 3, none⟩ (vh)).setCell ⟨t, 4, none⟩ (vt)).setCell ⟨t, 5, none⟩ (vl)).setCell ⟨t, 6, none⟩ (vg)).heap[t]? = some (ptsObj a b vc vh vt vl vg) := by
  have h0 := heap_set_row (o := 0) (u := .int .i64 a) h
  have h1 := heap_set_row (o := 1) (u := .int .i64 b) h0
  have h2 := heap_set_row (o := 2) (u := vc) h1
  have h3 := heap_set_row (o := 3) (u := vh) h2
  have h4 := heap_set_row (o := 4) (u := vt) h3
  have h5 := heap_set_row (o := 5) (u := vl) h4
  have h6 := heap_set_row (o := 6) (u := vg) h5
  simp only [List.setIfInBounds_toArray, List.set_cons_zero, List.set_cons_succ] at h6
  exact h6
theorem pts_store_keep {W : World} {t : Nat} (a b : Int) (vc vh vt vl vg : Value) : Keep (fun q => q = t) W ((((((((W).setCell ⟨t, 0, none⟩ (.int .i64 a)).setCell ⟨t, 1, none⟩ (.int .i64 b)).setCell ⟨t, 2, none⟩ (vc)).setCell ⟨t, 3, none⟩ (vh)).setCell ⟨t, 4, none⟩ (vt)).setCell ⟨t, 5, none⟩ (vl)).setCell ⟨t, 6, none⟩ (vg)) := by
  have key : ∀ {W' : World} (o : Nat) (u : Value), Keep (fun q => q = t) W W' → Keep (fun q => q = t) W (W'.setCell ⟨t, o, none⟩ u) := fun o u h => Keep.setCell (p := ⟨t, o, none⟩) h (fun _ => rfl) u
  exact key _ _ (key _ _ (key _ _ (key _ _ (key _ _ (key _ _ (key _ _ (Keep.refl _ _)))))))
theorem rd_fin {w W W' : World} {s : Sn} {a b : Int} {Ac Ah At Al Ag : Option Addr} {nc kc nh kh nt kt nl kl ng kg : Nat} {lc lh : List UInt8} {tk lt : List Ev} {L : List (List UInt8)} (hs : RdSt w s a b (.slice Ac nc kc) (.slice Ah nh kh) (.slice At nt kt) (.slice Al nl kl) (.slice Ag ng kg) W)
    (hv : W.ownsRow (w.heap.size + 6) 9 1 (.slice Ag ng kg) L.length (L.map encStr)) (hr : SgnRows w W (.slice Ac nc kc) (.slice Ah nh kh) (.slice At nt kt) (.slice Al nl kl) lc lh tk lt) (hk : Keep (fun q => q = w.heap.size + 1) W W') :
    Byt W' w.heap.size Ac nc kc lc ∧ Byt W' w.heap.size Ah nh kh lh ∧ Evs W' W'.heap.size At nt kt tk ∧ Evs W' W'.heap.size Al nl kl lt ∧ Strs W' W'.heap.size Ag ng kg L ∧ Below w.heap.size w W' := by
  have hb : Below w.heap.size W W' := hk.below hs.bel.size (fun k hk e => by omega)
  have hl := hs.lt
  have key : ∀ {n size : Nat} {e : TypeId} {v : Value} {xs : List Value}, W.ownsRow (w.heap.size + 6) e size v n xs → W'.ownsRow (w.heap.size + 6) e size v n xs := fun h => ownsRow_keep h fun b hb => by
    have := World.ownsRow.lt h b hb
    exact hk.block b this.2 (fun e => by omega)
  obtain ⟨A, n, c, h1, h2⟩ := hr.clk
  obtain ⟨A', n', c', h3, h4⟩ := hr.had
  injection h1 with g1 g2 g3; injection h3 with g4 g5 g6
  subst g1 g2 g3 g4 g5 g6
  have ht := key hr.tk
  have hlt := key hr.lt
  have hgn := key hv
  obtain ⟨A1, k1, e1⟩ := ownsRow_form ht
  obtain ⟨A2, k2, e2⟩ := ownsRow_form hlt
  obtain ⟨A3, k3, e3⟩ := ownsRow_form hgn
  injection e1 with f1 f2 f3; injection e2 with f4 f5 f6; injection e3 with f7 f8 f9
  subst f1 f2 f3 f4 f5 f6 f7 f8 f9
  exact ⟨h2.below hb, h4.below hb, Cel.of_own ht, Cel.of_own hlt, Cel.of_own hgn, hs.bel.trans hb⟩
def SgnRel (w : World) (N : Nat) (s0 : Sn) (a b : Int) (vc vh vt vl : Value) (lc lh : List UInt8) (tk lt : List Ev) (i : Value) (W : World) : Prop :=
  ∃ (k : Nat) (cur : Sn) (L : List (List UInt8)) (vg : Value), i = .int .i64 k ∧ k ≤ N ∧ RdSt w cur a b vc vh vt vl vg W ∧ W.ownsRow (w.heap.size + 6) 9 1 vg L.length (L.map encStr) ∧ SgnRows w W vc vh vt vl lc lh tk lt ∧ ((cur.ok = true → L.length + cur.b.length ≤ s0.b.length) ∧ L.length ≤ s0.b.length + 1) ∧ gonR (N - k) cur L = gonR N s0 []
theorem tilS_inv {cur s0 : Sn} {L : List (List UInt8)} (_hok : cur.ok = true) (h : L.length + cur.b.length ≤ s0.b.length) : ((tilS cur).ok = true → (L ++ [tilV cur]).length + (tilS cur).b.length ≤ s0.b.length) ∧ (L ++ [tilV cur]).length ≤ s0.b.length + 1 := by
  rw [List.length_append, List.length_singleton]
  refine ⟨fun h2 => ?_, by omega⟩
  unfold tilS at h2 ⊢
  split at h2
  · rename_i h3
    rw [if_pos h3]
    have := cut_len cur.b h3
    show L.length + 1 + (Lib.cut cur.b [10]).2.1.length ≤ _
    omega
  · cases h2
set_option maxRecDepth 100000 in
set_option maxHeartbeats 4000000 in
theorem snread_any (w : World) (A : Option Addr) (n c : Nat) (l : List UInt8) (h : Byt w w.heap.size A n c l) (hA : A = none → c = 0) (hn : n ≤ 1000000000) (he : ErrsAt w) (hm : MaxAt w) : Calls Tryz.prog 11 #[.slice A n c] w (RdOut w l) := by
  have HB := Lib.hid h; have HE := Lib.hid he; have HM := Lib.hid hm
  have hl := h.len
  have HD := Lib.hid (show (snD l).off = linV wSnap ⟨l, true⟩ ∧ (snD l).slack = linV wSlack (sn1 l) ∧ (snD l).idle = linV wIdle (sn2 l) ∧ (snD l).clk = somV wClock (sn3 l) ∧ (snD l).had = somV wHad (sn4 l) ∧ (snD l).tk = evV wTaken (sn5 l) ∧ (snD l).lt = evV wLate (sn6 l) ∧ (snD l).gn = (sn9 l).1 ∧ (snD l).ok = ((sn9 l).2.ok && (sn9 l).2.b.isEmpty) from by simp only [snD, and_self])
  clear h he hm
  obtain ⟨D, hD⟩ : ∃ D, D = snD l := ⟨_, rfl⟩
  rw [← hD] at HD
  have HRO := Lib.hid (show ∀ W Ac nc kc Ah nh kh At nt kt Al nl kl Ag ng kg, Byt W w.heap.size Ac nc kc D.clk → Byt W w.heap.size Ah nh kh D.had → Evs W W.heap.size At nt kt D.tk → Evs W W.heap.size Al nl kl D.lt → Strs W W.heap.size Ag ng kg D.gn → Below w.heap.size w W →
      RdOut w l (.returned (.tuple #[ptsAgg D.slack D.idle (.slice Ac nc kc) (.slice Ah nh kh) (.slice At nt kt) (.slice Al nl kl) (.slice Ag ng kg), .int .i64 D.off, .bool D.ok])) W from fun W Ac nc kc Ah nh kh At nt kt Al nl kl Ag ng kg q1 q2 q3 q4 q5 q6 => by
    rw [hD] at q1 q2 q3 q4 q5 ⊢
    exact ⟨Ac, nc, kc, Ah, nh, kh, At, nt, kt, Al, nl, kl, Ag, ng, kg, rfl, q1, q2, q3, q4, q5, q6⟩)
  obtain ⟨doff, dsl, did, dck, dhd, dtk, dlt, dgn, dok⟩ := HD.out
  have HOFF := Lib.hid doff; have HSL := Lib.hid dsl; have HID := Lib.hid did; have HCK := Lib.hid dck; have HHD := Lib.hid dhd; have HTK := Lib.hid dtk; have HLT := Lib.hid dlt; have HGN := Lib.hid dgn; have HOK := Lib.hid dok
  clear hD HD doff dsl did dck dhd dtk dlt dgn dok
  have HLL := Lib.hid (show (⟨l, true⟩ : Sn).b.length ≤ 1000000000 from by show l.length ≤ _; omega)
  go_enter Tryz.func11, Tryz.ntmps11
  go_upto_region 7 with fail
  have HS := Lib.hid (show RdSt w ⟨l, true⟩ 0 0 (.slice none 0 0) (.slice none 0 0) (.slice none 0 0) (.slice none 0 0) (.slice none 0 0) ((((((w.alloc (byBox (.slice A n c))).alloc (ptsObj 0 0 (.slice none 0 0) (.slice none 0 0) (.slice none 0 0) (.slice none 0 0) (.slice none 0 0))).alloc (okBox true)).alloc (tiBox w.heap.size (w.heap.size + 1 + 1))).alloc (liBox (w.heap.size + 1 + 1 + 1) (w.heap.size + 1 + 1))).alloc (ptsObj 0 0 (.slice none 0 0) (.slice none 0 0) (.slice none 0 0) (.slice none 0 0) (.slice none 0 0))) from by
    obtain ⟨g0, g1, g2, g3, g4, g5, gb⟩ := alloc6 w (byBox (.slice A n c)) (ptsObj 0 0 (.slice none 0 0) (.slice none 0 0) (.slice none 0 0) (.slice none 0 0) (.slice none 0 0)) (okBox true) (tiBox w.heap.size (w.heap.size + 1 + 1)) (liBox (w.heap.size + 1 + 1 + 1) (w.heap.size + 1 + 1)) (ptsObj 0 0 (.slice none 0 0) (.slice none 0 0) (.slice none 0 0) (.slice none 0 0) (.slice none 0 0))
    exact ⟨⟨⟨A, n, c, g0, HB.out.below gb, hA⟩, g2, Nat.le_refl _, by omega, by omega, HLL.out⟩, g3, g4, g5, g1, gb⟩)
  generalize (((((w.alloc (byBox (.slice A n c))).alloc (ptsObj 0 0 (.slice none 0 0) (.slice none 0 0) (.slice none 0 0) (.slice none 0 0) (.slice none 0 0))).alloc (okBox true)).alloc (tiBox w.heap.size (w.heap.size + 1 + 1))).alloc (liBox (w.heap.size + 1 + 1 + 1) (w.heap.size + 1 + 1))).alloc (ptsObj 0 0 (.slice none 0 0) (.slice none 0 0) (.slice none 0 0) (.slice none 0 0) (.slice none 0 0)) = w1 at *
  clear hA
  obtain ⟨cl, ct, co⟩ := HS.out.cells
  have HC := Lib.hid (show Calls Tryz.prog 25 #[.string ⟨#[115, 110, 97, 112, 115, 104, 111, 116]⟩, .pointer (some ⟨w.heap.size + 1 + 1 + 1, 0, none⟩), .pointer (some ⟨w.heap.size + 1 + 1, 0, none⟩)] w1 (fun e W' => e = .returned (.int .i64 D.off) ∧ RdSt w (sn1 l) 0 0 (.slice none 0 0) (.slice none 0 0) (.slice none 0 0) (.slice none 0 0) (.slice none 0 0) W' ∧ SbK w w1 W') from by rw [HOFF.out]; exact RdSt.line HS.out wSnap (by decide) HE.out)
  go_wp2_with fail
  with_reducible refine HC.out.mono ?_
  rintro r w2 ⟨rfl, hs, _⟩
  clear HC HS cl ct co HOFF
  have HS := Lib.hid hs
  clear hs
  obtain ⟨cl, ct, co⟩ := HS.out.cells
  have HC1 := Lib.hid (show ∀ W, RdSt w (sn1 l) 0 0 (.slice none 0 0) (.slice none 0 0) (.slice none 0 0) (.slice none 0 0) (.slice none 0 0) W → Calls Tryz.prog 25 #[.string ⟨#[115, 108, 97, 99, 107]⟩, .pointer (some ⟨w.heap.size + 1 + 1 + 1, 0, none⟩), .pointer (some ⟨w.heap.size + 1 + 1, 0, none⟩)] W (fun e W' => e = .returned (.int .i64 D.slack) ∧ RdSt w (sn2 l) 0 0 (.slice none 0 0) (.slice none 0 0) (.slice none 0 0) (.slice none 0 0) (.slice none 0 0) W' ∧ SbK w W W') from fun W h => by rw [HSL.out]; exact RdSt.line h wSlack (by decide) HE.out)
  have HC2 := Lib.hid (show ∀ W, RdSt w (sn2 l) 0 0 (.slice none 0 0) (.slice none 0 0) (.slice none 0 0) (.slice none 0 0) (.slice none 0 0) W → Calls Tryz.prog 25 #[.string ⟨#[105, 100, 108, 101]⟩, .pointer (some ⟨w.heap.size + 1 + 1 + 1, 0, none⟩), .pointer (some ⟨w.heap.size + 1 + 1, 0, none⟩)] W (fun e W' => e = .returned (.int .i64 D.idle) ∧ RdSt w (sn3 l) 0 0 (.slice none 0 0) (.slice none 0 0) (.slice none 0 0) (.slice none 0 0) (.slice none 0 0) W' ∧ SbK w W W') from fun W h => by rw [HID.out]; exact RdSt.line h wIdle (by decide) HE.out)
  go_upto_region 8 with fail
  go_cut [] (fun wc => RdSt w (sn3 l) D.slack D.idle (.slice none 0 0) (.slice none 0 0) (.slice none 0 0) (.slice none 0 0) (.slice none 0 0) wc)
  case first =>
    have HSD := Lib.hid (show RdSt w (sn1 l) 0 0 (.slice none 0 0) (.slice none 0 0) (.slice none 0 0) (.slice none 0 0) (.slice none 0 0) w2.drew from HS.out.up (below_drewN (Below.refl _ _) 1))
    go_region_law (first | (go_simp; go_at_call 25; (with_reducible refine (HC1.out _ HSD.out).mono ?_); rintro r w3 ⟨rfl, hs3, _⟩; have HS3 := Lib.hid hs3; clear cl ct co; obtain ⟨cl, ct, co⟩ := HS3.out.cells; clear hs3) | (go_simp; go_at_call 25; (with_reducible refine (HC2.out _ HS3.out).mono ?_); rintro r w4 ⟨rfl, hs4, _⟩; have HS4 := Lib.hid hs4; have p0 := cell_of_row w4 _ 0 _ _ (0, 0) HS4.out.pb; have z0 := frozen_of_row w4 _ 0 _ _ HS4.out.pb; have p1 := cell_of_row (w4.setCell ⟨w.heap.size + 1 + 1 + 1 + 1 + 1, 0, none⟩ (.int .i64 D.slack)) _ 1 _ _ (0, 0) (heap_set_row HS4.out.pb); have z1 := frozen_of_row (w4.setCell ⟨w.heap.size + 1 + 1 + 1 + 1 + 1, 0, none⟩ (.int .i64 D.slack)) _ 1 _ _ (heap_set_row HS4.out.pb); clear cl ct co hs4))
    all_goals
      have HF := Lib.hid (RdSt.set (a' := D.slack) (b' := D.idle) (vc' := .slice none 0 0) (vh' := .slice none 0 0) (vt' := .slice none 0 0) (vl' := .slice none 0 0) (vg' := .slice none 0 0) (RdSt.set (a' := D.slack) (b' := 0) (vc' := .slice none 0 0) (vh' := .slice none 0 0) (vt' := .slice none 0 0) (vl' := .slice none 0 0) (vg' := .slice none 0 0) HS4.out 0 (.int .i64 D.slack) rfl) 1 (.int .i64 D.idle) rfl)
      clear p0 z0 p1 z1
      go_wp2
      go_meet
      exact HF.out
  case rest =>
  clear HC1 HC2 HS cl ct co HSL HID
  have HS := Lib.hid hcut
  clear hcut
  generalize wc = w5 at *
  go_wp2_with fail
  have HC := Lib.hid (show Calls Tryz.prog 28 #[.string ⟨#[99, 108, 111, 99, 107]⟩, .pointer (some ⟨w.heap.size + 1 + 1 + 1 + 1, 0, none⟩), .pointer (some ⟨w.heap.size, 0, none⟩), .pointer (some ⟨w.heap.size + 1 + 1, 0, none⟩)] w5 (fun e W' => ∃ A n c, e = .returned (.slice A n c) ∧ Byt W' w.heap.size A n c D.clk ∧ RdSt w (sn4 l) D.slack D.idle (.slice none 0 0) (.slice none 0 0) (.slice none 0 0) (.slice none 0 0) (.slice none 0 0) W' ∧ SbK w w5 W') from by rw [HCK.out]; exact HS.out.some_ wClock (by decide) HE.out)
  with_reducible refine HC.out.mono ?_
  rintro r w6 ⟨Ac, nc, kc, rfl, hb6, hs6, hk6⟩
  have HBC := Lib.hid hb6
  clear HC HS HCK hk6
  have HS := Lib.hid hs6
  clear hb6 hs6
  have HC := Lib.hid (show Calls Tryz.prog 28 #[.string ⟨#[104, 97, 100]⟩, .pointer (some ⟨w.heap.size + 1 + 1 + 1 + 1, 0, none⟩), .pointer (some ⟨w.heap.size, 0, none⟩), .pointer (some ⟨w.heap.size + 1 + 1, 0, none⟩)] w6 (fun e W' => ∃ A n c, e = .returned (.slice A n c) ∧ Byt W' w.heap.size A n c D.had ∧ RdSt w (sn5 l) D.slack D.idle (.slice none 0 0) (.slice none 0 0) (.slice none 0 0) (.slice none 0 0) (.slice none 0 0) W' ∧ SbK w w6 W') from by rw [HHD.out]; exact HS.out.some_ wHad (by decide) HE.out)
  go_wp2_with fail
  with_reducible refine HC.out.mono ?_
  rintro r w7 ⟨Ah, nh, kh, rfl, hb7, hs7, hk7⟩
  have HBH := Lib.hid hb7
  have HBC7 := Lib.hid (HBC.out.below (SbK.bel hk7 HS.out.bel.size))
  clear HC HS HHD hk7 HBC
  have HS := Lib.hid hs7
  clear hb7 hs7
  have p2 := cell_of_row w7 _ 2 _ _ (0, 0) HS.out.pb
  have z2 := frozen_of_row w7 _ 2 _ _ HS.out.pb
  have p3 := cell_of_row (w7.setCell ⟨w.heap.size + 1 + 1 + 1 + 1 + 1, 2, none⟩ (.slice Ac nc kc)) _ 3 _ _ (0, 0) (heap_set_row HS.out.pb)
  have z3 := frozen_of_row (w7.setCell ⟨w.heap.size + 1 + 1 + 1 + 1 + 1, 2, none⟩ (.slice Ac nc kc)) _ 3 _ _ (heap_set_row HS.out.pb)
  go_upto_region 10 with fail
  have HS8 := Lib.hid (RdSt.set (a' := D.slack) (b' := D.idle) (vc' := .slice Ac nc kc) (vh' := .slice Ah nh kh) (vt' := .slice none 0 0) (vl' := .slice none 0 0) (vg' := .slice none 0 0) (RdSt.set (a' := D.slack) (b' := D.idle) (vc' := .slice Ac nc kc) (vh' := .slice none 0 0) (vt' := .slice none 0 0) (vl' := .slice none 0 0) (vg' := .slice none 0 0) HS.out 2 (.slice Ac nc kc) rfl) 3 (.slice Ah nh kh) rfl)
  have HBC8 := Lib.hid ((HBC7.out.setCell (p := ⟨w.heap.size + 1 + 1 + 1 + 1 + 1, 2, none⟩) (by show w.heap.size ≤ w.heap.size + 1 + 1 + 1 + 1 + 1; omega) (.slice Ac nc kc)).setCell (p := ⟨w.heap.size + 1 + 1 + 1 + 1 + 1, 3, none⟩) (by show w.heap.size ≤ w.heap.size + 1 + 1 + 1 + 1 + 1; omega) (.slice Ah nh kh))
  have HBH8 := Lib.hid ((HBH.out.setCell (p := ⟨w.heap.size + 1 + 1 + 1 + 1 + 1, 2, none⟩) (by show w.heap.size ≤ w.heap.size + 1 + 1 + 1 + 1 + 1; omega) (.slice Ac nc kc)).setCell (p := ⟨w.heap.size + 1 + 1 + 1 + 1 + 1, 3, none⟩) (by show w.heap.size ≤ w.heap.size + 1 + 1 + 1 + 1 + 1; omega) (.slice Ah nh kh))
  clear p2 z2 p3 z3 HS HBC7 HBH
  generalize (w7.setCell ⟨w.heap.size + 1 + 1 + 1 + 1 + 1, 2, none⟩ (.slice Ac nc kc)).setCell ⟨w.heap.size + 1 + 1 + 1 + 1 + 1, 3, none⟩ (.slice Ah nh kh) = w8 at *
  have HC := Lib.hid (show Calls Tryz.prog 29 #[.string ⟨#[116, 97, 107, 101, 110]⟩, .pointer (some ⟨w.heap.size + 1 + 1 + 1 + 1, 0, none⟩), .pointer (some ⟨w.heap.size, 0, none⟩), .pointer (some ⟨w.heap.size + 1 + 1, 0, none⟩)] w8 (fun e W' => ∃ A n c, e = .returned (.slice A n c) ∧ OwnE W' (w.heap.size + 6) (.slice A n c) D.tk ∧ RdSt w (sn6 l) D.slack D.idle (.slice Ac nc kc) (.slice Ah nh kh) (.slice none 0 0) (.slice none 0 0) (.slice none 0 0) W' ∧ SbK w w8 W') from by rw [HTK.out]; exact HS8.out.evs wTaken (by decide) HE.out HM.out)
  go_wp2_with fail
  with_reducible refine HC.out.mono ?_
  rintro r w9 ⟨At, nt, kt, rfl, hb9, hs9, hk9⟩
  have HBT := Lib.hid hb9
  have HBC9 := Lib.hid (HBC8.out.below (SbK.bel hk9 HS8.out.bel.size)); have HBH9 := Lib.hid (HBH8.out.below (SbK.bel hk9 HS8.out.bel.size))
  clear HC HS8 HTK hk9 HBC8 HBH8
  have HS := Lib.hid hs9
  clear hb9 hs9
  have HC := Lib.hid (show Calls Tryz.prog 29 #[.string ⟨#[108, 97, 116, 101]⟩, .pointer (some ⟨w.heap.size + 1 + 1 + 1 + 1, 0, none⟩), .pointer (some ⟨w.heap.size, 0, none⟩), .pointer (some ⟨w.heap.size + 1 + 1, 0, none⟩)] w9 (fun e W' => ∃ A n c, e = .returned (.slice A n c) ∧ OwnE W' (w.heap.size + 6) (.slice A n c) D.lt ∧ RdSt w (sn7 l) D.slack D.idle (.slice Ac nc kc) (.slice Ah nh kh) (.slice none 0 0) (.slice none 0 0) (.slice none 0 0) W' ∧ SbK w w9 W') from by rw [HLT.out]; exact HS.out.evs wLate (by decide) HE.out HM.out)
  go_wp2_with fail
  with_reducible refine HC.out.mono ?_
  rintro r w10 ⟨Al, nl, kl, rfl, hb10, hs10, hk10⟩
  have HBL := Lib.hid hb10
  have HBC10 := Lib.hid (HBC9.out.below (SbK.bel hk10 HS.out.bel.size)); have HBH10 := Lib.hid (HBH9.out.below (SbK.bel hk10 HS.out.bel.size))
  have HBT10 := Lib.hid (own_sbk HBT.out hk10)
  clear HC HS HLT hk10 HBC9 HBH9 HBT
  have HS := Lib.hid hs10
  clear hb10 hs10
  have p4 := cell_of_row w10 _ 4 _ _ (0, 0) HS.out.pb
  have z4 := frozen_of_row w10 _ 4 _ _ HS.out.pb
  have p5 := cell_of_row (w10.setCell ⟨w.heap.size + 1 + 1 + 1 + 1 + 1, 4, none⟩ (.slice At nt kt)) _ 5 _ _ (0, 0) (heap_set_row HS.out.pb)
  have z5 := frozen_of_row (w10.setCell ⟨w.heap.size + 1 + 1 + 1 + 1 + 1, 4, none⟩ (.slice At nt kt)) _ 5 _ _ (heap_set_row HS.out.pb)
  go_upto_region 11 with fail
  have HS11 := Lib.hid (RdSt.set (a' := D.slack) (b' := D.idle) (vc' := .slice Ac nc kc) (vh' := .slice Ah nh kh) (vt' := .slice At nt kt) (vl' := .slice Al nl kl) (vg' := .slice none 0 0) (RdSt.set (a' := D.slack) (b' := D.idle) (vc' := .slice Ac nc kc) (vh' := .slice Ah nh kh) (vt' := .slice At nt kt) (vl' := .slice none 0 0) (vg' := .slice none 0 0) HS.out 4 (.slice At nt kt) rfl) 5 (.slice Al nl kl) rfl)
  have HBC11 := Lib.hid ((HBC10.out.setCell (p := ⟨w.heap.size + 1 + 1 + 1 + 1 + 1, 4, none⟩) (by show w.heap.size ≤ w.heap.size + 1 + 1 + 1 + 1 + 1; omega) (.slice At nt kt)).setCell (p := ⟨w.heap.size + 1 + 1 + 1 + 1 + 1, 5, none⟩) (by show w.heap.size ≤ w.heap.size + 1 + 1 + 1 + 1 + 1; omega) (.slice Al nl kl))
  have HBH11 := Lib.hid ((HBH10.out.setCell (p := ⟨w.heap.size + 1 + 1 + 1 + 1 + 1, 4, none⟩) (by show w.heap.size ≤ w.heap.size + 1 + 1 + 1 + 1 + 1; omega) (.slice At nt kt)).setCell (p := ⟨w.heap.size + 1 + 1 + 1 + 1 + 1, 5, none⟩) (by show w.heap.size ≤ w.heap.size + 1 + 1 + 1 + 1 + 1; omega) (.slice Al nl kl))
  have HBT11 := Lib.hid (show OwnE ((w10.setCell ⟨w.heap.size + 1 + 1 + 1 + 1 + 1, 4, none⟩ (.slice At nt kt)).setCell ⟨w.heap.size + 1 + 1 + 1 + 1 + 1, 5, none⟩ (.slice Al nl kl)) (w.heap.size + 6) (.slice At nt kt) D.tk from own_set (own_set HBT10.out (p := ⟨w.heap.size + 1 + 1 + 1 + 1 + 1, 4, none⟩) (by show w.heap.size + 1 + 1 + 1 + 1 + 1 < _; omega) _) (p := ⟨w.heap.size + 1 + 1 + 1 + 1 + 1, 5, none⟩) (by show w.heap.size + 1 + 1 + 1 + 1 + 1 < _; omega) _)
  have HBL11 := Lib.hid (show OwnE ((w10.setCell ⟨w.heap.size + 1 + 1 + 1 + 1 + 1, 4, none⟩ (.slice At nt kt)).setCell ⟨w.heap.size + 1 + 1 + 1 + 1 + 1, 5, none⟩ (.slice Al nl kl)) (w.heap.size + 6) (.slice Al nl kl) D.lt from own_set (own_set HBL.out (p := ⟨w.heap.size + 1 + 1 + 1 + 1 + 1, 4, none⟩) (by show w.heap.size + 1 + 1 + 1 + 1 + 1 < _; omega) _) (p := ⟨w.heap.size + 1 + 1 + 1 + 1 + 1, 5, none⟩) (by show w.heap.size + 1 + 1 + 1 + 1 + 1 < _; omega) _)
  clear p4 z4 p5 z5 HS HBC10 HBH10 HBT10 HBL
  generalize (w10.setCell ⟨w.heap.size + 1 + 1 + 1 + 1 + 1, 4, none⟩ (.slice At nt kt)).setCell ⟨w.heap.size + 1 + 1 + 1 + 1 + 1, 5, none⟩ (.slice Al nl kl) = w11 at *
  obtain ⟨N, hN⟩ : ∃ N : Nat, linV wGone (sn7 l) = N := ⟨(linV wGone (sn7 l)).toNat, by have := linV_nn wGone (sn7 l); omega⟩
  have hNx : N ≤ 9223372036854775807 := by have := linV_le wGone (sn7 l); omega
  have HS9 := Lib.hid (show sn9 l = gonR N (sn8 l) [] by unfold sn9; rw [hN, Int.toNat_natCast])
  rw [HS9.out] at HGN HOK
  have HC := Lib.hid (show Calls Tryz.prog 25 #[.string ⟨#[103, 111, 110, 101]⟩, .pointer (some ⟨w.heap.size + 1 + 1 + 1, 0, none⟩), .pointer (some ⟨w.heap.size + 1 + 1, 0, none⟩)] w11 (fun e W' => e = .returned (.int .i64 (N : Int)) ∧ RdSt w (sn8 l) D.slack D.idle (.slice Ac nc kc) (.slice Ah nh kh) (.slice At nt kt) (.slice Al nl kl) (.slice none 0 0) W' ∧ SbK w w11 W') from by rw [← hN]; exact HS11.out.line wGone (by decide) HE.out)
  obtain ⟨cl, ct, co⟩ := HS11.out.cells
  clear hN HS9
  go_wp2_with fail
  with_reducible refine HC.out.mono ?_
  rintro r w12 ⟨rfl, hs12, hk12⟩
  have HR0 := Lib.hid (show SgnRel w N (sn8 l) D.slack D.idle (.slice Ac nc kc) (.slice Ah nh kh) (.slice At nt kt) (.slice Al nl kl) D.clk D.had D.tk D.lt (.int .i64 ((0 : Nat) : Int)) w12 from ⟨0, sn8 l, [], .slice none 0 0, rfl, Nat.zero_le _, hs12, World.ownsRow_nil _ _ _ _, ⟨own_sbk HBT11.out hk12, own_sbk HBL11.out hk12, ⟨Ac, nc, kc, rfl, HBC11.out.below (SbK.bel hk12 HS11.out.bel.size)⟩, ⟨Ah, nh, kh, rfl, HBH11.out.below (SbK.bel hk12 HS11.out.bel.size)⟩⟩, ⟨fun _ => by simp, by simp⟩, rfl⟩)
  have HNB := Lib.hid (show (sn8 l).b.length ≤ 1000000000 from hs12.sb.num)
  clear HC hs12 hk12 HS11 HBC11 HBH11 HBT11 HBL11 cl ct co
  generalize sn8 l = s8 at *
  obtain ⟨i1, hi0, hz0, hz1, hz2⟩ := info_parts str_info
  have HSF := Lib.hid hi0; have HS0 := Lib.hid hz0; have HS1 := Lib.hid hz1; have HS2 := Lib.hid hz2
  clear hi0 hz0 hz1 hz2
  go_wp2
  go_loopw [38] (fun i wr => SgnRel w N s8 D.slack D.idle (.slice Ac nc kc) (.slice Ah nh kh) (.slice At nt kt) (.slice Al nl kl) D.clk D.had D.tk D.lt i wr) (fun i _ => N - (intOf i).toNat)
  case atStart => exact HR0.out
  case round =>
    obtain ⟨k, cur, L, vg, rfl, hk, hs, hvg, hrows, hlen, hgo⟩ := hrel
    have HS := Lib.hid hs; have HVG := Lib.hid hvg; have HRW := Lib.hid hrows; have HGO := Lib.hid hgo
    obtain ⟨Ag, kg, rfl⟩ := ownsRow_form hvg
    obtain ⟨cl, ct, co⟩ := hs.cells
    clear hs hvg hrows hgo HR0
    by_cases hgo2 : k < N ∧ cur.ok = true
    · obtain ⟨hkN, hok⟩ := hgo2
      have t1 : (k : Int) < N := by omega
      obtain ⟨q, hq⟩ : ∃ q, N - k = q + 1 := ⟨N - k - 1, by omega⟩
      have hgo := HGO.out
      rw [hq] at hgo
      simp only [gonR] at hgo
      rw [hok] at hgo co
      simp only [if_true] at hgo
      have HTI := Lib.hid (show RdSt w cur D.slack D.idle (.slice Ac nc kc) (.slice Ah nh kh) (.slice At nt kt) (.slice Al nl kl) (.slice Ag L.length kg) wr.drew from HS.out.up (below_drewN (Below.refl _ _) 1)).till
      have HVD := Lib.hid (show wr.drew.ownsRow (w.heap.size + 6) 9 1 (.slice Ag L.length kg) L.length (L.map encStr) from ownsRow_below HVG.out (below_drewN (Below.refl _ _) 1) (Nat.le_refl _))
      have hl1 := hlen.1 hok
      have HLB := Lib.hid (show L.length ≤ 1000000000 from by have := HNB.out; omega)
      have p6 := cell_of_row wr _ 6 _ _ (0, 0) HS.out.pb
      have HREL := Lib.hid (show ∀ W A2 k2, RdSt w (tilS cur) D.slack D.idle (.slice Ac nc kc) (.slice Ah nh kh) (.slice At nt kt) (.slice Al nl kl) (.slice A2 (L.length + 1) k2) W → W.ownsRow (w.heap.size + 6) 9 1 (.slice A2 (L.length + 1) k2) (L ++ [tilV cur]).length ((L ++ [tilV cur]).map encStr) → SgnRows w W (.slice Ac nc kc) (.slice Ah nh kh) (.slice At nt kt) (.slice Al nl kl) D.clk D.had D.tk D.lt → SgnRel w N s8 D.slack D.idle (.slice Ac nc kc) (.slice Ah nh kh) (.slice At nt kt) (.slice Al nl kl) D.clk D.had D.tk D.lt (.int .i64 ((k : Int) + 1)) W from fun W A2 k2 q1 q2 q3 =>
        ⟨k + 1, tilS cur, L ++ [tilV cur], _, rfl, hkN, q1, q2, q3, tilS_inv hok hl1, by rw [show N - (k + 1) = q by omega]; exact hgo⟩)
      go_upto_region 14 with fail
      go_region_law (first | (go_simp; go_at_call 23; (with_reducible refine HTI.out.mono ?_); rintro r w14 ⟨rfl, hs14, hk14⟩; have HS14 := Lib.hid hs14; have HV14 := Lib.hid (own_sbk HVD.out hk14); have p6 := cell_of_row w14 _ 6 _ _ (0, 0) HS14.out.pb; have p6c : (w14.alloc (.cells #[.string ⟨(tilV cur).toArray⟩] 9)).cell? ⟨w.heap.size + 1 + 1 + 1 + 1 + 1, 6, none⟩ = some (.slice Ag L.length kg) := cell_of_row _ _ 6 _ _ (0, 0) ((heap_alloc_old _ _ (by have := HS14.out.lt; omega)).trans HS14.out.pb); have HW14 := Lib.hid (SgnRows.sbk (SgnRows.sbk HRW.out (SbKeep.below (below_drewN (Below.refl _ _) 1)) HS.out.bel.size) hk14 HS.out.bel.size); clear hs14 hk14) | (refine step_app rfl (.tmp 43) (.tmp 46) 28 rfl 9 i1 _ 1 16 Tryz.underlying28 HSF.out HS0.out HS1.out HS2.out rfl (by decide) (w.heap.size + 6) (.slice Ag L.length kg) L.length (L.map encStr) rfl (World.ownsRow.alloc HV14.out _) (w14.heap.size + 1) _ _ _ [encStr (tilV cur)] rfl (Cel.new w14 _ _ (by unfold maxLen; omega) rfl) (by intro u hu; simp at hu; subst hu; rfl) (by unfold maxLen; have := HLB.out; omega) (by have := HLB.out; omega) (by have := HS14.out.lt; simp; omega) ?_; intro v15 w15 ho15 hg15 hv15; obtain ⟨A2, k2, hv2⟩ : ∃ A k, v15 = .slice A (L.length + 1) k := (by obtain ⟨A, k, h⟩ := ownsRow_form ho15; exact ⟨A, k, h⟩); subst hv2; have ho16 : w15.ownsRow (w.heap.size + 6) 9 1 (.slice A2 (L.length + 1) k2) (L ++ [tilV cur]).length ((L ++ [tilV cur]).map encStr) := (by rw [List.length_append, List.map_append]; exact ho15); obtain ⟨hs15, hr15⟩ := rg_app HS14.out HV14.out HW14.out hg15; have p6b := cell_of_row w15 _ 6 _ _ (0, 0) hs15.pb; have z6b := frozen_of_row w15 _ 6 _ _ hs15.pb; have HF := Lib.hid (HREL.out _ A2 k2 (RdSt.set (a' := D.slack) (b' := D.idle) (vc' := .slice Ac nc kc) (vh' := .slice Ah nh kh) (vt' := .slice At nt kt) (vl' := .slice Al nl kl) (vg' := .slice A2 (L.length + 1) k2) hs15 6 (.slice A2 (L.length + 1) k2) rfl) (own_set ho16 (p := ⟨w.heap.size + 1 + 1 + 1 + 1 + 1, 6, none⟩) (by show w.heap.size + 1 + 1 + 1 + 1 + 1 < _; omega) _) (hr15.set 6 _)); clear ho15 ho16 hg15 hv15 hs15 hr15))
      all_goals
        clear p6b z6b
        go_wp2
        go_roundw
        case rel => exact HF.out
        case measure => simp [intOf]; omega
    · have HEND := Lib.hid (show gonR N s8 [] = (L, cur) from by
        have h9 := HGO.out
        by_cases hkN : k < N
        · have hok : cur.ok = false := by
            cases h : cur.ok
            · rfl
            · exact absurd ⟨hkN, h⟩ hgo2
          obtain ⟨q, hq⟩ : ∃ q, N - k = q + 1 := ⟨N - k - 1, by omega⟩
          rw [hq] at h9
          simp only [gonR] at h9
          rw [hok] at h9
          rw [← h9]; rfl
        · rw [show N - k = 0 by omega] at h9
          exact h9.symm)
      have HGL := Lib.hid (show D.gn = L by rw [HGN.out, HEND.out])
      have HOK2 := Lib.hid (show D.ok = (cur.ok && cur.b.isEmpty) by rw [HOK.out, HEND.out])
      obtain ⟨Ab, nb, kb, hbx, hby, _⟩ := HS.out.sb.b
      have cb : wr.cell? ⟨w.heap.size, 0, none⟩ = some (.slice Ab nb kb) := (cell_of_row wr _ 0 _ _ (0, 0) hbx).trans rfl
      have HBL := Lib.hid hby.len
      clear hbx hby HEND HGN HOK
      have hdec : (k < N ∧ cur.ok = false) ∨ (¬ k < N ∧ cur.ok = false) ∨ (¬ k < N ∧ cur.ok = true) := by
        cases h : cur.ok
        · by_cases hkN : k < N
          · exact .inl ⟨hkN, rfl⟩
          · exact .inr (.inl ⟨hkN, rfl⟩)
        · exact .inr (.inr ⟨fun hkN => hgo2 ⟨hkN, h⟩, rfl⟩)
      rcases hdec with ⟨hkN, hok⟩ | ⟨hkN, hok⟩ | ⟨hkN, hok⟩
      · have t1 : (k : Int) < N := by omega
        rw [hok] at co
        have HOKV := Lib.hid (show D.ok = false by rw [HOK2.out, hok]; rfl)
        clear hok hgo2
        go_upto_region 16 with fail
        have HPS := Lib.hid (pts_store D.slack D.idle (.slice Ac nc kc) (.slice Ah nh kh) (.slice At nt kt) (.slice Al nl kl) (.slice Ag L.length kg) HS.out.rb)
        have HKP := Lib.hid (pts_store_keep (W := wr) (t := w.heap.size + 1) D.slack D.idle (.slice Ac nc kc) (.slice Ah nh kh) (.slice At nt kt) (.slice Al nl kl) (.slice Ag L.length kg))
        generalize hww : (((((((wr).setCell ⟨w.heap.size + 1, 0, none⟩ (.int .i64 D.slack)).setCell ⟨w.heap.size + 1, 1, none⟩ (.int .i64 D.idle)).setCell ⟨w.heap.size + 1, 2, none⟩ (.slice Ac nc kc)).setCell ⟨w.heap.size + 1, 3, none⟩ (.slice Ah nh kh)).setCell ⟨w.heap.size + 1, 4, none⟩ (.slice At nt kt)).setCell ⟨w.heap.size + 1, 5, none⟩ (.slice Al nl kl)).setCell ⟨w.heap.size + 1, 6, none⟩ (.slice Ag L.length kg) = ww at HPS HKP
        have p0 := cell_of_row wr _ 0 _ _ (0, 0) HS.out.pb
        have c0 := cell_of_row wr _ 0 _ _ (0, 0) HS.out.rb
        have z0 := frozen_of_row wr _ 0 _ _ HS.out.rb
        have p1 := cell_of_row wr _ 1 _ _ (0, 0) HS.out.pb
        have c1 := cell_of_row wr _ 1 _ _ (0, 0) HS.out.rb
        have z1 := frozen_of_row wr _ 1 _ _ HS.out.rb
        have p2 := cell_of_row wr _ 2 _ _ (0, 0) HS.out.pb
        have c2 := cell_of_row wr _ 2 _ _ (0, 0) HS.out.rb
        have z2 := frozen_of_row wr _ 2 _ _ HS.out.rb
        have p3 := cell_of_row wr _ 3 _ _ (0, 0) HS.out.pb
        have c3 := cell_of_row wr _ 3 _ _ (0, 0) HS.out.rb
        have z3 := frozen_of_row wr _ 3 _ _ HS.out.rb
        have p4 := cell_of_row wr _ 4 _ _ (0, 0) HS.out.pb
        have c4 := cell_of_row wr _ 4 _ _ (0, 0) HS.out.rb
        have z4 := frozen_of_row wr _ 4 _ _ HS.out.rb
        have p5 := cell_of_row wr _ 5 _ _ (0, 0) HS.out.pb
        have c5 := cell_of_row wr _ 5 _ _ (0, 0) HS.out.rb
        have z5 := frozen_of_row wr _ 5 _ _ HS.out.rb
        have p6 := cell_of_row wr _ 6 _ _ (0, 0) HS.out.pb
        have c6 := cell_of_row wr _ 6 _ _ (0, 0) HS.out.rb
        have z6 := frozen_of_row wr _ 6 _ _ HS.out.rb
        have s0 : ww.drew.cell? ⟨w.heap.size + 1, 0, none⟩ = some (.int .i64 D.slack) := cell_of_row ww.drew _ 0 _ _ (0, 0) (show ww.drew.heap[w.heap.size + 1]? = _ from HPS.out)
        have s1 : ww.drew.cell? ⟨w.heap.size + 1, 1, none⟩ = some (.int .i64 D.idle) := cell_of_row ww.drew _ 1 _ _ (0, 0) (show ww.drew.heap[w.heap.size + 1]? = _ from HPS.out)
        have s2 : ww.drew.cell? ⟨w.heap.size + 1, 2, none⟩ = some (.slice Ac nc kc) := cell_of_row ww.drew _ 2 _ _ (0, 0) (show ww.drew.heap[w.heap.size + 1]? = _ from HPS.out)
        have s3 : ww.drew.cell? ⟨w.heap.size + 1, 3, none⟩ = some (.slice Ah nh kh) := cell_of_row ww.drew _ 3 _ _ (0, 0) (show ww.drew.heap[w.heap.size + 1]? = _ from HPS.out)
        have s4 : ww.drew.cell? ⟨w.heap.size + 1, 4, none⟩ = some (.slice At nt kt) := cell_of_row ww.drew _ 4 _ _ (0, 0) (show ww.drew.heap[w.heap.size + 1]? = _ from HPS.out)
        have s5 : ww.drew.cell? ⟨w.heap.size + 1, 5, none⟩ = some (.slice Al nl kl) := cell_of_row ww.drew _ 5 _ _ (0, 0) (show ww.drew.heap[w.heap.size + 1]? = _ from HPS.out)
        have s6 : ww.drew.cell? ⟨w.heap.size + 1, 6, none⟩ = some (.slice Ag L.length kg) := cell_of_row ww.drew _ 6 _ _ (0, 0) (show ww.drew.heap[w.heap.size + 1]? = _ from HPS.out)
        have HF := Lib.hid (HRO.out ww.drew Ac nc kc Ah nh kh At nt kt Al nl kl Ag L.length kg)
        have HQ := Lib.hid (rd_fin HS.out HVG.out HRW.out (show Keep (fun q => q = w.heap.size + 1) wr ww.drew from HKP.out.drewN 1))
        have HW := Lib.hid hww
        clear hww
        go_region_law (fail)
        all_goals
          clear p0 c0 z0 p1 c1 z1 p2 c2 z2 p3 c3 z3 p4 c4 z4 p5 c5 z5 p6 c6 z6 cb co
          rw [HW.out]
          clear HW
          go_wp2
          exact bodyPost_ret (v := .tuple #[ptsAgg D.slack D.idle (.slice Ac nc kc) (.slice Ah nh kh) (.slice At nt kt) (.slice Al nl kl) (.slice Ag L.length kg), .int .i64 D.off, .bool false]) (by simp [results, Tryz.results11, go_sem, s0, s1, s2, s3, s4, s5, s6, ptsAgg]) rfl (by
            have h9 := HF.out
            rw [HOKV.out] at h9
            obtain ⟨q1, q2, q3, q4, q5, q6⟩ := HQ.out
            exact h9 q1 q2 q3 q4 (by rw [HGL.out]; exact q5) q6)
      · have t1 : ¬ (k : Int) < N := by omega
        rw [hok] at co
        have HOKV := Lib.hid (show D.ok = false by rw [HOK2.out, hok]; rfl)
        clear hok hgo2
        go_upto_region 16 with fail
        have HPS := Lib.hid (pts_store D.slack D.idle (.slice Ac nc kc) (.slice Ah nh kh) (.slice At nt kt) (.slice Al nl kl) (.slice Ag L.length kg) HS.out.rb)
        have HKP := Lib.hid (pts_store_keep (W := wr) (t := w.heap.size + 1) D.slack D.idle (.slice Ac nc kc) (.slice Ah nh kh) (.slice At nt kt) (.slice Al nl kl) (.slice Ag L.length kg))
        generalize hww : (((((((wr).setCell ⟨w.heap.size + 1, 0, none⟩ (.int .i64 D.slack)).setCell ⟨w.heap.size + 1, 1, none⟩ (.int .i64 D.idle)).setCell ⟨w.heap.size + 1, 2, none⟩ (.slice Ac nc kc)).setCell ⟨w.heap.size + 1, 3, none⟩ (.slice Ah nh kh)).setCell ⟨w.heap.size + 1, 4, none⟩ (.slice At nt kt)).setCell ⟨w.heap.size + 1, 5, none⟩ (.slice Al nl kl)).setCell ⟨w.heap.size + 1, 6, none⟩ (.slice Ag L.length kg) = ww at HPS HKP
        have p0 := cell_of_row wr _ 0 _ _ (0, 0) HS.out.pb
        have c0 := cell_of_row wr _ 0 _ _ (0, 0) HS.out.rb
        have z0 := frozen_of_row wr _ 0 _ _ HS.out.rb
        have p1 := cell_of_row wr _ 1 _ _ (0, 0) HS.out.pb
        have c1 := cell_of_row wr _ 1 _ _ (0, 0) HS.out.rb
        have z1 := frozen_of_row wr _ 1 _ _ HS.out.rb
        have p2 := cell_of_row wr _ 2 _ _ (0, 0) HS.out.pb
        have c2 := cell_of_row wr _ 2 _ _ (0, 0) HS.out.rb
        have z2 := frozen_of_row wr _ 2 _ _ HS.out.rb
        have p3 := cell_of_row wr _ 3 _ _ (0, 0) HS.out.pb
        have c3 := cell_of_row wr _ 3 _ _ (0, 0) HS.out.rb
        have z3 := frozen_of_row wr _ 3 _ _ HS.out.rb
        have p4 := cell_of_row wr _ 4 _ _ (0, 0) HS.out.pb
        have c4 := cell_of_row wr _ 4 _ _ (0, 0) HS.out.rb
        have z4 := frozen_of_row wr _ 4 _ _ HS.out.rb
        have p5 := cell_of_row wr _ 5 _ _ (0, 0) HS.out.pb
        have c5 := cell_of_row wr _ 5 _ _ (0, 0) HS.out.rb
        have z5 := frozen_of_row wr _ 5 _ _ HS.out.rb
        have p6 := cell_of_row wr _ 6 _ _ (0, 0) HS.out.pb
        have c6 := cell_of_row wr _ 6 _ _ (0, 0) HS.out.rb
        have z6 := frozen_of_row wr _ 6 _ _ HS.out.rb
        have s0 : ww.drew.cell? ⟨w.heap.size + 1, 0, none⟩ = some (.int .i64 D.slack) := cell_of_row ww.drew _ 0 _ _ (0, 0) (show ww.drew.heap[w.heap.size + 1]? = _ from HPS.out)
        have s1 : ww.drew.cell? ⟨w.heap.size + 1, 1, none⟩ = some (.int .i64 D.idle) := cell_of_row ww.drew _ 1 _ _ (0, 0) (show ww.drew.heap[w.heap.size + 1]? = _ from HPS.out)
        have s2 : ww.drew.cell? ⟨w.heap.size + 1, 2, none⟩ = some (.slice Ac nc kc) := cell_of_row ww.drew _ 2 _ _ (0, 0) (show ww.drew.heap[w.heap.size + 1]? = _ from HPS.out)
        have s3 : ww.drew.cell? ⟨w.heap.size + 1, 3, none⟩ = some (.slice Ah nh kh) := cell_of_row ww.drew _ 3 _ _ (0, 0) (show ww.drew.heap[w.heap.size + 1]? = _ from HPS.out)
        have s4 : ww.drew.cell? ⟨w.heap.size + 1, 4, none⟩ = some (.slice At nt kt) := cell_of_row ww.drew _ 4 _ _ (0, 0) (show ww.drew.heap[w.heap.size + 1]? = _ from HPS.out)
        have s5 : ww.drew.cell? ⟨w.heap.size + 1, 5, none⟩ = some (.slice Al nl kl) := cell_of_row ww.drew _ 5 _ _ (0, 0) (show ww.drew.heap[w.heap.size + 1]? = _ from HPS.out)
        have s6 : ww.drew.cell? ⟨w.heap.size + 1, 6, none⟩ = some (.slice Ag L.length kg) := cell_of_row ww.drew _ 6 _ _ (0, 0) (show ww.drew.heap[w.heap.size + 1]? = _ from HPS.out)
        have HF := Lib.hid (HRO.out ww.drew Ac nc kc Ah nh kh At nt kt Al nl kl Ag L.length kg)
        have HQ := Lib.hid (rd_fin HS.out HVG.out HRW.out (show Keep (fun q => q = w.heap.size + 1) wr ww.drew from HKP.out.drewN 1))
        have HW := Lib.hid hww
        clear hww
        go_region_law (fail)
        all_goals
          clear p0 c0 z0 p1 c1 z1 p2 c2 z2 p3 c3 z3 p4 c4 z4 p5 c5 z5 p6 c6 z6 cb co
          rw [HW.out]
          clear HW
          go_wp2
          exact bodyPost_ret (v := .tuple #[ptsAgg D.slack D.idle (.slice Ac nc kc) (.slice Ah nh kh) (.slice At nt kt) (.slice Al nl kl) (.slice Ag L.length kg), .int .i64 D.off, .bool false]) (by simp [results, Tryz.results11, go_sem, s0, s1, s2, s3, s4, s5, s6, ptsAgg]) rfl (by
            have h9 := HF.out
            rw [HOKV.out] at h9
            obtain ⟨q1, q2, q3, q4, q5, q6⟩ := HQ.out
            exact h9 q1 q2 q3 q4 (by rw [HGL.out]; exact q5) q6)
      · have t1 : ¬ (k : Int) < N := by omega
        rw [hok] at co
        have HOKV := Lib.hid (show D.ok = ((nb : Int) == 0) by
          rw [HOK2.out, hok, Bool.true_and, Bool.eq_iff_iff, List.isEmpty_iff, beq_iff_eq]
          have := HBL.out
          constructor
          · intro h; rw [h] at this; simp at this; omega
          · intro h; exact List.eq_nil_of_length_eq_zero (by omega))
        clear hok hgo2
        go_upto_region 16 with fail
        have HPS := Lib.hid (pts_store D.slack D.idle (.slice Ac nc kc) (.slice Ah nh kh) (.slice At nt kt) (.slice Al nl kl) (.slice Ag L.length kg) HS.out.rb)
        have HKP := Lib.hid (pts_store_keep (W := wr) (t := w.heap.size + 1) D.slack D.idle (.slice Ac nc kc) (.slice Ah nh kh) (.slice At nt kt) (.slice Al nl kl) (.slice Ag L.length kg))
        generalize hww : (((((((wr).setCell ⟨w.heap.size + 1, 0, none⟩ (.int .i64 D.slack)).setCell ⟨w.heap.size + 1, 1, none⟩ (.int .i64 D.idle)).setCell ⟨w.heap.size + 1, 2, none⟩ (.slice Ac nc kc)).setCell ⟨w.heap.size + 1, 3, none⟩ (.slice Ah nh kh)).setCell ⟨w.heap.size + 1, 4, none⟩ (.slice At nt kt)).setCell ⟨w.heap.size + 1, 5, none⟩ (.slice Al nl kl)).setCell ⟨w.heap.size + 1, 6, none⟩ (.slice Ag L.length kg) = ww at HPS HKP
        have p0 := cell_of_row wr _ 0 _ _ (0, 0) HS.out.pb
        have c0 := cell_of_row wr _ 0 _ _ (0, 0) HS.out.rb
        have z0 := frozen_of_row wr _ 0 _ _ HS.out.rb
        have p1 := cell_of_row wr _ 1 _ _ (0, 0) HS.out.pb
        have c1 := cell_of_row wr _ 1 _ _ (0, 0) HS.out.rb
        have z1 := frozen_of_row wr _ 1 _ _ HS.out.rb
        have p2 := cell_of_row wr _ 2 _ _ (0, 0) HS.out.pb
        have c2 := cell_of_row wr _ 2 _ _ (0, 0) HS.out.rb
        have z2 := frozen_of_row wr _ 2 _ _ HS.out.rb
        have p3 := cell_of_row wr _ 3 _ _ (0, 0) HS.out.pb
        have c3 := cell_of_row wr _ 3 _ _ (0, 0) HS.out.rb
        have z3 := frozen_of_row wr _ 3 _ _ HS.out.rb
        have p4 := cell_of_row wr _ 4 _ _ (0, 0) HS.out.pb
        have c4 := cell_of_row wr _ 4 _ _ (0, 0) HS.out.rb
        have z4 := frozen_of_row wr _ 4 _ _ HS.out.rb
        have p5 := cell_of_row wr _ 5 _ _ (0, 0) HS.out.pb
        have c5 := cell_of_row wr _ 5 _ _ (0, 0) HS.out.rb
        have z5 := frozen_of_row wr _ 5 _ _ HS.out.rb
        have p6 := cell_of_row wr _ 6 _ _ (0, 0) HS.out.pb
        have c6 := cell_of_row wr _ 6 _ _ (0, 0) HS.out.rb
        have z6 := frozen_of_row wr _ 6 _ _ HS.out.rb
        have s0 : ww.drew.cell? ⟨w.heap.size + 1, 0, none⟩ = some (.int .i64 D.slack) := cell_of_row ww.drew _ 0 _ _ (0, 0) (show ww.drew.heap[w.heap.size + 1]? = _ from HPS.out)
        have s1 : ww.drew.cell? ⟨w.heap.size + 1, 1, none⟩ = some (.int .i64 D.idle) := cell_of_row ww.drew _ 1 _ _ (0, 0) (show ww.drew.heap[w.heap.size + 1]? = _ from HPS.out)
        have s2 : ww.drew.cell? ⟨w.heap.size + 1, 2, none⟩ = some (.slice Ac nc kc) := cell_of_row ww.drew _ 2 _ _ (0, 0) (show ww.drew.heap[w.heap.size + 1]? = _ from HPS.out)
        have s3 : ww.drew.cell? ⟨w.heap.size + 1, 3, none⟩ = some (.slice Ah nh kh) := cell_of_row ww.drew _ 3 _ _ (0, 0) (show ww.drew.heap[w.heap.size + 1]? = _ from HPS.out)
        have s4 : ww.drew.cell? ⟨w.heap.size + 1, 4, none⟩ = some (.slice At nt kt) := cell_of_row ww.drew _ 4 _ _ (0, 0) (show ww.drew.heap[w.heap.size + 1]? = _ from HPS.out)
        have s5 : ww.drew.cell? ⟨w.heap.size + 1, 5, none⟩ = some (.slice Al nl kl) := cell_of_row ww.drew _ 5 _ _ (0, 0) (show ww.drew.heap[w.heap.size + 1]? = _ from HPS.out)
        have s6 : ww.drew.cell? ⟨w.heap.size + 1, 6, none⟩ = some (.slice Ag L.length kg) := cell_of_row ww.drew _ 6 _ _ (0, 0) (show ww.drew.heap[w.heap.size + 1]? = _ from HPS.out)
        have HF := Lib.hid (HRO.out ww.drew Ac nc kc Ah nh kh At nt kt Al nl kl Ag L.length kg)
        have HQ := Lib.hid (rd_fin HS.out HVG.out HRW.out (show Keep (fun q => q = w.heap.size + 1) wr ww.drew from HKP.out.drewN 1))
        have HW := Lib.hid hww
        clear hww
        go_region_law (fail)
        all_goals
          clear p0 c0 z0 p1 c1 z1 p2 c2 z2 p3 c3 z3 p4 c4 z4 p5 c5 z5 p6 c6 z6 cb co
          rw [HW.out]
          clear HW
          go_wp2
          exact bodyPost_ret (v := .tuple #[ptsAgg D.slack D.idle (.slice Ac nc kc) (.slice Ah nh kh) (.slice At nt kt) (.slice Al nl kl) (.slice Ag L.length kg), .int .i64 D.off, .bool ((nb : Int) == 0)]) (by simp [results, Tryz.results11, go_sem, s0, s1, s2, s3, s4, s5, s6, ptsAgg]) rfl (by
            have h9 := HF.out
            rw [HOKV.out] at h9
            obtain ⟨q1, q2, q3, q4, q5, q6⟩ := HQ.out
            exact h9 q1 q2 q3 q4 (by rw [HGL.out]; exact q5) q6)
end Go.Proofs.YtdjoaboalknlkaaGreatDoor
