/-
  Layer 2: a reader goes through any bytes: one, text.
  Layer 2: a reader goes through any bytes: number.
-/
import Derived.Test.YtdjoaboalknlkaaGreatDoorLMapS
import Derived.Test.YtdjoaboalknlkaaGreatDoorLSnPlain
import Derived.RegionTactic
import Derived.Deep.RegionHeld3
import Derived.StillTailTactics
import Derived.Deep.DeepCutAuto
import Derived.Test.YtdjoaboalknlkaaGreatDoorLClkDec1
import Derived.Test.YtdjoaboalknlkaaGreatDoorLFrmWalk
namespace Go.Proofs.YtdjoaboalknlkaaGreatDoor
open Go.RowKit Go.Maps Go.Sort

abbrev rgObj (A : Option Addr) (n c k : Nat) (er : Int) : Obj := .cells #[.slice A n c, .int .i64 k, .int .i64 er] 116
/-- block b is a reader of the bytes l, that stands so -/
structure GrdIn (W : World) (b : Nat) (A : Option Addr) (n c : Nat) (l : List UInt8) (k : Nat) (st : Rst) : Prop where
  blk : W.heap[b]? = some (rgObj A n c k st.err)
  le : k ≤ n
  rest : ∀ r, st = .ok r → l.drop k = r
  row : Byt W b A n c l
  num : n ≤ 1000000000
def GrdS (W : World) (b : Nat) (A : Option Addr) (n c : Nat) (l : List UInt8) (st : Rst) : Prop := ∃ k, GrdIn W b A n c l k st
def GrdPost (W : World) (b : Nat) (A : Option Addr) (n c : Nat) (l : List UInt8) (st : Rst) (v : Value) (e : Ending) (W' : World) : Prop := e = .returned v ∧ GrdS W' b A n c l st ∧ Keep (fun q => q = b) W W'
section
variable {W W' : World} {b n c k : Nat} {A : Option Addr} {l : List UInt8} {st : Rst}
theorem GrdIn.lt (h : GrdIn W b A n c l k st) : b < W.heap.size := (Array.getElem?_eq_some_iff.1 h.blk).1
theorem GrdIn.cells (h : GrdIn W b A n c l k st) : W.cell? ⟨b, 0, none⟩ = some (.slice A n c) ∧ W.cell? ⟨b, 1, none⟩ = some (.int .i64 k) ∧ W.cell? ⟨b, 2, none⟩ = some (.int .i64 st.err) ∧ W.frozen? ⟨b, 1, none⟩ = false ∧ W.frozen? ⟨b, 2, none⟩ = false :=
  ⟨cell_of_row W b 0 _ _ (0, 0) h.blk, cell_of_row W b 1 _ _ (0, 0) h.blk, cell_of_row W b 2 _ _ (0, 0) h.blk, frozen_of_row W b 1 _ _ h.blk, frozen_of_row W b 2 _ _ h.blk⟩
theorem GrdIn.up (h : GrdIn W b A n c l k st) (hb : RowKit.Below W.heap.size W W') : GrdIn W' b A n c l k st := by
  have := h.lt
  exact ⟨(hb.block b this).trans h.blk, h.le, h.rest, h.row.below (hb.mono (by omega)), h.num⟩
theorem GrdIn.on {r : List UInt8} (h : GrdIn W b A n c l k (.ok r)) {k' : Nat} (hk : k' ≤ n) : GrdIn (W.setCell ⟨b, 1, none⟩ (.int .i64 k')) b A n c l k' (.ok (l.drop k')) :=
  ⟨heap_set_row h.blk, hk, fun r h => by injection h, h.row.setCell (Nat.le_refl _) _, h.num⟩
theorem GrdIn.bad {r : List UInt8} (h : GrdIn W b A n c l k (.ok r)) {s2 : Rst} (hs : ∀ r, s2 ≠ .ok r) : GrdIn (W.setCell ⟨b, 2, none⟩ (.int .i64 s2.err)) b A n c l k s2 :=
  ⟨heap_set_row h.blk, h.le, fun r h => absurd h (hs r), h.row.setCell (Nat.le_refl _) _, h.num⟩
theorem GrdIn.postOn {r : List UInt8} (h : GrdIn W b A n c l k (.ok r)) {k' : Nat} (hk : k' ≤ n) (s q : Nat) (v : Value) : GrdPost W b A n c l (.ok (l.drop k')) v (.returned v) (((W.drewN s).setCell ⟨b, 1, none⟩ (.int .i64 k')).drewN q) :=
  ⟨rfl, ⟨k', ((h.up (below_drewN (Below.refl _ _) s)).on hk).up (below_drewN (Below.refl _ _) q)⟩, (((Keep.refl (fun q => q = b) W).drewN s).setCell (p := ⟨b, 1, none⟩) (fun _ => rfl) _).drewN q⟩
theorem GrdIn.postBad {r : List UInt8} (h : GrdIn W b A n c l k (.ok r)) {s2 : Rst} (hs : ∀ r, s2 ≠ .ok r) (s q : Nat) (v : Value) : GrdPost W b A n c l s2 v (.returned v) (((W.drewN s).setCell ⟨b, 2, none⟩ (.int .i64 s2.err)).drewN q) :=
  ⟨rfl, ⟨k, ((h.up (below_drewN (Below.refl _ _) s)).bad hs).up (below_drewN (Below.refl _ _) q)⟩, (((Keep.refl (fun q => q = b) W).drewN s).setCell (p := ⟨b, 2, none⟩) (fun _ => rfl) _).drewN q⟩
theorem GrdIn.postSame (h : GrdIn W b A n c l k st) (q : Nat) (v : Value) : GrdPost W b A n c l st v (.returned v) (W.drewN q) :=
  ⟨rfl, ⟨k, h.up (below_drewN (Below.refl _ _) q)⟩, (Keep.refl (fun q => q = b) W).drewN q⟩
theorem GrdIn.cell (h : GrdIn W b A n c l k st) {i : Nat} (hi : i < n) : ∃ d off, A = some ⟨d, off, none⟩ ∧ d < b ∧ ∃ hl : i < l.length, W.cell? ⟨d, off + i, none⟩ = some (.int .u8 l[i].toNat) := by
  obtain ⟨d, off, e, hd, hc⟩ := h.row.cell (by omega)
  exact ⟨d, off, e, hd, by rw [h.row.len]; exact hi, hc i (by rw [h.row.len]; exact hi)⟩
end
set_option maxRecDepth 100000 in
set_option maxHeartbeats 2000000 in
theorem rgone_any (W : World) (b : Nat) (A : Option Addr) (n c : Nat) (l : List UInt8) (st : Rst) (h : GrdS W b A n c l st) :
    Calls Tryz.prog 62 #[.pointer (some ⟨b, 0, none⟩)] W (GrdPost W b A n c l (oneS st) (.int .u8 (oneV st).toNat)) := by
  obtain ⟨k, h⟩ := h
  have hcap := h.row.cap
  have hmax := h.row.max
  have hnum := h.num
  have hle := h.le
  have hlen := h.row.len
  obtain ⟨c0, c1, c2, z1, z2⟩ := h.cells
  cases st with
  | torn =>
    have HFIN := Lib.hid (fun q => h.postSame q (.int .u8 0))
    have c2' : W.cell? ⟨b, 2, none⟩ = some (.int .i64 3) := c2
    clear h c2
    go_enter Tryz.func62, Tryz.ntmps62
    go_wp2
    go_ret
    exact HFIN.out 0
  | form =>
    have HFIN := Lib.hid (fun q => h.postSame q (.int .u8 0))
    have c2' : W.cell? ⟨b, 2, none⟩ = some (.int .i64 2) := c2
    clear h c2
    go_enter Tryz.func62, Tryz.ntmps62
    go_wp2
    go_ret
    exact HFIN.out 0
  | ok r =>
    have c2' : W.cell? ⟨b, 2, none⟩ = some (.int .i64 0) := c2
    have hr := h.rest r rfl
    have hrl : r.length = n - k := by rw [← hr, List.length_drop, hlen]
    cases r with
    | nil =>
      have hkn : k = n := by simp at hrl; omega
      have HFIN := Lib.hid (fun s q => h.postBad (s2 := .torn) (fun r h => by cases h) s q (.int .u8 0))
      have t1 : (n : Int) ≤ k := by omega
      have HK := Lib.hid hkn
      clear h c2 hr hrl hkn
      go_enter Tryz.func62, Tryz.ntmps62
      go_wp2
      go_quiet (fail)
      go_wp2
      go_ret
      exact HFIN.out _ 0
    | cons x r =>
      have hk : k < n := by simp at hrl; omega
      obtain ⟨d, off, rfl, hd, hl, hc⟩ := h.cell hk
      have hxe : l[k] = x := by
        have h1 : (l.drop k)[0]? = some x := by rw [hr]; rfl
        rw [List.getElem?_drop, Nat.add_zero, List.getElem?_eq_getElem hl] at h1
        injection h1
      rw [hxe] at hc
      have HFIN := Lib.hid (show ∀ s q, GrdPost W b (some ⟨d, off, none⟩) n c l (.ok r) (.int .u8 x.toNat) (.returned (.int .u8 x.toNat)) (((W.drewN s).setCell ⟨b, 1, none⟩ (.int .i64 ((k + 1 : Nat) : Int))).drewN q) from fun s q => by
        have h1 := h.postOn (k' := k + 1) (by omega) s q (.int .u8 x.toNat)
        rw [← List.drop_drop, hr] at h1
        exact h1)
      have d0 : (W.drew.setCell ⟨b, 1, none⟩ (.int .i64 ((k : Int) + 1))).cell? ⟨b, 0, none⟩ = some (.slice (some ⟨d, off, none⟩) n c) := cell_of_row _ _ 0 _ _ (0, 0) (heap_set_row (w := W.drew) h.blk)
      have d1 : (W.drew.setCell ⟨b, 1, none⟩ (.int .i64 ((k : Int) + 1))).cell? ⟨b, 1, none⟩ = some (.int .i64 ((k : Int) + 1)) := cell_of_row _ _ 1 _ _ (0, 0) (heap_set_row (w := W.drew) h.blk)
      have d2 : (W.drew.setCell ⟨b, 1, none⟩ (.int .i64 ((k : Int) + 1))).cell? ⟨d, off + k, none⟩ = some (.int .u8 x.toNat) := by
        rw [World.cell?_setCell_other _ _ _ _ (by intro e; injection e; omega)]; exact hc
      clear h c2 hr hrl hxe
      go_enter Tryz.func62, Tryz.ntmps62
      go_wp2
      go_quiet (fail)
      go_wp2
      go_quiet (fail)
      go_wp2
      go_ret
      exact HFIN.out _ _
set_option maxRecDepth 100000 in
set_option maxHeartbeats 2000000 in
theorem rgtext_any (W : World) (b : Nat) (A : Option Addr) (n c : Nat) (l : List UInt8) (st : Rst) (h : GrdS W b A n c l st) :
    Calls Tryz.prog 63 #[.pointer (some ⟨b, 0, none⟩)] W (GrdPost W b A n c l (txtS st) (.string ⟨(txtV st).toArray⟩)) := by
  have HC := Lib.hid (rgone_any W b A n c l st h)
  cases hst : oneS st with
  | torn =>
    have e1 : txtS st = .torn ∧ txtV st = [] := by
      cases st with
      | torn => exact ⟨rfl, rfl⟩
      | form => cases hst
      | ok r => cases r with
        | nil => exact ⟨rfl, rfl⟩
        | cons x r => cases hst
    rw [e1.1, e1.2]
    rw [hst] at HC
    clear h hst e1
    go_enter Tryz.func63, Tryz.ntmps63
    go_wp2_with fail
    with_reducible refine HC.out.mono ?_
    rintro e W1 hp
    obtain ⟨rfl, ⟨k, h1⟩, hk1⟩ := hp
    obtain ⟨c0, c1, c2, z1, z2⟩ := h1.cells
    have HF := Lib.hid (show ∀ q, GrdPost W b A n c l .torn (.string ⟨#[]⟩) (.returned (.string ⟨#[]⟩)) (W1.drewN q) from fun q => ⟨rfl, (h1.postSame q (.string ⟨#[]⟩)).2.1, hk1.trans (h1.postSame q (.string ⟨#[]⟩)).2.2 (fun _ _ h => h)⟩)
    have c2' : W1.cell? ⟨b, 2, none⟩ = some (.int .i64 3) := c2
    clear h1 hk1 c2
    go_wp2
    go_ret
    exact HF.out 0
  | form =>
    have e1 : txtS st = .form ∧ txtV st = [] := by
      cases st with
      | torn => cases hst
      | form => exact ⟨rfl, rfl⟩
      | ok r => cases r with
        | nil => cases hst
        | cons x r => cases hst
    rw [e1.1, e1.2]
    rw [hst] at HC
    clear h hst e1
    go_enter Tryz.func63, Tryz.ntmps63
    go_wp2_with fail
    with_reducible refine HC.out.mono ?_
    rintro e W1 hp
    obtain ⟨rfl, ⟨k, h1⟩, hk1⟩ := hp
    obtain ⟨c0, c1, c2, z1, z2⟩ := h1.cells
    have HF := Lib.hid (show ∀ q, GrdPost W b A n c l .form (.string ⟨#[]⟩) (.returned (.string ⟨#[]⟩)) (W1.drewN q) from fun q => ⟨rfl, (h1.postSame q (.string ⟨#[]⟩)).2.1, hk1.trans (h1.postSame q (.string ⟨#[]⟩)).2.2 (fun _ _ h => h)⟩)
    have c2' : W1.cell? ⟨b, 2, none⟩ = some (.int .i64 2) := c2
    clear h1 hk1 c2
    go_wp2
    go_ret
    exact HF.out 0
  | ok r =>
    obtain ⟨x, rfl⟩ : ∃ x, st = .ok (x :: r) := by
      cases st with
      | torn => cases hst
      | form => cases hst
      | ok t => cases t with
        | nil => cases hst
        | cons x t => injection hst with hst; subst hst; exact ⟨x, rfl⟩
    have hx256 := x.toNat_lt
    have hn1 : 1 ≤ n := by
      obtain ⟨k0, h0⟩ := h
      have h2 := congrArg List.length (h0.rest _ rfl)
      have h3 := h0.row.len
      rw [List.length_drop, List.length_cons] at h2
      omega
    have HX := Lib.hid (show txtS (.ok (x :: r)) = (if r.length < x.toNat then .torn else .ok (r.drop x.toNat)) ∧ txtV (.ok (x :: r)) = (if r.length < x.toNat then [] else r.take x.toNat) from ⟨rfl, rfl⟩)
    have HC2 := Lib.hid (show Calls Tryz.prog 62 #[.pointer (some ⟨b, 0, none⟩)] W (GrdPost W b A n c l (.ok r) (.int .u8 x.toNat)) from HC.out)
    clear h hst HC
    generalize txtS (.ok (x :: r)) = sx at *
    generalize txtV (.ok (x :: r)) = tx at *
    generalize x.toNat = z at *
    go_enter Tryz.func63, Tryz.ntmps63
    go_wp2_with fail
    with_reducible refine HC2.out.mono ?_
    rintro e W1 hp
    obtain ⟨rfl, ⟨k, h1⟩, hk1⟩ := hp
    obtain ⟨c0, c1, c2, z1, z2⟩ := h1.cells
    have c2' : W1.cell? ⟨b, 2, none⟩ = some (.int .i64 0) := c2
    have hr := h1.rest r rfl
    have hlen := h1.row.len
    have hle := h1.le
    have hrl : r.length = n - k := by rw [← hr, List.length_drop, hlen]
    have hcap := h1.row.cap
    have hmax := h1.row.max
    have hnum := h1.num
    by_cases hz : r.length < z
    · obtain ⟨rfl, rfl⟩ : sx = .torn ∧ tx = [] := by have := HX.out; rw [if_pos hz, if_pos hz] at this; exact this
      have HF := Lib.hid (show ∀ s q, GrdPost W b A n c l .torn (.string ⟨#[]⟩) (.returned (.string ⟨#[]⟩)) (((W1.drewN s).setCell ⟨b, 2, none⟩ (.int .i64 3)).drewN q) from fun s q => by
        have h2 := h1.postBad (s2 := .torn) (fun r h => by cases h) s q (.string ⟨#[]⟩)
        exact ⟨rfl, h2.2.1, hk1.trans h2.2.2 (fun _ _ h => h)⟩)
      have t1 : (n : Int) - k < z := by omega
      clear h1 hk1 c2 hr hrl hz HX
      go_wp2
      go_quiet (fail)
      go_wp2
      go_ret
      exact HF.out _ 0
    · obtain ⟨rfl, rfl⟩ : sx = .ok (r.drop z) ∧ tx = r.take z := by have := HX.out; rw [if_neg hz, if_neg hz] at this; exact this
      have t1 : ¬ (n : Int) - k < z := by omega
      have HF0 := Lib.hid (show ∀ s q, GrdPost W b A n c l (.ok (r.drop z)) (.string ⟨(r.take z).toArray⟩) (.returned (.string ⟨(r.take z).toArray⟩)) (((W1.drewN s).setCell ⟨b, 1, none⟩ (.int .i64 ((k + z : Nat) : Int))).drewN q) from fun s q => by
        have h2 := h1.postOn (k' := k + z) (by omega) s q (.string ⟨(r.take z).toArray⟩)
        rw [← List.drop_drop, hr] at h2
        exact ⟨rfl, h2.2.1, hk1.trans h2.2.2 (fun _ _ h => h)⟩)
      have hcz : ((k + z : Nat) : Int) = (k : Int) + z := by omega
      rw [hcz] at HF0
      have H1 := Lib.hid h1
      have hzl : z ≤ n - k := by omega
      have HTK := Lib.hid (show (l.drop k).take z = r.take z by rw [hr])
      clear hk1 h1 hr hrl hz HX c2
      go_wp2
      go_quiet (fail)
      rename_i nq
      go_upto_region 8 with fail
      have HB := Lib.hid (show (((W1.drewN nq).setCell ⟨b, 1, none⟩ (.int .i64 ((k : Int) + z)))).heap[b]? = some (.cells #[.slice A n c, .int .i64 ((k : Int) + z), .int .i64 0] 116) from heap_set_row (w := W1.drewN nq) H1.out.blk)
      have HR := Lib.hid (show Byt ((W1.drewN nq).setCell ⟨b, 1, none⟩ (.int .i64 ((k : Int) + z))) b A n c l from (H1.out.row.drewN nq).setCell (p := ⟨b, 1, none⟩) (Nat.le_refl _) _)
      have HF := Lib.hid (HF0.out nq 1)
      clear c0 c1 c2' z1 z2 HF0
      obtain ⟨w2, hw2⟩ : ∃ w2, w2 = (W1.drewN nq).setCell ⟨b, 1, none⟩ (.int .i64 ((k : Int) + z)) := ⟨_, rfl⟩
      rw [← hw2] at HB HR HF ⊢
      clear hw2
      have d0 : w2.cell? ⟨b, 0, none⟩ = some (.slice A n c) := cell_of_row _ _ 0 _ _ (0, 0) HB.out
      have d1 : w2.cell? ⟨b, 1, none⟩ = some (.int .i64 ((k : Int) + z)) := cell_of_row _ _ 1 _ _ (0, 0) HB.out
      obtain ⟨d, off, rfl, hd, _⟩ := HR.out.cell (by omega)
      have hcut := HR.out.cut k z (by omega)
      rw [HTK.out] at hcut
      have hst := (hcut.drewN 1).str (P := Tryz.prog) 22 5 9 Tryz.underlying22 Tryz.underlying5 Tryz.underlying9
      have hz0 : c = k → z = 0 := fun e => by omega
      clear hcut
      go_still_tail 14, (by kernel_rfl)
      change wpList _ _ _ _ _ (w2.drewN 1)
      clear d0 d1
      generalize w2.drewN 1 = w3 at *
      by_cases hck : c = k
      · obtain rfl : z = 0 := hz0 hck
        have hst0 := (Byt.nil w3 b (some ⟨d, off, none⟩) 0 (Nat.zero_le _)).str (P := Tryz.prog) 22 5 9 Tryz.underlying22 Tryz.underlying5 Tryz.underlying9
        subst hck
        clear hst
        go_wp2
        go_ret
        exact HF.out
      · go_wp2
        go_ret
        exact HF.out
end Go.Proofs.YtdjoaboalknlkaaGreatDoor
namespace Go.Proofs.YtdjoaboalknlkaaGreatDoor
open Go.RowKit Go.Maps Go.Sort

def NgRel (W : World) (b : Nat) (A : Option Addr) (n c : Nat) (l l0 : List UInt8) (acc i : Value) (W' : World) : Prop :=
  ∃ (q a : Nat) (r : List UInt8), i = .int .i64 q ∧ q ≤ 5 ∧ acc = .int .i64 a ∧ a < 128 ^ q ∧ GrdS W' b A n c l (.ok r) ∧ numD (6 - q) q a r = numR l0 ∧ Keep (fun z => z = b) W W'
set_option maxRecDepth 100000 in
set_option maxHeartbeats 4000000 in
theorem rgnumber_bad (W : World) (b : Nat) (A : Option Addr) (n c : Nat) (l : List UInt8) (st : Rst) (h : GrdS W b A n c l st) (er : Int) (her : er = 3 ∨ er = 2) (h1 : oneS st = st) (h2 : oneV st = 0) (h3 : st.err = er) (h4 : numS st = st) (h5 : numV st = 0) :
    Calls Tryz.prog 64 #[.pointer (some ⟨b, 0, none⟩)] W (GrdPost W b A n c l (numS st) (.int .i64 (numV st))) := by
  have HC := Lib.hid (rgone_any W b A n c l st h)
  rw [h1, h2] at HC
  rw [h4, h5]
  clear h h1 h2 h4 h5
  go_enter Tryz.func64, Tryz.ntmps64
  go_wp2
  go_loopw [3, 4, 5, 6] (fun acc _ _ i W' => acc = .int .i64 0 ∧ i = .int .i64 0 ∧ W' = W) (fun _ _ _ i _ => 6 - (intOf i).toNat)
  case atStart => exact ⟨rfl, rfl, rfl⟩
  case round =>
    obtain ⟨rfl, rfl, rfl⟩ := hrel
    go_wp2_with fail
    with_reducible refine HC.out.mono ?_
    rintro e w1 hp
    obtain ⟨rfl, ⟨k, g1⟩, hk1⟩ := hp
    obtain ⟨c0, c1, c2, z1, z2⟩ := g1.cells
    have HF := Lib.hid (show GrdPost wr b A n c l st (.int .i64 0) (.returned (.int .i64 0)) w1 from ⟨rfl, ⟨k, g1⟩, hk1⟩)
    rw [h3] at c2
    clear g1 hk1 h3
    rcases her with rfl | rfl
    all_goals
      go_wp2
      go_ret
      exact HF.out
set_option maxRecDepth 100000 in
set_option maxHeartbeats 4000000 in
theorem rgnumber_any (W : World) (b : Nat) (A : Option Addr) (n c : Nat) (l : List UInt8) (st : Rst) (h : GrdS W b A n c l st) :
    Calls Tryz.prog 64 #[.pointer (some ⟨b, 0, none⟩)] W (GrdPost W b A n c l (numS st) (.int .i64 (numV st))) := by
  cases st with
  | torn => exact rgnumber_bad W b A n c l .torn h 3 (.inl rfl) rfl rfl rfl rfl rfl
  | form => exact rgnumber_bad W b A n c l .form h 2 (.inr rfl) rfl rfl rfl rfl rfl
  | ok l0 =>
  have HST := Lib.hid (show NgRel W b A n c l l0 (.int .i64 0) (.int .i64 0) W from ⟨0, 0, l0, rfl, by omega, rfl, by simp, h, rfl, Keep.refl _ _⟩)
  have HTN := Lib.hid (show numR l0 = .torn → numS (.ok l0) = .torn ∧ numV (.ok l0) = 0 from fun h => by unfold numS numV; simp [h])
  have HFM := Lib.hid (show numR l0 = .form → numS (.ok l0) = .form ∧ numV (.ok l0) = 0 from fun h => by unfold numS numV; simp [h])
  have HOK := Lib.hid (show ∀ v r, numR l0 = .ok v r → numS (.ok l0) = .ok r ∧ numV (.ok l0) = v from fun v r h => by unfold numS numV; simp [h])
  clear h
  generalize numS (.ok l0) = sx at *
  generalize numV (.ok l0) = vx at *
  go_enter Tryz.func64, Tryz.ntmps64
  go_wp2
  go_loopw [3, 4, 5, 6] (fun acc _ _ i W' => NgRel W b A n c l l0 acc i W') (fun _ _ _ i _ => 6 - (intOf i).toNat)
  case atStart => exact HST.out
  case round =>
    obtain ⟨q, a, r, rfl, hq5, rfl, ha, hrd, hR, hkp⟩ := hrel
    have HC := Lib.hid (rgone_any wr b A n c l (.ok r) hrd)
    have HKP := Lib.hid hkp
    obtain ⟨f, hf⟩ : ∃ f, 6 - q = f + 1 := ⟨5 - q, by omega⟩
    rw [hf] at hR
    clear hrd hkp HST
    cases r with
    | nil =>
      obtain ⟨rfl, rfl⟩ := HTN.out (by simp only [numD] at hR; exact hR.symm)
      have HC2 := Lib.hid (show Calls Tryz.prog 62 #[.pointer (some ⟨b, 0, none⟩)] wr (GrdPost wr b A n c l .torn (.int .u8 0)) from HC.out)
      have t1 : (q : Int) < 6 := by omega
      clear HC hR HTN HFM HOK ha hf
      go_wp2_with fail
      with_reducible refine HC2.out.mono ?_
      rintro e w1 hp
      obtain ⟨rfl, ⟨k, g1⟩, hk1⟩ := hp
      obtain ⟨c0, c1, c2, z1, z2⟩ := g1.cells
      have HF := Lib.hid (show GrdPost W b A n c l .torn (.int .i64 0) (.returned (.int .i64 0)) w1 from ⟨rfl, ⟨k, g1⟩, HKP.out.trans hk1 (fun _ _ h => h)⟩)
      have c2' : w1.cell? ⟨b, 2, none⟩ = some (.int .i64 3) := c2
      clear g1 hk1 c2
      go_wp2
      go_ret
      exact HF.out
    | cons x t =>
      have HC2 := Lib.hid (show Calls Tryz.prog 62 #[.pointer (some ⟨b, 0, none⟩)] wr (GrdPost wr b A n c l (.ok t) (.int .u8 x.toNat)) from HC.out)
      have hx256 := x.toNat_lt
      simp only [numD] at hR
      generalize x.toNat = m at *
      have HA := Lib.hid (and127b m hx256)
      have hp7 : 128 ^ q = 2 ^ (7 * q) := by rw [Nat.pow_mul]
      have HOR := Lib.hid (show ∀ z : Nat, z < 128 → bits .or .i64 (a : Int) ((z * 128 ^ q : Nat) : Int) = ((a + z * 128 ^ q : Nat) : Int) from fun z hz => by
        have h1 : z * 128 ^ q ≤ 128 * 128 ^ 5 := Nat.mul_le_mul (by omega) (Nat.pow_le_pow_right (by omega) hq5)
        have h2 : 128 ^ q ≤ 128 ^ 5 := Nat.pow_le_pow_right (by omega) hq5
        rw [i64_or_nat _ _ (by omega) (by omega)]
        rw [hp7] at ha ⊢
        rw [or_shift _ _ _ ha])
      have t1 : (q : Int) < 6 := by omega
      clear HC hp7
      by_cases hbad : (m = 0 ∧ 0 < q) ∨ (128 ≤ m ∧ q = 5)
      · obtain ⟨rfl, rfl⟩ := HFM.out (by
          rcases hbad with hb | hb
          · rw [if_pos hb] at hR; exact hR.symm
          · rw [if_neg (by omega), if_neg (by omega)] at hR
            obtain rfl : f = 0 := by omega
            simp only [numD] at hR; exact hR.symm)
        clear hR HTN HFM HOK HA HOR ha hf
        go_wp2_with fail
        with_reducible refine HC2.out.mono ?_
        rintro e w1 hp
        obtain ⟨rfl, ⟨k, g1⟩, hk1⟩ := hp
        obtain ⟨c0, c1, c2, z1, z2⟩ := g1.cells
        have HF := Lib.hid (show ∀ s q, GrdPost W b A n c l .form (.int .i64 0) (.returned (.int .i64 0)) (((w1.drewN s).setCell ⟨b, 2, none⟩ (.int .i64 2)).drewN q) from fun s q => by
          have h2 := g1.postBad (s2 := .form) (fun r h => by cases h) s q (.int .i64 0)
          exact ⟨rfl, h2.2.1, (HKP.out.trans hk1 (fun _ _ h => h)).trans h2.2.2 (fun _ _ h => h)⟩)
        have c2' : w1.cell? ⟨b, 2, none⟩ = some (.int .i64 0) := c2
        clear g1 hk1 c2
        rcases hbad with ⟨rfl, hb⟩ | ⟨hb, rfl⟩
        · have t2 : (0 : Int) < q := by omega
          go_wp2
          go_ret
          exact HF.out 0 0
        · have t2 : (128 : Int) ≤ m := by omega
          go_wp2
          go_ret
          exact HF.out 0 0
      · rw [if_neg (fun h => hbad (.inl h))] at hR
        have hw : ∀ x : Nat, x < 4611686018427387904 → wrap64 (x : Int) = x := fun x hx => by unfold wrap64; omega
        have HW := Lib.hid hw
        clear hw
        by_cases hlo : m < 128
        · rw [if_pos hlo] at hR
          obtain ⟨rfl, rfl⟩ := HOK.out _ _ hR.symm
          have HO := Lib.hid (HOR.out m hlo)
          rw [Nat.mod_eq_of_lt hlo] at HA
          have hzq : m = 0 → q = 0 := fun h => by omega
          have HF := Lib.hid (show ∀ w1 (v : Value), v = .int .i64 ((a + m * 128 ^ q : Nat) : Int) → GrdPost wr b A n c l (.ok t) (.int .u8 m) (.returned (.int .u8 m)) w1 → GrdPost W b A n c l (.ok t) (.int .i64 ((a + m * 128 ^ q : Nat) : Int)) (.returned v) w1 from fun w1 v hv hp => ⟨by rw [hv], hp.2.1, HKP.out.trans hp.2.2 (fun _ _ h => h)⟩)
          have hqs : q = 0 ∨ q = 1 ∨ q = 2 ∨ q = 3 ∨ q = 4 ∨ q = 5 := by omega
          clear hR HTN HFM HOK HOR hf hbad
          rcases hqs with rfl | rfl | rfl | rfl | rfl | rfl
          all_goals
            simp only [Nat.reducePow, Nat.mul_one] at ha HO HF ⊢
            go_wp2_with fail
            with_reducible refine HC2.out.mono ?_
            rintro e w1 hp
            have HP := Lib.hid hp
            obtain ⟨rfl, ⟨k, g1⟩, hk1⟩ := hp
            obtain ⟨c0, c1, c2, z1, z2⟩ := g1.cells
            have c2' : w1.cell? ⟨b, 2, none⟩ = some (.int .i64 0) := c2
            clear g1 hk1 c2
            have t2 : ¬ (128 : Int) ≤ m := by omega
            by_cases hmz : m = 0
            · first
                | exact absurd (hzq hmz) (by decide)
                | (subst hmz
                   go_wp2
                   go_ret
                   refine HF.out _ _ (congrArg (Value.int .i64) ?_) HP.out
                   have HA0 := HA.out
                   have HO0 := HO.out
                   simp only [Int.natCast_zero, Nat.add_zero] at HA0 HO0 ⊢
                   have hw0 : wrap64 0 = 0 := by unfold wrap64; omega
                   rw [HA0, hw0, hw0]
                   exact HO0)
            · have t3 : ((m : Int) == 0) = false := by simp; omega
              go_wp2
              go_ret
              refine HF.out _ _ (congrArg (Value.int .i64) ?_) HP.out
              rw [HA.out, HW.out m (by omega)]
              first
                | (rw [HW.out m (by omega)]; exact HO.out)
                | (rw [show ((m : Int) * 128) = ((m * 128 : Nat) : Int) by omega, HW.out _ (by omega)]; exact HO.out)
                | (rw [show ((m : Int) * 16384) = ((m * 16384 : Nat) : Int) by omega, HW.out _ (by omega)]; exact HO.out)
                | (rw [show ((m : Int) * 2097152) = ((m * 2097152 : Nat) : Int) by omega, HW.out _ (by omega)]; exact HO.out)
                | (rw [show ((m : Int) * 268435456) = ((m * 268435456 : Nat) : Int) by omega, HW.out _ (by omega)]; exact HO.out)
                | (rw [show ((m : Int) * 34359738368) = ((m * 34359738368 : Nat) : Int) by omega, HW.out _ (by omega)]; exact HO.out)
        · rw [if_neg hlo] at hR
          have HO := Lib.hid (HOR.out (m % 128) (Nat.mod_lt _ (by omega)))
          have hlt : m % 128 < 128 := Nat.mod_lt _ (by omega)
          have hq4 : q ≤ 4 := by omega
          have hf2 : 6 - (q + 1) = f := by omega
          have hb2 : a + m % 128 * 128 ^ q < 128 ^ (q + 1) := by
            rw [Nat.pow_succ]
            have : m % 128 * 128 ^ q ≤ 127 * 128 ^ q := Nat.mul_le_mul_right _ (by omega)
            omega
          have HF := Lib.hid (show ∀ w1 (v : Value), v = .int .i64 ((a + m % 128 * 128 ^ q : Nat) : Int) → GrdPost wr b A n c l (.ok t) (.int .u8 m) (.returned (.int .u8 m)) w1 → NgRel W b A n c l l0 v (.int .i64 ((q : Int) + 1)) w1 from fun w1 v hv hp =>
            ⟨q + 1, _, t, rfl, by omega, hv, hb2, hp.2.1, by rw [hf2]; exact hR, HKP.out.trans hp.2.2 (fun _ _ h => h)⟩)
          have hqs : q = 0 ∨ q = 1 ∨ q = 2 ∨ q = 3 ∨ q = 4 := by omega
          have t2 : (128 : Int) ≤ m := by omega
          have t3 : ((m : Int) == 0) = false := by simp; omega
          clear hR HTN HFM HOK HOR hf hbad hb2 hf2
          rcases hqs with rfl | rfl | rfl | rfl | rfl
          all_goals
            simp only [Nat.reducePow, Nat.mul_one] at ha HO HF
            go_wp2_with fail
            with_reducible refine HC2.out.mono ?_
            rintro e w1 hp
            have HP := Lib.hid hp
            obtain ⟨rfl, ⟨k, g1⟩, hk1⟩ := hp
            obtain ⟨c0, c1, c2, z1, z2⟩ := g1.cells
            have c2' : w1.cell? ⟨b, 2, none⟩ = some (.int .i64 0) := c2
            clear g1 hk1 c2
            go_wp2
            refine ⟨HF.out _ _ (congrArg (Value.int .i64) ?_) HP.out, by simp [intOf]⟩
            rw [HA.out, HW.out (m % 128) (by omega)]
            first
              | (rw [HW.out (m % 128) (by omega)]; exact HO.out)
              | (rw [show (((m % 128 : Nat) : Int) * 128) = ((m % 128 * 128 : Nat) : Int) by omega, HW.out _ (by omega)]; exact HO.out)
              | (rw [show (((m % 128 : Nat) : Int) * 16384) = ((m % 128 * 16384 : Nat) : Int) by omega, HW.out _ (by omega)]; exact HO.out)
              | (rw [show (((m % 128 : Nat) : Int) * 2097152) = ((m % 128 * 2097152 : Nat) : Int) by omega, HW.out _ (by omega)]; exact HO.out)
              | (rw [show (((m % 128 : Nat) : Int) * 268435456) = ((m % 128 * 268435456 : Nat) : Int) by omega, HW.out _ (by omega)]; exact HO.out)
end Go.Proofs.YtdjoaboalknlkaaGreatDoor
