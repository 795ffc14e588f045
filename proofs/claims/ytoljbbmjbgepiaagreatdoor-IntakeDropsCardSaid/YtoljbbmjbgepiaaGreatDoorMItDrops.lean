/-
  The law IntakeDrops, walked.
-/
import Derived.Test.YtoljbbmjbgepiaaGreatDoorMGrown2
namespace Go.Proofs.YtoljbbmjbgepiaaGreatDoor
open Go.RowKit Go.Maps Go.Sort Go.Shelf

theorem drops1_any (w : World) (bd : Nat) (p : List UInt8) (e : Ev) (hc : w.cell? ⟨bd, 0, none⟩ = some (.string ⟨p.toArray⟩)) :
    Calls Tryz.prog 38 (#[e.agg] ++ #[.pointer (some ⟨bd, 0, none⟩)]) w (Says (offB p e) w) := by
  show Calls Tryz.prog 38 #[e.agg, .pointer (some ⟨bd, 0, none⟩)] w (Says (offB p e) w)
  have hbw : bd < w.heap.size := World.block_lt_of_cell? w ⟨bd, 0, none⟩ hc
  have hb : Below w.heap.size w (w.alloc (evObj e)) := (Below.refl _ _).alloc (Nat.le_refl _) _
  have hc' : (w.alloc (evObj e)).cell? ⟨bd, 0, none⟩ = some (.string ⟨p.toArray⟩) := (hb.cell (p := ⟨bd, 0, none⟩) hbw).trans hc
  obtain ⟨e0, e1, e2, e3, e4, e5, e6, e7⟩ := EvIn.new w e
  have HO := Lib.hid (show offB p e = (e.per != p) from rfl)
  unfold Ev.agg
  go_enter Tryz.func38, Tryz.ntmps38
  go_wp2
  go_ret
  exact ⟨ret_bool (by rw [HO.out]; rfl), hb⟩
/-- what stays the same behind the Drop -/
structure DrK where
  bi : Nat
  bm : Nat
  bc : Nat
  S : Nat → Prop
  M : Nat
  y : Itk
  x : Itk
  T : Nat → Prop
  bp : Nat
  p : List UInt8
  Bt : Option Addr
  ct : Nat
  Bl : Option Addr
  cl : Nat
  Bg : Option Addr
  cg : Nat
  gs : List (List UInt8)
  z : Nat
def DrT (w w3 w6 : World) (b : Nat) : Prop := b = w.heap.size ∨ (w3.heap.size ≤ b ∧ b < w6.heap.size)
structure DrM (P : DrK) (w : World) (F : Nat → Prop) (N : Nat) (wr : World) : Prop where
  itk : ItkAt wr F P.bi N P.y
  ref : RItk wr P.bm P.bc P.S P.M P.x
  ap : ∀ b, F b → ¬ P.S b ∧ b ≠ P.bm ∧ b ≠ P.bc
  aT : ∀ b, F b → ¬ P.T b
  bel : Below w.heap.size w wr
  newF : ∀ b, F b → w.heap.size ≤ b
  per : wr.cell? ⟨P.bp, 0, none⟩ = some (.string ⟨P.p.toArray⟩)
  tp : P.T P.bp
  tk : Evs wr wr.heap.size P.Bt P.x.taken.length P.ct P.x.taken
  vt : VwIn P.T P.Bt P.x.taken.length
  lt : Evs wr wr.heap.size P.Bl P.x.late.length P.cl P.x.late
  vl : VwIn P.T P.Bl P.x.late.length
  gn : Strs wr wr.heap.size P.Bg P.gs.length P.cg P.gs
  vg : VwIn P.T P.Bg P.gs.length
  zS : ∀ b, P.S b → b < P.z
  zT : ∀ b, P.T b → b < P.z
  zm : P.bm < P.z
  zc : P.bc < P.z
  zw : P.z ≤ wr.heap.size
  zl : w.heap.size ≤ P.z
theorem DrM.stay {P : DrK} {w wr w2 : World} {F K : Nat → Prop} {N : Nat} (h : DrM P w F N wr) (hk : Keep K wr w2) (hK : ∀ b, K b → ¬ F b ∧ P.z ≤ b) : DrM P w F N w2 := by
  have hS : ∀ b, K b → ¬ P.S b ∧ b ≠ P.bm ∧ b ≠ P.bc := fun b hb => by
    have h1 := (hK b hb).2; have h2 := h.zm; have h3 := h.zc
    exact ⟨fun hs => by have := h.zS b hs; omega, by omega, by omega⟩
  have hT : ∀ b, K b → ¬ P.T b := fun b hb ht => by have := (hK b hb).2; have := h.zT b ht; omega
  have hs := hk.size
  exact ⟨h.itk.keep hk.size (fun b hb => hk.block b (h.itk.low hb) (fun e => (hK b e).1 hb)), h.ref.stay hk hS, h.ap, h.aT, h.bel.trans (hk.below h.bel.size (fun b hb e => by have := (hK b e).2; have := h.zl; omega)), h.newF, (hk.cell (p := ⟨P.bp, 0, none⟩) (World.block_lt_of_cell? wr ⟨P.bp, 0, none⟩ h.per) (fun e => hT _ e h.tp)).trans h.per, h.tp, Evs.at_stay h.tk h.vt hk hT, h.vt, Evs.at_stay h.lt h.vl hk hT, h.vl, Strs.at_stay h.gn h.vg hk hT, h.vg, h.zS, h.zT, h.zm, h.zc, Nat.le_trans h.zw hs, h.zl⟩
theorem DrM.up {P : DrK} {w wr w2 : World} {F : Nat → Prop} {N : Nat} (h : DrM P w F N wr) (hb : Below wr.heap.size wr w2) : DrM P w F N w2 := h.stay (K := fun _ => False) (Keep.of_below hb) (fun _ h => h.elim)
theorem DrM.more {P : DrK} {w wr : World} {F : Nat → Prop} {N M : Nat} (h : DrM P w F N wr) (hM : N ≤ M) : DrM P w F M wr := { h with itk := h.itk.more hM }
theorem DrM.own {P : DrK} {w wr w2 : World} {F : Nat → Prop} {N M : Nat} (h : DrM P w F N wr) (hd : Deeds wr F P.bi M P.y w2) : ∃ F', DrM P w F' M w2 ∧ Keep F wr w2 ∧ ∀ b, F' b → F b ∨ wr.heap.size ≤ b := by
  obtain ⟨F', hi, hk, hF⟩ := hd
  have hs := hk.size; have hzw := h.zw; have hzl := h.zl; have hzm := h.zm; have hzc := h.zc
  refine ⟨F', ⟨hi, h.ref.stay hk h.ap, fun b hb => ?_, fun b hb => ?_, h.bel.trans (hk.below h.bel.size (fun b hb e => by have := h.newF b e; omega)), fun b hb => ?_, (hk.cell (p := ⟨P.bp, 0, none⟩) (World.block_lt_of_cell? wr ⟨P.bp, 0, none⟩ h.per) (fun e => h.aT _ e h.tp)).trans h.per, h.tp, Evs.at_stay h.tk h.vt hk h.aT, h.vt, Evs.at_stay h.lt h.vl hk h.aT, h.vl, Strs.at_stay h.gn h.vg hk h.aT, h.vg, h.zS, h.zT, h.zm, h.zc, Nat.le_trans h.zw hs, h.zl⟩, hk, hF⟩
  · rcases hF b hb with h' | h'
    · exact h.ap b h'
    · exact ⟨fun hs' => by have := h.zS b hs'; omega, by omega, by omega⟩
  · rcases hF b hb with h' | h'
    · exact h.aT b h'
    · exact fun hs' => by have := h.zT b hs'; omega
  · rcases hF b hb with h' | h'
    · exact h.newF b h'
    · omega
def DrRel1 (P : DrK) (w : World) (N : Nat) (own oth i : Value) (wr : World) : Prop := ∃ (k : Nat) (F : Nat → Prop), i = .int .i64 k ∧ k ≤ P.x.taken.length ∧ own = .int .i64 (cntP P.p (P.x.taken.take k) : Nat) ∧ DrM P w F (N + 2 * k) wr ∧ OwnE wr P.z oth ((P.x.taken.take k).filter (offB P.p)) ∧ ∀ b, oth.ownBlock = some b → ¬ F b
def DrRel2 (P : DrK) (w : World) (F : Nat → Prop) (N : Nat) (oth : Value) (own rest i : Value) (wr : World) : Prop := ∃ (k : Nat), i = .int .i64 k ∧ k ≤ P.x.late.length ∧ own = .int .i64 ((cntP P.p P.x.taken : Nat) + (cntP P.p (P.x.late.take k) : Nat)) ∧ DrM P w F N wr ∧ OwnE wr P.z oth (P.x.taken.filter (offB P.p)) ∧ OwnE wr P.z rest ((P.x.late.take k).filter (offB P.p)) ∧ oth.ownBlock ≠ rest.ownBlock ∧ ∀ b, rest.ownBlock = some b → ¬ F b

set_option linter.unusedSimpArgs false in
set_option maxRecDepth 100000 in
set_option maxHeartbeats 8000000 in
theorem drops_any (w : World) (slack idle : Int) (A : Option Addr) (n c : Nat) (ds : List Dd) (h : Dds w w.heap.size A n c ds) (hn : n ≤ 140737488355328) (hkd : ∀ d ∈ ds, 0 ≤ d.kind ∧ d.kind ≤ 255) (p : List UInt8) (hmx : MaxAt w) :
    Calls Tryz.prog 8 #[.int .i64 slack, .int .i64 idle, .slice A n c, .string ⟨p.toArray⟩] w (Says true w) := by
  have hmlt := hmx.lt
  have hbb : Below w.heap.size w (w.alloc (.cells #[.string ⟨p.toArray⟩] 9)) := (Below.refl _ _).alloc (Nat.le_refl _) _
  have HP0 := Lib.hid (show (w.alloc (.cells #[.string ⟨p.toArray⟩] 9)).cell? ⟨w.heap.size, 0, none⟩ = some (.string ⟨p.toArray⟩) from (cell_of_row _ w.heap.size 0 _ _ (0, 0) (heap_alloc_new w _)).trans rfl)
  have HH0 := Lib.hid (show Dds (w.alloc (.cells #[.string ⟨p.toArray⟩] 9)) (w.alloc (.cells #[.string ⟨p.toArray⟩] 9)).heap.size A n c ds from Cel.more (Cel.below h hbb) hbb.size)
  have HKD := Lib.hid hkd; clear hkd
  have HMX := Lib.hid hmx; clear hmx
  have HBB := Lib.hid hbb
  have hs0 : (w.alloc (.cells #[.string ⟨p.toArray⟩] 9)).heap.size = w.heap.size + 1 := by simp
  clear h hbb
  go_enter Tryz.func8, Tryz.ntmps8
  go_wp2_with fail
  generalize w.alloc (.cells #[.string ⟨p.toArray⟩] 9) = w0 at *
  refine (lives_any w0 (HMX.out.up HBB.out)).mono ?_
  rintro r w1 ⟨rfl, hb1⟩
  have hs1 := hb1.size
  have HH1 := Lib.hid (show Dds w1 w1.heap.size A n c ds from Cel.more (Cel.below HH0.out hb1) hs1)
  go_wp2_with fail
  refine (heavy_any w1 A n c ds HH1.out hn 20).mono ?_
  rintro r w2 ⟨rfl, hb2⟩
  have hs2 := hb2.size
  have hb02 : Below w0.heap.size w0 w2 := hb1.trans (hb2.mono hs1)
  have HBW2 := Lib.hid (HBB.out.trans (hb02.mono HBB.out.size))
  have hp2 : w2.cell? ⟨w.heap.size, 0, none⟩ = some (.string ⟨p.toArray⟩) := (hb02.cell (p := ⟨w.heap.size, 0, none⟩) (by show w.heap.size < _; omega)).trans HP0.out
  have HP2 := Lib.hid hp2
  have HH2 := Lib.hid (show Dds w2 w2.heap.size A n c ds from Cel.more (Cel.below HH1.out hb2) hs2)
  clear hb2 hb1 HH1 HH0 HP0 hb02
  cases hhv : heavyB ds 20
  case true =>
    clear hhv hp2
    go_wp2
    go_ret
    exact ⟨rfl, HBW2.out⟩
  obtain ⟨hl, hsm⟩ := heavy_smallN (m := 20) hhv
  have HSM := Lib.hid hsm
  have hlen := HH2.out.len
  have hn20 : n ≤ 20 := by omega
  clear hhv hsm hlen hl
  by_cases hp3 : 300 < p.length
  · have t0 : (300 : Int) < p.length := by omega
    go_wp2
    go_ret
    exact ⟨rfl, HBW2.out⟩
  have t0 : ¬ (300 : Int) < p.length := by omega
  go_wp2_with fail
  clear hp2
  refine (grown_any w2 slack idle A n c ds HH2.out (by omega) HSM.out HKD.out (HMX.out.up HBW2.out)).mono ?_
  rintro r w3 ⟨F3, S, bi, bm, bc, rfl, hB⟩
  have HPI := Lib.hid (PlayInv.grown slack idle ds)
  have HSI := Lib.hid (small_grown slack idle ds HSM.out)
  generalize Itk.grown slack idle ds = x at *
  have HB3 := Lib.hid (hB.base HBW2.out)
  have HP3 := Lib.hid (show w3.cell? ⟨w.heap.size, 0, none⟩ = some (.string ⟨p.toArray⟩) from (hB.bel.cell (p := ⟨w.heap.size, 0, none⟩) (by show w.heap.size < _; omega)).trans HP2.out)
  have htl : x.taken.length ≤ 3 * n := hB.both.ref.tl
  have hll : x.late.length ≤ 3 * n := hB.both.ref.ll
  have hs3 := hB.bel.size
  have HFQ := Lib.hid (show ∀ b, F3 b → w2.heap.size ≤ b ∧ b < w3.heap.size from fun b hb => ⟨hB.newF b hb, hB.both.itk.low hb⟩)
  have HSQ := Lib.hid (show (∀ b, S b → b < w3.heap.size) ∧ bm < w3.heap.size ∧ bc < w3.heap.size from ⟨hB.both.ref.clk.low, hB.both.ref.lt, hB.both.ref.clk.lt⟩)
  clear hB HH2 HSM HKD HP2
  go_wp2_with fail
  refine (itaken_any w3 F3 bi (3 * n) x HB3.out.both.itk (by omega)).mono ?_
  rintro r w4 ⟨v4, rfl, ho4, hb4⟩
  obtain ⟨Bt, ct, hv4, _⟩ := ho4.form
  subst hv4
  have HE4 := Lib.hid (show Evs w4 w4.heap.size Bt x.taken.length ct x.taken from Cel.of_own ho4)
  have HV4 := Lib.hid (show VwIn (fun b => w3.heap.size ≤ b ∧ b < w4.heap.size) Bt x.taken.length from own_in9 ho4)
  have HB4 := Lib.hid (HB3.out.up hb4)
  have hs4 := hb4.size
  have HP4 := Lib.hid ((hb4.cell (p := ⟨w.heap.size, 0, none⟩) (by show w.heap.size < _; omega)).trans HP3.out)
  clear ho4 hb4
  go_wp2_with fail
  refine (ilate_any w4 F3 bi (3 * n) x HB4.out.both.itk (by omega)).mono ?_
  rintro r w5 ⟨v5, rfl, ho5, hb5⟩
  obtain ⟨Bl, cl, hv5, _⟩ := ho5.form
  subst hv5
  have HE5 := Lib.hid (evs_below HE4.out hb5)
  have HL5 := Lib.hid (show Evs w5 w5.heap.size Bl x.late.length cl x.late from Cel.of_own ho5)
  have HV5 := Lib.hid (show VwIn (fun b => w4.heap.size ≤ b ∧ b < w5.heap.size) Bl x.late.length from own_in9 ho5)
  have HB5 := Lib.hid (HB4.out.up hb5)
  have hs5 := hb5.size
  have HP5 := Lib.hid ((hb5.cell (p := ⟨w.heap.size, 0, none⟩) (by show w.heap.size < _; omega)).trans HP4.out)
  clear ho5 hb5
  go_wp2_with fail
  refine (igone_any w5 F3 bi (3 * n) x HB5.out.both.itk (by omega)).mono ?_
  rintro r w6 ⟨v6, gs, rfl, hgr, ho6, hb6⟩
  obtain ⟨Bg, cg, hv6⟩ := ownsRow_form ho6
  subst hv6
  have HE6 := Lib.hid (evs_below HE5.out hb6)
  have HL6 := Lib.hid (evs_below HL5.out hb6)
  have HG6 := Lib.hid (show Strs w6 w6.heap.size Bg gs.length cg gs from Cel.of_own ho6)
  have HV6 := Lib.hid (show VwIn (fun b => w5.heap.size ≤ b ∧ b < w6.heap.size) Bg gs.length from own_in9 ho6)
  have HB6 := Lib.hid (HB5.out.up hb6)
  have HGR := Lib.hid hgr
  have hs6 := hb6.size
  have HP6 := Lib.hid ((hb6.cell (p := ⟨w.heap.size, 0, none⟩) (by show w.heap.size < _; omega)).trans HP5.out)
  clear ho6 hb6 hgr HE4 HE5 HL5 HB3 HB4 HB5 HP3 HP4 HP5
  go_wp2_with fail
  refine (drop_any w6 F3 bi (3 * n) x HB6.out.both.itk (by omega) 38 #[.pointer (some ⟨w.heap.size, 0, none⟩)] (offB p) (fun _ _ => by kernel_rfl) (fun w8 e _ hb8 => drops1_any w8 w.heap.size p e ((hb8.cell (p := ⟨w.heap.size, 0, none⟩) (by show w.heap.size < _; omega)).trans HP6.out))).mono ?_
  rintro r w7 ⟨rfl, hd7⟩
  have hr7 := HB6.out.both.ref1 hd7
  obtain ⟨F7, hi7, hk7, hF7⟩ := hd7
  have hs7 := hk7.size
  have HDM := Lib.hid (show DrM (DrK.mk bi bm bc S (3 * n) (x.drop (offB p)) x (DrT w w3 w6) w.heap.size p Bt ct Bl cl Bg cg gs w7.heap.size) w F7 (3 * n) w7 from by
    have hSQ := HSQ.out
    have nT : ∀ b, F3 b → ¬ DrT w w3 w6 b := fun b hb ht => by
      have := HFQ.out b hb
      rcases ht with ht | ht <;> omega
    exact {
      itk := hi7
      ref := hr7
      ap := fun b hb => by
        rcases hF7 b hb with h' | h'
        · exact HB6.out.both.ap b h'
        · exact ⟨fun hs' => by have := hSQ.1 b hs'; omega, by have := hSQ.2.1; show b ≠ bm; omega, by have := hSQ.2.2; show b ≠ bc; omega⟩
      aT := fun b hb => by
        rcases hF7 b hb with h' | h'
        · exact nT b h'
        · intro ht
          rcases ht with ht | ht <;> omega
      bel := HB6.out.bel.trans (hk7.below HB6.out.bel.size (fun b hb hf => by have := HFQ.out b hf; omega))
      newF := fun b hb => by
        rcases hF7 b hb with h' | h'
        · have := HFQ.out b h'; omega
        · omega
      per := (hk7.cell (p := ⟨w.heap.size, 0, none⟩) (by show w.heap.size < _; omega) (fun hf => nT _ hf (.inl rfl))).trans HP6.out
      tp := .inl rfl
      tk := Evs.at_stay HE6.out (HV4.out.mono (T := DrT w w3 w6) fun b hb => .inr (by omega)) hk7 nT
      vt := HV4.out.mono fun b hb => .inr (by omega)
      lt := Evs.at_stay HL6.out (HV5.out.mono (T := DrT w w3 w6) fun b hb => .inr (by omega)) hk7 nT
      vl := HV5.out.mono fun b hb => .inr (by omega)
      gn := Strs.at_stay HG6.out (HV6.out.mono (T := DrT w w3 w6) fun b hb => .inr (by omega)) hk7 nT
      vg := HV6.out.mono fun b hb => .inr (by omega)
      zS := fun b hb => by have := hSQ.1 b hb; show b < w7.heap.size; omega
      zT := fun b hb => by
        show b < w7.heap.size
        rcases hb with ht | ht <;> omega
      zm := by have := hSQ.2.1; show bm < w7.heap.size; omega
      zc := by have := hSQ.2.2; show bc < w7.heap.size; omega
      zw := Nat.le_refl _
      zl := by show w.heap.size ≤ w7.heap.size; omega })
  have HDT := Lib.hid (show ∀ e ∈ x.taken, (x.drop (offB p)).offer e 0 = x.drop (offB p) ∧ (x.drop (offB p)).offered e 0 = 1 from fun e he => HPI.out.dropped (by omega) (offB p) he)
  have HOW := Lib.hid (show OwnE (w7.alloc (.cells #[] 28)) w7.heap.size (.slice (some ⟨w7.heap.size, 0, none⟩) 0 0) [] from World.ownsRow_lit w7 #[] 0 (Nat.le_refl _) (by simp [maxLen]) rfl)
  have HST := Lib.hid (show DrRel1 (DrK.mk bi bm bc S (3 * n) (x.drop (offB p)) x (DrT w w3 w6) w.heap.size p Bt ct Bl cl Bg cg gs w7.heap.size) w (3 * n) (.int .i64 ((0 : Nat) : Int)) (.slice (some ⟨w7.heap.size, 0, none⟩) 0 0) (.int .i64 ((0 : Nat) : Int)) (w7.alloc (.cells #[] 28)) from
    ⟨0, F7, rfl, Nat.zero_le _, rfl, HDM.out.up ((Below.refl _ _).alloc (Nat.le_refl _) _), HOW.out, fun b hb hf => by
      have hb2 : w7.heap.size = b := by injection hb
      have := HDM.out.itk.low hf
      omega⟩)
  clear hr7 hi7 hk7 hF7 HDM HOW HE6 HL6 HG6 HV4 HV5 HV6 HP6 HB6 HFQ HSQ
  obtain ⟨i0, hi, hz0, hz1, hz2⟩ := info_parts ev_info
  have HI := Lib.hid hi; have HZ0 := Lib.hid hz0; have HZ1 := Lib.hid hz1; have HZ2 := Lib.hid hz2
  clear hi hz0 hz1 hz2
  go_wp2
  go_loopw [16, 17, 18] (fun own oth i wr => DrRel1 (DrK.mk bi bm bc S (3 * n) (x.drop (offB p)) x (DrT w w3 w6) w.heap.size p Bt ct Bl cl Bg cg gs w7.heap.size) w (3 * n) own oth i wr) (fun _ _ i _ => x.taken.length - (intOf i).toNat)
  case atStart => exact HST.out
  case round =>
    obtain ⟨k, F, rfl, hk, rfl, hM, ho, hnF⟩ := hrel
    have HM := Lib.hid hM; have HO := Lib.hid ho; have HNF := Lib.hid hnF
    have hbel : Below w.heap.size w wr := hM.bel
    have hpc : wr.cell? ⟨w.heap.size, 0, none⟩ = some (.string ⟨p.toArray⟩) := hM.per
    have hzw : w7.heap.size ≤ wr.heap.size := hM.zw
    simp only at hk
    clear hM ho hnF
    by_cases hkn : k < x.taken.length
    · obtain ⟨b, off, hBt, hb, hev⟩ := (show Evs wr wr.heap.size Bt x.taken.length ct x.taken from HM.out.tk).ev k hkn
      subst hBt
      have HDD := Lib.hid (HDT.out _ (List.getElem_mem hkn))
      have HSE := Lib.hid (HSI.out.taken _ (List.getElem_mem hkn))
      have HTK := Lib.hid (wfilt_take x.taken (offB p) k hkn)
      have HCT := Lib.hid (cntP_take p x.taken k hkn)
      have hcl := cntP_le p (x.taken.take k)
      rw [List.length_take] at hcl
      have hlen : ((x.taken.take k).filter (offB p)).length ≤ k := by
        have := List.length_filter_le (offB p) (x.taken.take k); rw [List.length_take] at this; omega
      generalize x.taken[k] = y at *
      have HEV := Lib.hid hev
      obtain ⟨e0, e1, e2, e3, e4, e5, e6, e7⟩ := hev
      have t1 : (k : Int) < x.taken.length := by omega
      rcases Bool.eq_false_or_eq_true (y.per == p) with hp | hp
      · have HT : Hid ((x.taken.take (k + 1)).filter (offB p) = (x.taken.take k).filter (offB p)) := by have := HTK.out; rw [show offB p y = false by unfold offB; simp [bne, hp]] at this; unfold Hid; simpa using this
        have HC : Hid (cntP p (x.taken.take (k + 1)) = cntP p (x.taken.take k) + 1) := by have := HCT.out; rw [hp] at this; exact this
        clear HTK HCT
        go_wp2
        go_quiet (fail)
        have HM1 := Lib.hid (HM.out.up (w2 := wr.drewN nq) (below_drewN (Below.refl _ _) nq))
        have HO1 := Lib.hid (show OwnE (wr.drewN nq) w7.heap.size u17 ((x.taken.take k).filter (offB p)) from HO.out.keep (fun _ _ => rfl))
        have HEV1 := Lib.hid (show EvAt (wr.drewN nq) b (off + k * 8) y from HEV.out)
        clear e0 e1 e2 e3 e4 e5 e6 e7 hpc HM HO HEV
        generalize wr.drewN nq = w8 at *
        obtain ⟨e0, e1, e2, e3, e4, e5, e6, e7⟩ := HEV1.out
        go_wp2_with fail
        refine (offer_any w8 F bi (3 * n + 2 * k) (x.drop (offB p)) HM1.out.itk (by omega) y HSE.out 0 (HMX.out.up HM1.out.bel) (fun hf => by have := HM1.out.newF _ hf; omega)).mono ?_
        rintro r w9 ⟨rfl, hd9⟩
        rw [HDD.out.1] at hd9
        rw [HDD.out.2]
        obtain ⟨F9, hM9, hk9, hF9⟩ := HM1.out.own (M := 3 * n + 2 * k + 2) hd9
        have HREL := Lib.hid (show DrRel1 (DrK.mk bi bm bc S (3 * n) (x.drop (offB p)) x (DrT w w3 w6) w.heap.size p (some ⟨b, off, none⟩) ct Bl cl Bg cg gs w7.heap.size) w (3 * n) (.int .i64 ((cntP p (x.taken.take k) : Nat) + 1)) u17 (.int .i64 ((k + 1 : Nat) : Int)) w9 from
          ⟨k + 1, F9, rfl, hkn, by rw [show cntP p (x.taken.take (k + 1)) = _ from HC.out]; rfl, by rw [show 3 * n + 2 * (k + 1) = 3 * n + 2 * k + 2 by omega]; exact hM9, by
            show OwnE w9 w7.heap.size u17 ((x.taken.take (k + 1)).filter (offB p))
            rw [HT.out]
            exact HO1.out.keep (fun b' hb' => hk9.block b' (HO1.out.lt hb') (HNF.out b' hb')), fun b' hb' hf => by
            rcases hF9 b' hf with h' | h'
            · exact HNF.out b' hb' h'
            · have := HO1.out.lt hb'; omega⟩)
        clear hd9 hM9 hk9 hF9 e0 e1 e2 e3 e4 e5 e6 e7
        go_wp2
        go_roundw
        case rel => exact HREL.out
        case measure => simp [intOf]; omega
      · have b1 : offB p y = true := by unfold offB; simp [bne, hp]
        have HT : Hid ((x.taken.take (k + 1)).filter (offB p) = (x.taken.take k).filter (offB p) ++ [y]) := by have := HTK.out; rw [b1] at this; unfold Hid; simpa using this
        have HC : Hid (cntP p (x.taken.take (k + 1)) = cntP p (x.taken.take k)) := by have := HCT.out; rw [hp] at this; exact this
        clear HTK HCT b1
        go_wp2
        go_quiet (fail)
        have HM1 := Lib.hid (HM.out.up (w2 := wr.drewN nq) (below_drewN (Below.refl _ _) nq))
        have HO1 := Lib.hid (show OwnE (wr.drewN nq) w7.heap.size u17 ((x.taken.take k).filter (offB p)) from HO.out.keep (fun _ _ => rfl))
        have HEV1 := Lib.hid (show EvAt (wr.drewN nq) b (off + k * 8) y from HEV.out)
        have hzw8 : w7.heap.size ≤ (wr.drewN nq).heap.size := hzw
        clear e0 e1 e2 e3 e4 e5 e6 e7 hpc HM HO HEV
        generalize wr.drewN nq = w8 at *
        generalize (x.taken.take k).filter (offB p) = out at *
        obtain ⟨e0, e1, e2, e3, e4, e5, e6, e7⟩ := HEV1.out
        go_wp2_with (at_builtin; refine wpList_app (P := Tryz.prog) rfl (.tmp 84) (.tmp 89) 22 rfl 28 i0 _ 8 96 Tryz.underlying22 HI.out HZ0.out HZ1.out HZ2.out rfl (by decide) w7.heap.size _ out.length (evCells out) rfl ?c1 (w8.heap.size + 1) _ _ _ y.cells rfl ?c2 (cells_one y) ?c4 ?c5 ?c6 ?_)
        case c1 => exact World.ownsRow.alloc HO1.out _
        case c2 => exact Cel.new w8 _ _ (by unfold maxLen; omega) rfl
        case c4 => unfold maxLen; omega
        case c5 => omega
        case c6 => first | omega | (simp; omega)
        intro v' w2' hown2 hg2 hvv
        have hown3 : OwnE w2' w7.heap.size v' (out ++ [y]) := by unfold OwnE; rw [evCells_one, List.length_append]; exact hown2
        have hbA : Below w8.heap.size w8 (w8.alloc (evObj y)) := (Below.refl _ _).alloc (Nat.le_refl _) _
        have hsA : (w8.alloc (evObj y)).heap.size = w8.heap.size + 1 := by simp
        have hM2 := (HM1.out.up hbA).stay (K := fun b' => u17.ownBlock = some b') (Keep.of_grown hg2 (fun _ h => h)) (fun b' hb' => ⟨HNF.out b' hb', (World.ownsRow.lt HO1.out b' hb').1⟩)
        have HREL := Lib.hid (show DrRel1 (DrK.mk bi bm bc S (3 * n) (x.drop (offB p)) x (DrT w w3 w6) w.heap.size p (some ⟨b, off, none⟩) ct Bl cl Bg cg gs w7.heap.size) w (3 * n) (.int .i64 (cntP p (x.taken.take k) : Nat)) v' (.int .i64 ((k + 1 : Nat) : Int)) w2' from
          ⟨k + 1, F, rfl, hkn, by rw [show cntP p (x.taken.take (k + 1)) = _ from HC.out], hM2.more (by omega), by
            show OwnE w2' w7.heap.size v' ((x.taken.take (k + 1)).filter (offB p))
            rw [HT.out]; exact hown3, fun b' hb' hf => by
            rcases hvv with h' | h'
            · exact HNF.out b' (h' ▸ hb') hf
            · rw [h'] at hb'
              have hb2 := Option.some.inj hb'
              have := HM1.out.itk.low hf
              omega⟩)
        clear hown2 hown3 hg2 hvv hM2 hbA e0 e1 e2 e3 e4 e5 e6 e7
        go_wp2
        go_roundw
        case rel => exact HREL.out
        case measure => simp [intOf]; omega
    · have t1 : ¬ (k : Int) < x.taken.length := by omega
      have HKK := Lib.hid (show x.taken.take k = x.taken from List.take_of_length_le (by omega))
      have hs8 : (wr.alloc (.cells #[] 28)).heap.size = wr.heap.size + 1 := by simp
      have hb8 : Below wr.heap.size wr (wr.alloc (.cells #[] 28)) := (Below.refl _ _).alloc (Nat.le_refl _) _
      have HST2 := Lib.hid (show DrRel2 (DrK.mk bi bm bc S (3 * n) (x.drop (offB p)) x (DrT w w3 w6) w.heap.size p Bt ct Bl cl Bg cg gs w7.heap.size) w F (3 * n + 2 * k) u17 (.int .i64 ((cntP p (x.taken.take k) : Nat) : Int)) (.slice (some ⟨wr.heap.size, 0, none⟩) 0 0) (.int .i64 ((0 : Nat) : Int)) (wr.alloc (.cells #[] 28)) from
        ⟨0, rfl, Nat.zero_le _, by
          show Value.int .i64 _ = Value.int .i64 ((cntP p x.taken : Nat) + (cntP p (x.late.take 0) : Nat))
          rw [HKK.out]; simp [cntP], HM.out.up hb8, by
          show OwnE _ w7.heap.size u17 (x.taken.filter (offB p))
          have h1 := HO.out
          have h2 : OwnE wr w7.heap.size u17 ((x.taken.take k).filter (offB p)) := h1
          rw [HKK.out] at h2
          exact h2.keep (fun b' hb' => hb8.block b' (h2.lt hb')), by
          have h3 : OwnE (wr.alloc (.cells #[] 28)) wr.heap.size (.slice (some ⟨wr.heap.size, 0, none⟩) 0 0) [] := World.ownsRow_lit wr #[] 0 (Nat.le_refl _) (by simp [maxLen]) rfl
          exact h3.down hzw, fun e => by
          have h4 := HO.out.lt (b := wr.heap.size) e
          omega, fun b' hb' hf => by
          have hb2 : wr.heap.size = b' := by injection hb'
          have := HM.out.itk.low hf
          omega⟩)
      have HCK := Lib.hid (show cntP p (x.taken.take k) = cntP p x.taken by rw [HKK.out])
      have hct := cntP_le p x.taken
      have HM8 := Lib.hid HM.out
      clear HM HO HNF HST hpc hb8 hs8
      go_wp2
      go_loopw [16, 20, 21] (fun own rest i wz => DrRel2 (DrK.mk bi bm bc S (3 * n) (x.drop (offB p)) x (DrT w w3 w6) w.heap.size p Bt ct Bl cl Bg cg gs w7.heap.size) w F (3 * n + 2 * k) u17 own rest i wz) (fun _ _ i _ => x.late.length - (intOf i).toNat)
      case atStart => exact HST2.out
      case round =>
        obtain ⟨j, rfl, hj, rfl, hM, ho, hor, hne, hnF⟩ := hrel
        have HM := Lib.hid hM; have HO := Lib.hid ho; have HOR := Lib.hid hor; have HNE := Lib.hid hne; have HNF := Lib.hid hnF
        have hpc : wr.cell? ⟨w.heap.size, 0, none⟩ = some (.string ⟨p.toArray⟩) := hM.per
        have hzw : w7.heap.size ≤ wr.heap.size := hM.zw
        simp only at hj
        clear hM ho hor hne hnF
        by_cases hjn : j < x.late.length
        · obtain ⟨b, off, hBl, hb, hev⟩ := (show Evs wr wr.heap.size Bl x.late.length cl x.late from HM.out.lt).ev j hjn
          subst hBl
          have HTK := Lib.hid (wfilt_take x.late (offB p) j hjn)
          have HCT := Lib.hid (cntP_take p x.late j hjn)
          have hcl := cntP_le p (x.late.take j)
          rw [List.length_take] at hcl
          have hlen : ((x.late.take j).filter (offB p)).length ≤ j := by
            have := List.length_filter_le (offB p) (x.late.take j); rw [List.length_take] at this; omega
          generalize x.late[j] = y at *
          have HEV := Lib.hid hev
          obtain ⟨e0, e1, e2, e3, e4, e5, e6, e7⟩ := hev
          have t2 : (j : Int) < x.late.length := by omega
          rcases Bool.eq_false_or_eq_true (y.per == p) with hp | hp
          · have HT : Hid ((x.late.take (j + 1)).filter (offB p) = (x.late.take j).filter (offB p)) := by have := HTK.out; rw [show offB p y = false by unfold offB; simp [bne, hp]] at this; unfold Hid; simpa using this
            have HC : Hid (cntP p (x.late.take (j + 1)) = cntP p (x.late.take j) + 1) := by have := HCT.out; rw [hp] at this; exact this
            clear HTK HCT
            go_wp2
            go_quiet (fail)
            have HREL := Lib.hid (show DrRel2 (DrK.mk bi bm bc S (3 * n) (x.drop (offB p)) x (DrT w w3 w6) w.heap.size p Bt ct (some ⟨b, off, none⟩) cl Bg cg gs w7.heap.size) w F (3 * n + 2 * k) u17 (.int .i64 ((cntP p x.taken : Nat) + (cntP p (x.late.take j) : Nat) + 1)) u20 (.int .i64 ((j + 1 : Nat) : Int)) (wr.drewN nq) from
              ⟨j + 1, rfl, hjn, by
                rw [show cntP p (x.late.take (j + 1)) = _ from HC.out]
                show Value.int .i64 _ = Value.int .i64 _
                congr 1 <;> omega, HM.out.up (w2 := wr.drewN nq) (below_drewN (Below.refl _ _) nq), HO.out.keep (fun _ _ => rfl), by
                show OwnE (wr.drewN nq) w7.heap.size u20 ((x.late.take (j + 1)).filter (offB p))
                rw [HT.out]
                exact HOR.out.keep (fun _ _ => rfl), HNE.out, HNF.out⟩)
            clear e0 e1 e2 e3 e4 e5 e6 e7 hpc HM HO HOR HEV
            go_wp2
            go_roundw
            case rel => exact HREL.out
            case measure => simp [intOf]; omega
          · have b1 : offB p y = true := by unfold offB; simp [bne, hp]
            have HT : Hid ((x.late.take (j + 1)).filter (offB p) = (x.late.take j).filter (offB p) ++ [y]) := by have := HTK.out; rw [b1] at this; unfold Hid; simpa using this
            have HC : Hid (cntP p (x.late.take (j + 1)) = cntP p (x.late.take j)) := by have := HCT.out; rw [hp] at this; exact this
            clear HTK HCT b1
            go_wp2
            go_quiet (fail)
            have HM1 := Lib.hid (HM.out.up (w2 := wr.drewN nq) (below_drewN (Below.refl _ _) nq))
            have HO1 := Lib.hid (show OwnE (wr.drewN nq) w7.heap.size u17 (x.taken.filter (offB p)) from HO.out.keep (fun _ _ => rfl))
            have HOR1 := Lib.hid (show OwnE (wr.drewN nq) w7.heap.size u20 ((x.late.take j).filter (offB p)) from HOR.out.keep (fun _ _ => rfl))
            have HEV1 := Lib.hid (show EvAt (wr.drewN nq) b (off + j * 8) y from HEV.out)
            have hzw8 : w7.heap.size ≤ (wr.drewN nq).heap.size := hzw
            clear e0 e1 e2 e3 e4 e5 e6 e7 hpc HM HO HOR HEV
            generalize wr.drewN nq = w8 at *
            generalize (x.late.take j).filter (offB p) = out at *
            obtain ⟨e0, e1, e2, e3, e4, e5, e6, e7⟩ := HEV1.out
            go_wp2_with (at_builtin; refine wpList_app (P := Tryz.prog) rfl (.tmp 107) (.tmp 112) 22 rfl 28 i0 _ 8 96 Tryz.underlying22 HI.out HZ0.out HZ1.out HZ2.out rfl (by decide) w7.heap.size _ out.length (evCells out) rfl ?k1 (w8.heap.size + 1) _ _ _ y.cells rfl ?k2 (cells_one y) ?k4 ?k5 ?k6 ?_)
            case k1 => exact World.ownsRow.alloc HOR1.out _
            case k2 => exact Cel.new w8 _ _ (by unfold maxLen; omega) rfl
            case k4 => unfold maxLen; omega
            case k5 => omega
            case k6 => first | omega | (simp; omega)
            intro v' w2' hown2 hg2 hvv
            have hown3 : OwnE w2' w7.heap.size v' (out ++ [y]) := by unfold OwnE; rw [evCells_one, List.length_append]; exact hown2
            have hbA : Below w8.heap.size w8 (w8.alloc (evObj y)) := (Below.refl _ _).alloc (Nat.le_refl _) _
            have hM2 := (HM1.out.up hbA).stay (K := fun b' => u20.ownBlock = some b') (Keep.of_grown hg2 (fun _ h => h)) (fun b' hb' => ⟨HNF.out b' hb', (World.ownsRow.lt HOR1.out b' hb').1⟩)
            have HREL := Lib.hid (show DrRel2 (DrK.mk bi bm bc S (3 * n) (x.drop (offB p)) x (DrT w w3 w6) w.heap.size p Bt ct (some ⟨b, off, none⟩) cl Bg cg gs w7.heap.size) w F (3 * n + 2 * k) u17 (.int .i64 ((cntP p x.taken : Nat) + (cntP p (x.late.take j) : Nat))) v' (.int .i64 ((j + 1 : Nat) : Int)) w2' from
              ⟨j + 1, rfl, hjn, by rw [show cntP p (x.late.take (j + 1)) = _ from HC.out], hM2, by
                show OwnE w2' w7.heap.size u17 (x.taken.filter (offB p))
                exact World.ownsRow.kept (World.ownsRow.alloc HO1.out _) hg2 (.inr HNE.out), by
                show OwnE w2' w7.heap.size v' ((x.late.take (j + 1)).filter (offB p))
                rw [HT.out]; exact hown3, fun e => by
                rcases hvv with h' | h'
                · exact HNE.out (e.trans h')
                · rw [h'] at e
                  have := HO1.out.lt e
                  omega, fun b' hb' hf => by
                rcases hvv with h' | h'
                · exact HNF.out b' (h' ▸ hb') hf
                · rw [h'] at hb'
                  have hb2 := Option.some.inj hb'
                  have := HM1.out.itk.low hf
                  omega⟩)
            clear hown2 hown3 hg2 hvv hM2 hbA e0 e1 e2 e3 e4 e5 e6 e7
            go_wp2
            go_roundw
            case rel => exact HREL.out
            case measure => simp [intOf]; omega
        · have t2 : ¬ (j : Int) < x.late.length := by omega
          have HJJ := Lib.hid (show x.late.take j = x.late from List.take_of_length_le (by omega))
          have HEQ := Lib.hid (show dropN x (offB p) = (cntP p x.taken : Nat) + (cntP p (x.late.take j) : Nat) from by
            rw [HJJ.out, cnt_off p x.taken, cnt_off p x.late]
            unfold dropN
            have h1 : offB p = fun e => e.per != p := rfl
            rw [h1]; omega)
          have hfl1 := List.length_filter_le (offB p) x.taken
          have hfl2 := List.length_filter_le (offB p) x.late
          have HOR2 := Lib.hid (show OwnE wr w7.heap.size u20 (x.late.filter (offB p)) by have := HOR.out; rw [show (DrK.p (DrK.mk bi bm bc S (3 * n) (x.drop (offB p)) x (DrT w w3 w6) w.heap.size p Bt ct Bl cl Bg cg gs w7.heap.size)) = p from rfl, show (DrK.x (DrK.mk bi bm bc S (3 * n) (x.drop (offB p)) x (DrT w w3 w6) w.heap.size p Bt ct Bl cl Bg cg gs w7.heap.size)) = x from rfl, HJJ.out] at this; exact this)
          have HO2 := Lib.hid (show OwnE wr w7.heap.size u17 (x.taken.filter (offB p)) from HO.out)
          obtain ⟨B17, c17, hv17, _⟩ := HO2.out.form
          obtain ⟨B20, c20, hv20, _⟩ := HOR2.out.form
          subst hv17 hv20
          have HET := Lib.hid (show Evs wr wr.heap.size B17 (x.taken.filter (offB p)).length c17 (x.taken.filter (offB p)) from Cel.of_own HO2.out)
          have HEL := Lib.hid (show Evs wr wr.heap.size B20 (x.late.filter (offB p)).length c20 (x.late.filter (offB p)) from Cel.of_own HOR2.out)
          have HGS := Lib.hid (show Strs wr wr.heap.size Bg gs.length cg gs from HM.out.gn)
          have href : RItk wr bm bc S (3 * n) x := HM.out.ref
          have HI0 := Lib.hid (show ItkAt wr F bi (3 * n + 2 * k) (x.drop (offB p)) from HM.out.itk)
          obtain ⟨vh, vt, vl, vg, hic, hpp, _⟩ := href.cells
          obtain ⟨Ah, ch, R, rfl, hads, hkeys, hRl, hRr⟩ := hpp.had
          obtain ⟨_, _, gs2, _, _, _, hgr2, hgl2⟩ := hpp.gone
          have hgl : gs.length ≤ 3 * n := by rw [rising_unique HGR.out hgr2]; exact hgl2
          have hbm : bm < wr.heap.size := href.lt
          have hc1 := hic.c1
          have HSS := Lib.hid (show ∀ W, Below wr.heap.size wr W → W.cell? ⟨bm, 1, none⟩ = some (.slice Ah R.length ch) from fun W hW => (hW.cell (p := ⟨bm, 1, none⟩) hbm).trans hc1)
          have HADS := Lib.hid hads; have HKEYS := Lib.hid hkeys; have HRR := Lib.hid hRr
          have HOK := Lib.hid href.ok
          have HROWL := Lib.hid (show ∀ q ∈ x.had, q.2.length ≤ 90000 from fun q hq => by
            obtain ⟨A, hM, hO, _⟩ := HI0.out
            have := hO.rows q.1
            rw [show (x.drop (offB p)).had = x.had from rfl, row_of_mem href.ok hq] at this; omega)
          have hhadl : x.had.length ≤ 80000 := by obtain ⟨A, hM, hO, _⟩ := HI0.out; have h1 : x.had.length ≤ 3 * n + 2 * k := hO.had; omega
          have HBEL := Lib.hid (show Below w.heap.size w wr from HM.out.bel)
          clear hic hpp hads hkeys hRr href hc1 hgr2 HO HOR HO2 HOR2 hpc
          have HTK := Lib.hid (show ∀ W, Below wr.heap.size wr W → Calls Tryz.prog 15 #[.pointer (some ⟨bi, 0, none⟩)] W (OwnPost W (x.taken.filter (offB p))) from fun W hW => itaken_any W F bi (3 * n + 2 * k) (x.drop (offB p)) (HI0.out.up hW) (by omega))
          have HLT := Lib.hid (show ∀ W, Below wr.heap.size wr W → Calls Tryz.prog 35 #[.pointer (some ⟨bi, 0, none⟩)] W (OwnPost W (x.late.filter (offB p))) from fun W hW => ilate_any W F bi (3 * n + 2 * k) (x.drop (offB p)) (HI0.out.up hW) (by omega))
          have HGN := Lib.hid (show ∀ W, Below wr.heap.size wr W → Calls Tryz.prog 17 #[.pointer (some ⟨bi, 0, none⟩)] W (SrcPost W gs) from fun W hW => (igone_any W F bi (3 * n + 2 * k) (x.drop (offB p)) (HI0.out.up hW) (by omega)).mono fun e w' ⟨v, r, he, hr, ho, hb⟩ => ⟨v, he, by rw [← rising_unique hr HGR.out]; exact ho, hb⟩)
          have HHD := Lib.hid (show ∀ W, Below wr.heap.size wr W → Calls Tryz.prog 39 #[.pointer (some ⟨bi, 0, none⟩)] W (HadPost W x.had) from fun W hW => ihad_any W F bi (3 * n + 2 * k) (x.drop (offB p)) (HI0.out.up hW) (by omega))
          have HTX := Lib.hid (show ∀ W, Below wr.heap.size wr W → Calls Tryz.prog 41 #[.slice Ah R.length ch] W (TxtPost W (encH x.had)) from fun W hW => rtext_any W S Ah ch R (HADS.out.stay (F := fun _ => False) (Keep.of_below hW) (fun _ h => h.elim)) x.had HKEYS.out HOK.out (by omega) (fun q hq => by have := HRR.out q hq; omega) HROWL.out)
          have HB := Lib.hid (show Below wr.heap.size wr wr.drew from (Below.refl _ _).drew)
          rw [HEQ.out]
          clear HM HNE HNF HI0
          go_upto_region 28 with fail
          refine wp_region_held_drew (S := fun W => W.cell? ⟨bm, 1, none⟩ = some (.slice Ah R.length ch)) (by kernel_rfl) ?_ (fun hHeld => ?_)
          · exact HSS.out _ HB.out
          refine wpAnyH_take (i := 0) (oi := ⟨some 114, _, _, _, _, _⟩) (v := ?v0) rfl (by kernel_rfl) (by kernel_rfl) (by kernel_rfl) (fun _ _ _ h => h) (Or.inl ⟨by rfl, ?y0⟩) (by assumption) ?r0
          case y0 => (intro wz hSz; (try dsimp only at hSz); go_simp; (first | done | with_reducible rfl))
          try simp only [Act.put, List.setIfInBounds_toArray, List.set_cons_zero, List.set_cons_succ]
          refine wpAnyH_take (i := 1) (oi := ⟨some 115, _, _, _, _, _⟩) (v := ?v1) rfl (by kernel_rfl) (by kernel_rfl) (by kernel_rfl) (fun _ _ _ h => h) (Or.inl ⟨by rfl, ?y1⟩) (by assumption) ?r1
          case y1 => (intro wz hSz; (try dsimp only at hSz); go_simp; (first | done | with_reducible rfl))
          try simp only [Act.put, List.setIfInBounds_toArray, List.set_cons_zero, List.set_cons_succ]
          refine wpAnyH_take (i := 2) (oi := ⟨some 116, _, _, _, _, _⟩) (v := ?v2) rfl (by kernel_rfl) (by kernel_rfl) (by kernel_rfl) (fun _ _ _ h => h) (Or.inl ⟨by rfl, ?y2⟩) (by assumption) ?r2
          case y2 => (intro wz hSz; (try dsimp only at hSz); go_simp; (first | done | with_reducible rfl))
          try simp only [Act.put, List.setIfInBounds_toArray, List.set_cons_zero, List.set_cons_succ]
          refine wpAnyH_take (i := 3) (oi := ⟨some 117, _, _, _, _, _⟩) (v := ?v3) rfl (by kernel_rfl) (by kernel_rfl) (by kernel_rfl) (fun _ _ _ h => h) (Or.inl ⟨by rfl, ?y3⟩) (by assumption) ?r3
          case y3 => (intro wz hSz; (try dsimp only at hSz); go_simp; (first | done | with_reducible rfl))
          try simp only [Act.put, List.setIfInBounds_toArray, List.set_cons_zero, List.set_cons_succ]
          refine wpAnyH_take (i := 4) (oi := ⟨some 118, _, _, _, _, _⟩) (v := ?v4) rfl (by kernel_rfl) (by kernel_rfl) (by kernel_rfl) (fun _ _ _ h => h) (Or.inl ⟨by rfl, ?y4⟩) (by assumption) ?r4
          case y4 => (intro wz hSz; (try dsimp only at hSz); go_simp; (first | done | with_reducible rfl))
          try simp only [Act.put, List.setIfInBounds_toArray, List.set_cons_zero, List.set_cons_succ]
          refine wpAnyH_take (i := 6) (oi := ⟨some 120, _, _, _, _, _⟩) (v := ?v6) rfl (by kernel_rfl) (by kernel_rfl) (by kernel_rfl) (fun _ _ _ h => h) (Or.inl ⟨by rfl, ?y6⟩) (by assumption) ?r6
          case y6 => (intro wz hSz; (try dsimp only at hSz); go_simp; (first | done | with_reducible rfl))
          try simp only [Act.put, List.setIfInBounds_toArray, List.set_cons_zero, List.set_cons_succ]
          refine wpAnyH_ready (rs := [5]) (by kernel_rfl) (by simp) ?_
          refine AllReadyH.cons (o := ⟨some 119, _, _, _, _, _⟩) rfl (fun K hK => ?_) AllReadyH.nil
          go_simp
          go_wp2_with ((go_at_call 15; (with_reducible refine (HTK.out _ HB.out).mono ?_); rintro r9 w9 ⟨v9, rfl, ho9, hb9⟩; obtain ⟨B9, c9, hv9, _⟩ := ho9.form; subst hv9; have H15 := Lib.hid (show Evs w9 w9.heap.size B9 _ c9 _ from Cel.of_own ho9); have HB2 := Lib.hid (HB.out.trans (hb9.mono HB.out.size)); clear HB; have HB := HB2; clear HB2; (try clear hS); have hS := HSS.out _ HB.out; clear ho9 hb9))
          refine hK.out _ _ ?_ (fun hHeld => ?_)
          · exact hS
          clear hK K
          refine wpAnyH_ready (rs := [7]) (by kernel_rfl) (by simp) ?_
          refine AllReadyH.cons (o := ⟨some 121, _, _, _, _, _⟩) rfl (fun K hK => ?_) AllReadyH.nil
          go_simp
          go_wp2_with ((go_at_call 14; (with_reducible refine (same02_any _ _ _ _ _ _ _ _ _ H15.out (evs_below HET.out HB.out) (by first | omega | fail)).mono ?_); rintro r9 w9 ⟨rfl, q9, hw9⟩; have HB2 := Lib.hid (show Below wr.heap.size wr w9 by rw [hw9]; exact below_drewN HB.out q9); clear HB; have HB := HB2; clear HB2 hw9; (try clear hS); have hS := HSS.out _ HB.out))
          refine hK.out _ _ ?_ (fun hHeld => ?_)
          · exact hS
          clear hK K
          refine wpAnyH_take (i := 8) (oi := ⟨some 122, _, _, _, _, _⟩) (v := ?v8) rfl (by kernel_rfl) (by kernel_rfl) (by kernel_rfl) (fun _ _ _ h => h) (Or.inl ⟨by rfl, ?y8⟩) (by assumption) ?r8
          case y8 => (intro wz hSz; (try dsimp only at hSz); go_simp; (first | done | with_reducible rfl))
          try simp only [Act.put, List.setIfInBounds_toArray, List.set_cons_zero, List.set_cons_succ]
          refine wpAnyH_take (i := 9) (oi := ⟨some 123, _, _, _, _, _⟩) (v := ?v9) rfl (by kernel_rfl) (by kernel_rfl) (by kernel_rfl) (fun _ _ _ h => h) (Or.inl ⟨by rfl, ?y9⟩) (by assumption) ?r9
          case y9 => (intro wz hSz; (try dsimp only at hSz); go_simp; (first | done | with_reducible rfl))
          try simp only [Act.put, List.setIfInBounds_toArray, List.set_cons_zero, List.set_cons_succ]
          refine wpAnyH_take (i := 10) (oi := ⟨some 124, _, _, _, _, _⟩) (v := ?v10) rfl (by kernel_rfl) (by kernel_rfl) (by kernel_rfl) (fun _ _ _ h => h) (Or.inl ⟨by rfl, ?y10⟩) (by assumption) ?r10
          case y10 => (intro wz hSz; (try dsimp only at hSz); go_simp; (first | done | with_reducible rfl))
          try simp only [Act.put, List.setIfInBounds_toArray, List.set_cons_zero, List.set_cons_succ]
          refine wpAnyH_take (i := 12) (oi := ⟨some 126, _, _, _, _, _⟩) (v := ?v12) rfl (by kernel_rfl) (by kernel_rfl) (by kernel_rfl) (fun _ _ _ h => h) (Or.inl ⟨by rfl, ?y12⟩) (by assumption) ?r12
          case y12 => (intro wz hSz; (try dsimp only at hSz); go_simp; (first | done | with_reducible rfl))
          try simp only [Act.put, List.setIfInBounds_toArray, List.set_cons_zero, List.set_cons_succ]
          refine wpAnyH_ready (rs := [11]) (by kernel_rfl) (by simp) ?_
          refine AllReadyH.cons (o := ⟨some 125, _, _, _, _, _⟩) rfl (fun K hK => ?_) AllReadyH.nil
          go_simp
          go_wp2_with ((go_at_call 35; (with_reducible refine (HLT.out _ HB.out).mono ?_); rintro r9 w9 ⟨v9, rfl, ho9, hb9⟩; obtain ⟨B9, c9, hv9, _⟩ := ho9.form; subst hv9; have H35 := Lib.hid (show Evs w9 w9.heap.size B9 _ c9 _ from Cel.of_own ho9); have HB2 := Lib.hid (HB.out.trans (hb9.mono HB.out.size)); clear HB; have HB := HB2; clear HB2; (try clear hS); have hS := HSS.out _ HB.out; clear ho9 hb9))
          refine hK.out _ _ ?_ (fun hHeld => ?_)
          · exact hS
          clear hK K
          refine wpAnyH_ready (rs := [13]) (by kernel_rfl) (by simp) ?_
          refine AllReadyH.cons (o := ⟨some 127, _, _, _, _, _⟩) rfl (fun K hK => ?_) AllReadyH.nil
          go_simp
          go_wp2_with ((go_at_call 14; (with_reducible refine (same02_any _ _ _ _ _ _ _ _ _ H35.out (evs_below HEL.out HB.out) (by first | omega | fail)).mono ?_); rintro r9 w9 ⟨rfl, q9, hw9⟩; have HB2 := Lib.hid (show Below wr.heap.size wr w9 by rw [hw9]; exact below_drewN HB.out q9); clear HB; have HB := HB2; clear HB2 hw9; (try clear hS); have hS := HSS.out _ HB.out))
          refine hK.out _ _ ?_ (fun hHeld => ?_)
          · exact hS
          clear hK K
          refine wpAnyH_take (i := 14) (oi := ⟨some 128, _, _, _, _, _⟩) (v := ?v14) rfl (by kernel_rfl) (by kernel_rfl) (by kernel_rfl) (fun _ _ _ h => h) (Or.inl ⟨by rfl, ?y14⟩) (by assumption) ?r14
          case y14 => (intro wz hSz; (try dsimp only at hSz); go_simp; (first | done | with_reducible rfl))
          try simp only [Act.put, List.setIfInBounds_toArray, List.set_cons_zero, List.set_cons_succ]
          refine wpAnyH_take (i := 15) (oi := ⟨some 129, _, _, _, _, _⟩) (v := ?v15) rfl (by kernel_rfl) (by kernel_rfl) (by kernel_rfl) (fun _ _ _ h => h) (Or.inl ⟨by rfl, ?y15⟩) (by assumption) ?r15
          case y15 => (intro wz hSz; (try dsimp only at hSz); go_simp; (first | done | with_reducible rfl))
          try simp only [Act.put, List.setIfInBounds_toArray, List.set_cons_zero, List.set_cons_succ]
          refine wpAnyH_take (i := 16) (oi := ⟨some 130, _, _, _, _, _⟩) (v := ?v16) rfl (by kernel_rfl) (by kernel_rfl) (by kernel_rfl) (fun _ _ _ h => h) (Or.inl ⟨by rfl, ?y16⟩) (by assumption) ?r16
          case y16 => (intro wz hSz; (try dsimp only at hSz); go_simp; (first | done | with_reducible rfl))
          try simp only [Act.put, List.setIfInBounds_toArray, List.set_cons_zero, List.set_cons_succ]
          refine wpAnyH_take (i := 18) (oi := ⟨some 132, _, _, _, _, _⟩) (v := ?v18) rfl (by kernel_rfl) (by kernel_rfl) (by kernel_rfl) (fun _ _ _ h => h) (Or.inl ⟨by rfl, ?y18⟩) (by assumption) ?r18
          case y18 => (intro wz hSz; (try dsimp only at hSz); go_simp; (first | done | with_reducible rfl))
          try simp only [Act.put, List.setIfInBounds_toArray, List.set_cons_zero, List.set_cons_succ]
          refine wpAnyH_ready (rs := [17]) (by kernel_rfl) (by simp) ?_
          refine AllReadyH.cons (o := ⟨some 131, _, _, _, _, _⟩) rfl (fun K hK => ?_) AllReadyH.nil
          go_simp
          go_wp2_with ((go_at_call 17; (with_reducible refine (HGN.out _ HB.out).mono ?_); rintro r9 w9 ⟨v9, rfl, ho9, hb9⟩; obtain ⟨B9, c9, hv9⟩ := ownsRow_form ho9; subst hv9; have H17 := Lib.hid (show Strs w9 w9.heap.size B9 gs.length c9 gs from Cel.of_own ho9); have HB2 := Lib.hid (HB.out.trans (hb9.mono HB.out.size)); clear HB; have HB := HB2; clear HB2; (try clear hS); have hS := HSS.out _ HB.out; clear ho9 hb9))
          refine hK.out _ _ ?_ (fun hHeld => ?_)
          · exact hS
          clear hK K
          refine wpAnyH_ready (rs := [19]) (by kernel_rfl) (by simp) ?_
          refine AllReadyH.cons (o := ⟨some 133, _, _, _, _, _⟩) rfl (fun K hK => ?_) AllReadyH.nil
          go_simp
          go_wp2_with ((go_at_call 16; (with_reducible refine (texts_any _ _ _ _ _ _ _ _ _ H17.out (strs_below HGS.out HB.out) (by omega)).mono ?_); rintro r9 w9 ⟨rfl, q9, hw9⟩; have HB2 := Lib.hid (show Below wr.heap.size wr w9 by rw [hw9]; exact below_drewN HB.out q9); clear HB; have HB := HB2; clear HB2 hw9; (try clear hS); have hS := HSS.out _ HB.out))
          refine hK.out _ _ ?_ (fun hHeld => ?_)
          · exact hS
          clear hK K
          refine wpAnyH_take (i := 20) (oi := ⟨some 134, _, _, _, _, _⟩) (v := ?v20) rfl (by kernel_rfl) (by kernel_rfl) (by kernel_rfl) (fun _ _ _ h => h) (Or.inl ⟨by rfl, ?y20⟩) (by assumption) ?r20
          case y20 => (intro wz hSz; (try dsimp only at hSz); go_simp; (first | done | with_reducible rfl))
          try simp only [Act.put, List.setIfInBounds_toArray, List.set_cons_zero, List.set_cons_succ]
          refine wpAnyH_take (i := 21) (oi := ⟨some 135, _, _, _, _, _⟩) (v := ?v21) rfl (by kernel_rfl) (by kernel_rfl) (by kernel_rfl) (fun _ _ _ h => h) (Or.inl ⟨by rfl, ?y21⟩) (by assumption) ?r21
          case y21 => (intro wz hSz; (try dsimp only at hSz); go_simp; (first | done | with_reducible rfl))
          try simp only [Act.put, List.setIfInBounds_toArray, List.set_cons_zero, List.set_cons_succ]
          refine wpAnyH_take (i := 22) (oi := ⟨some 136, _, _, _, _, _⟩) (v := ?v22) rfl (by kernel_rfl) (by kernel_rfl) (by kernel_rfl) (fun _ _ _ h => h) (Or.inl ⟨by rfl, ?y22⟩) (by assumption) ?r22
          case y22 => (intro wz hSz; (try dsimp only at hSz); go_simp; (first | done | with_reducible rfl))
          try simp only [Act.put, List.setIfInBounds_toArray, List.set_cons_zero, List.set_cons_succ]
          refine wpAnyH_take (i := 26) (oi := ⟨some 140, _, _, _, _, _⟩) (v := ?v26) rfl (by kernel_rfl) (by kernel_rfl) (by kernel_rfl) (fun _ _ _ h => h) (Or.inl ⟨by rfl, ?y26⟩) (by assumption) ?r26
          case y26 => (intro wz hSz; (try dsimp only at hSz); go_simp; (first | done | with_reducible rfl))
          try simp only [Act.put, List.setIfInBounds_toArray, List.set_cons_zero, List.set_cons_succ]
          refine wpAnyH_take (i := 27) (oi := ⟨some 141, _, _, _, _, _⟩) (v := ?v27) rfl (by kernel_rfl) (by kernel_rfl) (by kernel_rfl) (fun _ _ _ h => h) (Or.inl ⟨by rfl, ?y27⟩) (by assumption) ?r27
          case y27 => (intro wz hSz; (try dsimp only at hSz); go_simp; (first | done | with_reducible rfl))
          try simp only [Act.put, List.setIfInBounds_toArray, List.set_cons_zero, List.set_cons_succ]
          refine wpAnyH_take (i := 28) (oi := ⟨some 142, _, _, _, _, _⟩) (v := ?v28) rfl (by kernel_rfl) (by kernel_rfl) (by kernel_rfl) (fun _ _ _ h => h) (Or.inl ⟨by rfl, ?y28⟩) (by assumption) ?r28
          case y28 => (intro wz hSz; (try dsimp only at hSz); go_simp; (first | done | with_reducible rfl))
          try simp only [Act.put, List.setIfInBounds_toArray, List.set_cons_zero, List.set_cons_succ]
          refine wpAnyH_take (i := 29) (oi := ⟨some 143, _, _, _, _, _⟩) (v := ?v29) rfl (by kernel_rfl) (by kernel_rfl) (by kernel_rfl) (fun _ _ _ h => h) (Or.inl ⟨by rfl, ?y29⟩) (by assumption) ?r29
          case y29 => (intro wz hSz; (try dsimp only at hSz); go_simp; (first | done | with_reducible rfl))
          try simp only [Act.put, List.setIfInBounds_toArray, List.set_cons_zero, List.set_cons_succ]
          refine wpAnyH_ready (rs := [23]) (by kernel_rfl) (by simp) ?_
          refine AllReadyH.cons (o := ⟨some 137, _, _, _, _, _⟩) rfl (fun K hK => ?_) AllReadyH.nil
          go_simp
          go_wp2_with ((go_at_call 39; (with_reducible refine (HHD.out _ HB.out).mono ?_); rintro r9 w9 ⟨bs9, bm9, G9, V9, rfl, hd9, hb9, _⟩; have H39 := Lib.hid hd9; have HB2 := Lib.hid (HB.out.trans (hb9.mono HB.out.size)); clear HB; have HB := HB2; clear HB2; (try clear hS); have hS := HSS.out _ HB.out; clear hd9 hb9))
          refine hK.out _ _ ?_ (fun hHeld => ?_)
          · exact hS
          clear hK K
          refine wpAnyH_ready (rs := [24]) (by kernel_rfl) (by simp) ?_
          refine AllReadyH.cons (o := ⟨some 138, _, _, _, _, _⟩) rfl (fun K hK => ?_) AllReadyH.nil
          go_simp
          go_wp2_with ((go_at_call 40; (with_reducible refine (encode_any _ G9 bs9 bm9 x.had V9 H39.out (by omega) HROWL.out).mono ?_); rintro r9 w9 ⟨v9, rfl, ho9, hb9⟩; obtain ⟨B9, c9, hv9⟩ := OwnB.form ho9; subst hv9; have H40 := Lib.hid (OwnB.byt ho9); have HB2 := Lib.hid (HB.out.trans (hb9.mono HB.out.size)); clear HB; have HB := HB2; clear HB2; (try clear hS); have hS := HSS.out _ HB.out; clear ho9 hb9))
          refine hK.out _ _ ?_ (fun hHeld => ?_)
          · exact hS
          clear hK K
          have kc := H40.out.str (P := Tryz.prog) 65 5 9 Tryz.underlying65 Tryz.underlying5 Tryz.underlying9
          refine wpAnyH_weak (S' := fun W => (W.cell? ⟨bm, 1, none⟩ = some (.slice Ah R.length ch)) ∧ (convert 65 9 (.slice B9 (encH x.had).length c9)).run Tryz.prog W = .ok (.string ⟨(encH x.had).toArray⟩) W) (fun _ h => h.1) _ _ _ _ ?_
          have hHeld2 := And.intro hHeld kc
          refine wpAnyH_take (i := 25) (oi := ⟨some 139, _, _, _, _, _⟩) (v := ?v25) rfl (by kernel_rfl) (by kernel_rfl) (by kernel_rfl) (fun _ _ _ h => h) (Or.inl ⟨by rfl, ?y25⟩) (by assumption) ?r25
          case y25 => (intro wz hSz; (try dsimp only at hSz); go_simp; (first | done | with_reducible rfl))
          try simp only [Act.put, List.setIfInBounds_toArray, List.set_cons_zero, List.set_cons_succ]
          refine wpAnyH_ready (rs := [30]) (by kernel_rfl) (by simp) ?_
          refine AllReadyH.cons (o := ⟨some 144, _, _, _, _, _⟩) rfl (fun K hK => ?_) AllReadyH.nil
          go_simp
          go_wp2_with ((go_at_call 41; (with_reducible refine (HTX.out _ HB.out).mono ?_); rintro r9 w9 ⟨rfl, hb9⟩; have kc9 := ((H40.out.below hb9).more hb9.size).str (P := Tryz.prog) 65 5 9 Tryz.underlying65 Tryz.underlying5 Tryz.underlying9; have HB2 := Lib.hid (HB.out.trans (hb9.mono HB.out.size)); clear HB; have HB := HB2; clear HB2; (try clear hS); have hS := HSS.out _ HB.out; clear hb9))
          refine hK.out _ _ ?_ (fun hHeld => ?_)
          · exact ⟨hS, kc9⟩
          clear hK K
          refine wpAnyH_take (i := 31) (oi := ⟨some 145, _, _, _, _, _⟩) (v := ?v31) rfl (by kernel_rfl) (by kernel_rfl) (by kernel_rfl) (fun _ _ _ h => h) (Or.inl ⟨by rfl, ?y31⟩) (by assumption) ?r31
          case y31 => (intro wz hSz; (try dsimp only at hSz); go_simp; (first | done | with_reducible rfl))
          try simp only [Act.put, List.setIfInBounds_toArray, List.set_cons_zero, List.set_cons_succ]
          refine wpAnyH_take (i := 32) (oi := ⟨some 146, _, _, _, _, _⟩) (v := ?v32) rfl (by kernel_rfl) (by kernel_rfl) (by kernel_rfl) (fun _ _ _ h => h) (Or.inl ⟨by rfl, ?y32⟩) (by assumption) ?r32
          case y32 => (intro wz hSz; (try dsimp only at hSz); go_simp; (first | done | with_reducible rfl))
          try simp only [Act.put, List.setIfInBounds_toArray, List.set_cons_zero, List.set_cons_succ]
          refine wpAnyH_take (i := 33) (oi := ⟨some 8, _, _, _, _, _⟩) (v := ?v33) rfl (by kernel_rfl) (by kernel_rfl) (by kernel_rfl) (fun _ _ _ h => h) (Or.inl ⟨by rfl, ?y33⟩) (by assumption) ?r33
          case y33 => (intro wz hSz; (try dsimp only at hSz); go_simp; (first | done | with_reducible rfl))
          try simp only [Act.put, List.setIfInBounds_toArray, List.set_cons_zero, List.set_cons_succ]
          refine wpAnyH_done (by kernel_rfl) ?_ _
          have HFI := Lib.hid (HBEL.out.trans (HB.out.mono HBEL.out.size))
          go_wp2
          go_ret
          exact ⟨rfl, HFI.out⟩
end Go.Proofs.YtoljbbmjbgepiaaGreatDoor
