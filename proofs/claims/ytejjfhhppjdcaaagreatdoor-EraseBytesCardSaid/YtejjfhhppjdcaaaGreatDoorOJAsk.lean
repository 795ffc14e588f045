/-
  Layer 5: even.
  Layer 5: done's closure as an asker.
-/
import Derived.Test.YtejjfhhppjdcaaaGreatDoorOJLives
import Derived.Test.YtejjfhhppjdcaaaGreatDoorORJl1
import Derived.Test.YtejjfhhppjdcaaaGreatDoorORef02
import Derived.RegionTactic
import Derived.BigRegion
import Derived.Test.YtejjfhhppjdcaaaGreatDoorOJlRw1
namespace Go.Proofs.YtejjfhhppjdcaaaGreatDoor
open Go.RowKit Go.Maps Go.Sort

theorem OwnE.form {w : World} {base : Nat} {v : Value} {es : List Ev} (h : OwnE w base v es) : ∃ A c, v = .slice A es.length c ∧ Evs w w.heap.size A es.length c es := by
  obtain ⟨A, c, rfl⟩ := ownsRow_form h
  exact ⟨A, c, rfl, Cel.of_own h⟩
theorem OwnI.form {w : World} {base : Nat} {v : Value} {l : List Int} (h : OwnI w base v l) : ∃ A c, v = .slice A l.length c ∧ Ints w w.heap.size A l.length c l := by
  obtain ⟨A, c, rfl⟩ := ownsRow_form h
  exact ⟨A, c, rfl, Cel.of_own h⟩
abbrev stObj (A : Option Addr) (n c : Nat) (m : Int) : Obj := .cells #[.slice A n c, .int .i64 m] 55
set_option maxRecDepth 100000 in
set_option maxHeartbeats 4000000 in
theorem jeven_any (w : World) (G F : Nat → Prop) (bj bd : Nat) (j : Jl) (h : JlIn w G F bj bd j) (A : Option Addr) (n c : Nat) (hA : Ents w w.heap.size A n c j.es) :
    Calls Tryz.prog 32 #[.pointer (some ⟨bj, 0, none⟩), .agg #[.slice A n c, .int .i64 j.lasts]] w (Says true w) := by
  have hn : j.es.length = n := hA.len
  have hnum := h.1.num
  have hb0 : RowKit.Below w.heap.size w (w.alloc (stObj A n c j.lasts)) := (Below.refl _ _).alloc (Nat.le_refl _) _
  have g0 : (w.alloc (stObj A n c j.lasts)).cell? ⟨w.heap.size, 0, none⟩ = some (.slice A n c) := (cell_of_row _ w.heap.size 0 _ _ (0, 0) (heap_alloc_new w (stObj A n c j.lasts))).trans rfl
  have g1 : (w.alloc (stObj A n c j.lasts)).cell? ⟨w.heap.size, 1, none⟩ = some (.int .i64 j.lasts) := (cell_of_row _ w.heap.size 1 _ _ (0, 0) (heap_alloc_new w (stObj A n c j.lasts))).trans rfl
  have HJ := Lib.hid (h.up hb0)
  have HA := Lib.hid (show Ents (w.alloc (stObj A n c j.lasts)) (w.alloc (stObj A n c j.lasts)).heap.size A n c j.es from Cel.more (Cel.below hA hb0) hb0.size)
  have HB0 := Lib.hid hb0
  have HR := Lib.hid (jlread_any (w.alloc (stObj A n c j.lasts)) G F bj bd j HJ.out 0 ((n : Int) + 1))
  have hbad : j.rdBad 0 ((n : Int) + 1) = false := by
    unfold Jl.rdBad
    rw [decide_eq_false (by omega), decide_eq_false (by omega), decide_eq_false (by omega)]; rfl
  have hseg : j.rdSeg 0 ((n : Int) + 1) = j.es := by
    unfold Jl.rdSeg
    rw [show (0 : Int).toNat = 0 from rfl, List.drop_zero, List.take_of_length_le (by omega)]
  unfold JReadPost at HR
  rw [hbad, hseg, if_neg (by simp), if_neg (by simp), if_neg (by simp)] at HR
  have hlr := rdEv_le j.es
  have hla := rdAt_len j.es 0
  clear hb0 hbad hseg h hA
  have HN := Lib.hid hn
  have hnn : n ≤ 100000 := by omega
  clear hn hnum
  have hs0 : (w.alloc (stObj A n c j.lasts)).heap.size = w.heap.size + 1 := by simp
  go_enter Tryz.func32, Tryz.ntmps32
  go_wp2_with fail
  generalize w.alloc (stObj A n c j.lasts) = w0 at *
  refine HR.out.mono ?_
  rintro r w1 ⟨v, u, rfl, hE, hI, hb1⟩
  have hbw1 : RowKit.Below w.heap.size w w1 := HB0.out.trans (hb1.mono HB0.out.size)
  have g0' : w1.cell? ⟨w.heap.size, 0, none⟩ = some (.slice A n c) := (hb1.cell (p := ⟨w.heap.size, 0, none⟩) (by show w.heap.size < _; omega)).trans g0
  have g1' : w1.cell? ⟨w.heap.size, 1, none⟩ = some (.int .i64 j.lasts) := (hb1.cell (p := ⟨w.heap.size, 1, none⟩) (by show w.heap.size < _; omega)).trans g1
  have HA1 := Lib.hid (show Ents w1 w1.heap.size A n c j.es from Cel.more (Cel.below HA.out hb1) hb1.size)
  have hs1 := hb1.size
  obtain ⟨Av, cv, rfl, hEv⟩ := hE.form
  obtain ⟨Au, cu, rfl, hIu⟩ := hI.form
  have HEV := Lib.hid hEv; have HIU := Lib.hid hIu; have HB1 := Lib.hid hb1
  have HR2 := Lib.hid (rread05_any w1 A n c j.es HA1.out hnn 0 n (Nat.zero_le _) (by omega) j.es (by rw [List.drop_zero, List.take_of_length_le (by rw [HN.out]; exact Nat.le_refl _)]))
  clear hE hI hEv hIu hb1 g0 g1 HR HA
  go_wp2_with fail
  refine HR2.out.mono ?_
  rintro r w2 ⟨v2, u2, rfl, hE2, hI2, hb2⟩
  have hbw2 : RowKit.Below w.heap.size w w2 := hbw1.trans (hb2.mono hbw1.size)
  have g0 : w2.cell? ⟨w.heap.size, 0, none⟩ = some (.slice A n c) := (hb2.cell (p := ⟨w.heap.size, 0, none⟩) (by show w.heap.size < _; omega)).trans g0'
  have g1 : w2.cell? ⟨w.heap.size, 1, none⟩ = some (.int .i64 j.lasts) := (hb2.cell (p := ⟨w.heap.size, 1, none⟩) (by show w.heap.size < _; omega)).trans g1'
  obtain ⟨Av2, cv2, rfl, hEv2⟩ := hE2.form
  obtain ⟨Au2, cu2, rfl, hIu2⟩ := hI2.form
  have hs2 := hb2.size
  have HJ2 := Lib.hid ((HJ.out.up HB1.out).up hb2)
  have HLEN := Lib.hid (show ∀ W, RowKit.Below w2.heap.size w2 W → Calls Tryz.prog 23 #[.pointer (some ⟨bj, 0, none⟩)] W fun r w' => r = .returned (.int .i64 (n : Int)) ∧ RowKit.Below w2.heap.size w2 w' from fun W hW => (jllen_any W G F bj bd j (HJ2.out.up hW)).mono fun r w' h => ⟨by rw [h.1, HN.out], h.2 ▸ hW⟩)
  have HLAS := Lib.hid (show ∀ W, RowKit.Below w2.heap.size w2 W → Calls Tryz.prog 22 #[.pointer (some ⟨bj, 0, none⟩)] W fun r w' => r = .returned (.int .i64 (j.lasts : Int)) ∧ RowKit.Below w2.heap.size w2 w' from fun W hW => (jllasting_any W G F bj bd j (HJ2.out.up hW)).mono fun r w' h => ⟨h.1, h.2 ▸ hW⟩)
  have HSM := Lib.hid (show ∀ W, RowKit.Below w2.heap.size w2 W → Calls Tryz.prog 38 #[.slice Av (rdEv j.es).length cv, .slice Av2 (rdEv j.es).length cv2] W fun r w' => r = .returned (.bool true) ∧ RowKit.Below w2.heap.size w2 w' from fun W hW => (same02_any W w1.heap.size w2.heap.size Av Av2 _ cv cv2 (rdEv j.es) (Cel.below (Cel.below HEV.out hb2) (hW.mono hs2)) (Cel.below hEv2 hW) (by have := HN.out; omega)).mono fun r w' ⟨h1, k, h2⟩ => ⟨h1, h2 ▸ below_drewN hW k⟩)
  have HSI := Lib.hid (show ∀ W, RowKit.Below w2.heap.size w2 W → Calls Tryz.prog 79 #[.slice Au (rdEv j.es).length cu, .slice Au2 (rdEv j.es).length cu2] W fun r w' => r = .returned (.bool true) ∧ RowKit.Below w2.heap.size w2 w' from fun W hW => by
    have e : (rdAt 0 j.es).length = (rdEv j.es).length := hla
    have h1 := Cel.below (Cel.below HIU.out hb2) (hW.mono hs2)
    have h2 := Cel.below hIu2 hW
    rw [e] at h1
    rw [show (rdAt ((0 : Nat) : Int) j.es).length = (rdEv j.es).length from e] at h2
    exact (rsame05_any W w1.heap.size w2.heap.size Au Au2 _ cu cu2 (rdAt 0 j.es) h1 h2 (by have := HN.out; omega)).mono fun r w' ⟨h1, k, h2⟩ => ⟨h1, h2 ▸ below_drewN hW k⟩)
  have HSS := Lib.hid (show ∀ W, RowKit.Below w2.heap.size w2 W → W.cell? ⟨w.heap.size, 0, none⟩ = some (.slice A n c) ∧ W.cell? ⟨w.heap.size, 1, none⟩ = some (.int .i64 j.lasts) from fun W hW => ⟨(hW.cell (p := ⟨w.heap.size, 0, none⟩) (by show w.heap.size < _; omega)).trans g0, (hW.cell (p := ⟨w.heap.size, 1, none⟩) (by show w.heap.size < _; omega)).trans g1⟩)
  have HBW := Lib.hid hbw2
  rw [show (rdAt ((0 : Nat) : Int) j.es).length = (rdEv j.es).length from hla]
  clear hE2 hI2 hEv2 hIu2 g0' g1' hb2 HEV HIU HR2 hbw1 hbw2
  generalize (rdEv j.es).length = z at *
  go_upto_region 3 with fail
  refine wp_region_quiet (C := fun wx => RowKit.Below w2.heap.size w2 wx) (by kernel_rfl) (by kernel_rfl) (below_drewN (Below.refl _ _) 1) ?_
  simp only
  repeat (first
    | go_big_quiet_skip
    | (go_big_quiet_want; go_big_quiet_op; go_big_quiet_on)
    | (refine wpQuiet_step (fun K hK => ?_)
       go_simp
       first
         | (refine hK _ ?_; clear hK K)
         | (apply Exists.intro
            refine ⟨fun wx hx => ?_, hK _ ?_⟩
            · (obtain ⟨d0, d1⟩ := HSS.out wx hx; go_simp; first | done | rfl | exact ⟨rfl, rfl⟩ | (refine (HLEN.out wx hx).mono ?_; rintro r w3 ⟨hr, hb⟩; exact ⟨hr, hb⟩) | (refine (HLAS.out wx hx).mono ?_; rintro r w3 ⟨hr, hb⟩; exact ⟨hr, hb⟩) | (refine (HSM.out wx hx).mono ?_; rintro r w3 ⟨hr, hb⟩; exact ⟨hr, hb⟩) | (refine (HSI.out wx hx).mono ?_; rintro r w3 ⟨hr, hb⟩; exact ⟨hr, hb⟩))
            clear hK K)))
  refine wpQuiet_nil ?_
  intro w3 hb3
  have HBF := Lib.hid (show RowKit.Below w.heap.size w w3 from HBW.out.trans (hb3.mono HBW.out.size))
  clear hb3 g0 g1
  go_wp2
  go_ret
  exact ⟨rfl, HBF.out⟩
end Go.Proofs.YtejjfhhppjdcaaaGreatDoor
namespace Go.Proofs.YtejjfhhppjdcaaaGreatDoor
open Go.RowKit Go.Maps Go.Sort

/-- the box of what was asked (ba), the deed's box (b7): done's closure tells the person's events apart -/
structure AskI (ba b7 : Nat) (p : List UInt8) (aq : List Ev) (H : Nat → Prop) (W : World) : Prop where
  cell : ∃ v, W.heap[ba]? = some (.cells #[v] 22) ∧ OwnE W 0 v aq ∧ ∀ b, v.ownBlock = some b → H b ∧ b ≠ ba ∧ b ≠ b7
  dj : W.cell? ⟨b7, 2, none⟩ = some (.string ⟨p.toArray⟩)
  ha : H ba
  h7 : H b7
  ne : ba ≠ b7
  lt : ∀ b, H b → b < W.heap.size
def stayP (p : List UInt8) (e : Ev) : Bool := e.per != p
theorem OwnE.keepB {w w' : World} {base : Nat} {v : Value} {l : List Ev} (h : OwnE w base v l) (hb : ∀ b, v.ownBlock = some b → w'.heap[b]? = w.heap[b]?) : OwnE w' base v l := by
  refine ⟨h.1, ?_⟩
  rcases h.2 with ⟨e, hl⟩ | ⟨g, cap, cur, e, hb', hg, hr⟩
  · exact .inl ⟨e, hl⟩
  · exact .inr ⟨g, cap, cur, e, hb', (hb g (by rw [e]; rfl)).trans hg, hr⟩
theorem AskI.keep {ba b7 : Nat} {p : List UInt8} {aq : List Ev} {H : Nat → Prop} {W W' : World} (h : AskI ba b7 p aq H W) (hs : W.heap.size ≤ W'.heap.size) (hk : ∀ b, H b → W'.heap[b]? = W.heap[b]?) : AskI ba b7 p aq H W' := by
  obtain ⟨v, h1, h2, h3⟩ := h.cell
  exact ⟨⟨v, (hk _ h.ha).trans h1, h2.keepB fun b hb => hk b (h3 b hb).1, h3⟩, (World.cell?_of_block (w := W) (a := ⟨b7, 2, none⟩) (hk _ h.h7)).trans h.dj, h.ha, h.h7, h.ne, fun b hb => Nat.lt_of_lt_of_le (h.lt b hb) hs⟩
def AskPost (ba b7 : Nat) (p : List UInt8) (aq : List Ev) (H : Nat → Prop) (W : World) (b : Bool) (r : Ending) (W' : World) : Prop := r = .returned (.bool b) ∧ ∃ H', AskI ba b7 p aq H' W' ∧ (∀ b, H' b → H b ∨ W.heap.size ≤ b) ∧ Keep H W W'
set_option maxRecDepth 100000 in
set_option maxHeartbeats 2000000 in
theorem jdone1_any (ba b7 : Nat) (p : List UInt8) (aq : List Ev) (H : Nat → Prop) (W : World) (h : AskI ba b7 p aq H W) (haq : aq.length ≤ 1000) (e : Ev) :
    Calls Tryz.prog 111 #[e.agg, .pointer (some ⟨ba, 0, none⟩), .pointer (some ⟨b7, 0, none⟩)] W (AskPost ba b7 p (aq ++ [e]) H W (stayP p e)) := by
  have hagg : e.agg = .agg #[.string ⟨e.src.toArray⟩, .int .i64 e.num, .int .i64 e.at_, .int .i64 e.kind, .string ⟨e.per.toArray⟩, .string ⟨e.item.toArray⟩, .int .i64 e.val, .string ⟨e.text.toArray⟩] := rfl
  have hb0 : RowKit.Below W.heap.size W (W.alloc (evObj e)) := (Below.refl _ _).alloc (Nat.le_refl _) _
  obtain ⟨v, hc, hov, hvb⟩ := h.cell
  have hba := h.lt _ h.ha
  have hb7 := h.lt _ h.h7
  have c0 : (W.alloc (evObj e)).cell? ⟨ba, 0, none⟩ = some v := (hb0.cell (p := ⟨ba, 0, none⟩) hba).trans (cell_of_row W ba 0 _ _ (0, 0) hc)
  obtain ⟨f0, f1, f2, f3, f4, f5, f6, f7⟩ := EvIn.new W e
  have HI := Lib.hid h
  have HOV := Lib.hid (show OwnE (W.alloc (evObj e)) 0 v aq from hov.keepB fun b hb => hb0.block b (h.lt b (hvb b hb).1))
  have HVB := Lib.hid hvb
  have HC := Lib.hid (show (W.alloc (evObj e)).heap[ba]? = some (.cells #[v] 22) from (hb0.block ba hba).trans hc)
  have HB0 := Lib.hid hb0
  obtain ⟨i0, hi, hz0, hz1, hz2⟩ := info_parts ev_info
  have HIN := Lib.hid hi; have HZ0 := Lib.hid hz0; have HZ1 := Lib.hid hz1; have HZ2 := Lib.hid hz2
  clear hi hz0 hz1 hz2 h hc hov hvb hb0
  rw [hagg]
  clear hagg
  go_enter Tryz.func111, Tryz.ntmps111
  go_upto_region 1 with fail
  have hs0 : (W.alloc (evObj e)).heap.size = W.heap.size + 1 := by simp
  generalize W.alloc (evObj e) = w0 at *
  go_wp2_with (at_builtin; refine wpList_app (P := Tryz.prog) rfl (.tmp 5) (.tmp 7) 22 rfl 36 i0 _ 8 96 Tryz.underlying22 HIN.out HZ0.out HZ1.out HZ2.out rfl (by decide) 0 _ aq.length (evCells aq) rfl ?c1 (W.heap.size + 1 + 1) _ _ _ e.cells rfl ?c2 (cells_one e) ?c4 ?c5 ?c6 ?_)
  case c1 => exact World.ownsRow.alloc HOV.out _
  case c2 =>
    have := Cel.new (size := 8) (n := 1) w0 #[.string ⟨e.src.toArray⟩, .int .i64 e.num, .int .i64 e.at_, .int .i64 e.kind, .string ⟨e.per.toArray⟩, .string ⟨e.item.toArray⟩, .int .i64 e.val, .string ⟨e.text.toArray⟩] 36 (by unfold maxLen; omega) rfl
    rw [hs0] at this; exact this
  case c4 => unfold maxLen; omega
  case c5 => omega
  case c6 => exact Nat.zero_le _
  intro v2 w2 ho2 hg2 hv2
  have hs2 : W.heap.size + 2 ≤ w2.heap.size := by have := hg2.size; simp at this; omega
  have hold : ∀ b, b < w0.heap.size → v.ownBlock ≠ some b → w2.heap[b]? = w0.heap[b]? := fun b hb hn => (hg2.block b (by simp; omega) (fun hq => hn hq.symm)).trans (heap_alloc_old _ _ hb)
  have hvl : ∀ b, v.ownBlock = some b → b < W.heap.size := fun b hb => HI.out.lt b (HVB.out b hb).1
  have hcb : w2.heap[ba]? = some (.cells #[v] 22) := (hold ba (by omega) (fun hq => (HVB.out ba hq).2.1 rfl)).trans HC.out
  have hc2 : w2.cell? ⟨ba, 0, none⟩ = some v := cell_of_row w2 ba 0 _ _ (0, 0) hcb
  have hfz : w2.frozen? ⟨ba, 0, none⟩ = false := frozen_of_row w2 ba 0 _ _ hcb
  have hset : ∀ i, i ≠ ba → (w2.setCell ⟨ba, 0, none⟩ v2).heap[i]? = w2.heap[i]? := fun i hi => Below.heap_setCell _ _ _ i (by show i ≠ ba; exact hi)
  have d3 : (w2.setCell ⟨ba, 0, none⟩ v2).cell? ⟨b7, 2, none⟩ = some (.string ⟨p.toArray⟩) := by
    have h1 : (w2.setCell ⟨ba, 0, none⟩ v2).heap[b7]? = W.heap[b7]? := (hset b7 (fun e => HI.out.ne e.symm)).trans ((hold b7 (by omega) (fun hq => (HVB.out b7 hq).2.2 rfl)).trans (HB0.out.block b7 hb7))
    exact (World.cell?_of_block (w := W) (a := ⟨b7, 2, none⟩) h1).trans HI.out.dj
  have e3 : (w2.setCell ⟨ba, 0, none⟩ v2).cell? ⟨W.heap.size, 4, none⟩ = some (.string ⟨e.per.toArray⟩) := by
    have h1 : (w2.setCell ⟨ba, 0, none⟩ v2).heap[W.heap.size]? = w0.heap[W.heap.size]? := (hset _ (by omega)).trans (hold _ (by omega) (fun hq => by have := hvl _ hq; omega))
    exact (World.cell?_of_block (w := w0) (a := ⟨W.heap.size, 4, none⟩) h1).trans f4
  have HFIN := Lib.hid (show AskPost ba b7 p (aq ++ [e]) H W (stayP p e) (.returned (.bool (stayP p e))) (w2.setCell ⟨ba, 0, none⟩ v2) from by
    have hbl : ∀ b, v2.ownBlock = some b → (H b ∨ (W.heap.size ≤ b ∧ b < (w2.setCell ⟨ba, 0, none⟩ v2).heap.size)) ∧ b ≠ ba ∧ b ≠ b7 := fun b hb => by
      rcases hv2 with h1 | h1
      · obtain ⟨a1, a2, a3⟩ := HVB.out b (h1 ▸ hb)
        exact ⟨.inl a1, a2, a3⟩
      · rw [h1] at hb; injection hb with hb
        have hl := World.ownsRow.lt ho2 b (by rw [h1, hb])
        refine ⟨.inr ⟨by omega, ?_⟩, by omega, by omega⟩
        have : (w2.setCell ⟨ba, 0, none⟩ v2).heap.size = w2.heap.size := by simp [World.setCell]
        omega
    have hk : Keep H W (w2.setCell ⟨ba, 0, none⟩ v2) := ((Keep.of_below (F := H) (HB0.out.alloc HB0.out.size _)).trans (Keep.of_grown (F := H) hg2 (fun k e => (HVB.out k e).1)) (fun _ _ h => h)).setCell (fun _ => HI.out.ha) v2
    refine ⟨rfl, fun b => H b ∨ (W.heap.size ≤ b ∧ b < (w2.setCell ⟨ba, 0, none⟩ v2).heap.size), ⟨⟨v2, heap_set_row hcb, ?_, hbl⟩, d3, .inl HI.out.ha, .inl HI.out.h7, HI.out.ne, fun b hb => ?_⟩, fun b hb => hb.imp id (fun h => h.1), hk⟩
    · have : OwnE w2 0 v2 (aq ++ [e]) := by unfold OwnE; rw [evCells_one, List.length_append]; exact ho2
      exact this.keepB fun b hb => hset b (hbl b hb).2.1
    · rcases hb with hb | hb
      · exact Nat.lt_of_lt_of_le (HI.out.lt b hb) hk.size
      · exact hb.2)
  have hst : stayP p e = (e.per != p) := rfl
  have HST := Lib.hid hst
  obtain ⟨A2, c2, hv2e⟩ := ownsRow_form ho2
  clear hold hvl hcb hset ho2 hg2 hv2 f0 f1 f2 f3 f4 f5 f6 f7 c0 hst HOV HC
  subst hv2e
  go_upto_region 2 with fail
  generalize w2.setCell ⟨ba, 0, none⟩ (.slice A2 (aq.length + 1) c2) = w3 at *
  clear hc2 hfz
  have HR := Lib.hid (show AskPost ba b7 p (aq ++ [e]) H W (stayP p e) (.returned (.bool (!e.per == p))) w3 from by have := HFIN.out; rw [HST.out] at this ⊢; exact this)
  go_wp2
  go_ret
  exact HR.out
theorem AskI.asker (ba b7 : Nat) (p : List UInt8) : Asker 111 #[.pointer (some ⟨ba, 0, none⟩), .pointer (some ⟨b7, 0, none⟩)] (stayP p) (AskI ba b7 p) where
  enter := fun _ _ => by kernel_rfl
  ask := fun W aq H e haq hi _ => jdone1_any ba b7 p aq H W hi haq e
  keep := fun _ _ _ _ h hs hk => h.keep hs hk
  lt := fun _ _ _ h => h.lt
end Go.Proofs.YtejjfhhppjdcaaaGreatDoor
