/-
  Layer 8: Drop's sieve.
  Layer 8: Drop.
  Layer 8: take.
-/
import Derived.Test.YtbejfgmdkmddnaaGreatDoorSRef02
import Derived.Test.YtbejfgmdkmddnaaGreatDoorSItkRef
import Derived.Deep.RegionLaw
import Derived.IntWalk
import Derived.Test.YtbejfgmdkmddnaaGreatDoorSHadPut
import Derived.Test.YtbejfgmdkmddnaaGreatDoorSIns
namespace Go.Proofs.YtbejfgmdkmddnaaGreatDoor
open Go.RowKit

set_option maxHeartbeats 1000000 in
set_option maxRecDepth 100000 in
theorem dsieve_any (w : World) (A : Option Addr) (n c : Nat) (es : List Ev) (h : Evs w w.heap.size A n c es) (bk F : Nat) (caps : Array Value) (hbk : w.cell? ⟨bk, 0, none⟩ = some (.func (.func F) #[] caps)) (p : Ev → Bool) (hn : n ≤ 200000)
    (hcall : ∀ (args : Array Value) (w : World), (callFunc F args).run Tryz.prog w = .ok (.enter F args) w)
    (hf : ∀ (w1 : World) (e : Ev), e ∈ es → Below w.heap.size w w1 → Calls Tryz.prog F (#[e.agg] ++ caps) w1 (Says (p e) w1)) :
    Calls Tryz.prog 133 #[.slice A n c, .pointer (some ⟨bk, 0, none⟩)] w (SievePost w es p) := by
  have HH := Lib.hid h; clear h
  have HF := Lib.hid hf; clear hf
  have hbkl : bk < w.heap.size := World.block_lt_of_cell? w ⟨bk, 0, none⟩ hbk
  have HBK := Lib.hid hbk; clear hbk
  go_enter Tryz.func133, Tryz.ntmps133
  go_wp2
  go_loopw [4, 9] (fun v i wr => SieveRel w n es p v i wr) (fun _ i _ => n - (intOf i).toNat)
  case atStart => exact ⟨0, rfl, Nat.zero_le _, World.ownsRow_nil _ _ _ _, Below.refl _ _⟩
  case round =>
    obtain ⟨k, rfl, hk, hown, hbel⟩ := hrel
    have HO := Lib.hid hown; clear hown
    by_cases hkn : k < n
    · have hkl : k < es.length := by rw [HH.out.len]; exact hkn
      obtain ⟨b, off, rfl, hb, hev⟩ := HH.out.ev k hkl
      obtain ⟨e0, e1, e2, e3, e4, e5, e6, e7⟩ := hev.below hbel hb
      have HTK := Lib.hid (show (es.take (k + 1)).filter p = (es.take k).filter p ++ (if p es[k] then [es[k]] else []) by
        rw [List.take_add_one, List.getElem?_eq_getElem hkl, Option.toList_some, List.filter_append]
        simp [List.filter_cons])
      have HM := Lib.hid (List.getElem_mem hkl)
      generalize es[k] = x at *
      have t1 : (k : Int) < n := by omega
      have hbk' : wr.cell? ⟨bk, 0, none⟩ = some (.func (.func F) #[] caps) := (hbel.cell (p := ⟨bk, 0, none⟩) hbkl).trans HBK.out
      have hbkr : bk < wr.heap.size := Nat.lt_of_lt_of_le hbkl hbel.size
      go_wp2_with fail
      have hb1 : Below w.heap.size w (wr.alloc (evObj x)) := hbel.alloc hbel.size _
      refine (HF.out _ x HM.out hb1).mono ?_
      rintro e w1 ⟨rfl, hbw1⟩
      have hbw : Below w.heap.size w w1 := hb1.trans (hbw1.mono hb1.size)
      have hs1 : wr.heap.size + 1 ≤ w1.heap.size := by have := hbw1.size; simp at this; omega
      have hs0 := hbel.size
      have HOW := Lib.hid (ownsRow_below (World.ownsRow.alloc HO.out (evObj x)) hbw1 (Nat.le_refl _))
      have hin := (EvIn.new wr x).below hbw1 (by simp)
      obtain ⟨f0, f1, f2, f3, f4, f5, f6, f7⟩ := hin
      clear e0 e1 e2 e3 e4 e5 e6 e7 hb1 hbw1 hev hcall hbk' hbkr
      have hlen : ((es.take k).filter p).length ≤ k := by
        have := List.length_filter_le p (es.take k); rw [List.length_take] at this; omega
      cases hp : p x
      · have HT : Hid ((es.take (k + 1)).filter p = (es.take k).filter p) := by have := HTK.out; rw [hp] at this; unfold Hid; simpa using this
        clear hp HTK
        go_wp2
        go_roundw
        case rel => exact ⟨k + 1, by go_num, by omega, by rw [HT.out]; exact HOW.out, hbw⟩
        case measure => simp [intOf]; omega
      · have HT : Hid ((es.take (k + 1)).filter p = (es.take k).filter p ++ [x]) := by have := HTK.out; rw [hp] at this; unfold Hid; simpa using this
        clear hp HTK
        obtain ⟨i0, hi, hz0, hz1, hz2⟩ := info_parts ev_info
        have HI := Lib.hid hi; have HZ0 := Lib.hid hz0; have HZ1 := Lib.hid hz1; have HZ2 := Lib.hid hz2
        clear hi hz0 hz1 hz2
        go_wp2_with (at_builtin; refine wpList_app (P := Tryz.prog) rfl (.tmp 16) (.tmp 18) 22 rfl 31 i0 _ 8 96 Tryz.underlying22 HI.out HZ0.out HZ1.out HZ2.out rfl (by decide) w.heap.size _ ((es.take k).filter p).length (evCells ((es.take k).filter p)) rfl ?c1 (w1.heap.size + 1) _ _ _ x.cells rfl ?c2 (cells_one x) ?c4 ?c5 ?c6 ?_)
        case c1 => exact World.ownsRow.alloc HOW.out _
        case c2 => exact Cel.new w1 _ _ (by unfold maxLen; omega) rfl
        case c4 => unfold maxLen; omega
        case c5 => omega
        case c6 => first | omega | (simp; omega)
        intro v' w2 hown2 hg2 _
        have hb2 : Below w.heap.size w w2 := Below.grown (hbw.alloc (by omega) _) hg2 (by simp; omega) (fun k' hk' => (HOW.out.lt k' hk').1)
        have HO2 := Lib.hid hown2
        have HB2 := Lib.hid hb2
        clear hown2 hg2 hb2 f0 f1 f2 f3 f4 f5 f6 f7
        go_wp2
        go_roundw
        case rel =>
          refine ⟨k + 1, by go_num, by omega, ?_, HB2.out⟩
          rw [HT.out]
          unfold OwnE
          rw [evCells_one, List.length_append]
          exact HO2.out
        case measure => simp [intOf]; omega
    · have hkk : es.take k = es := List.take_of_length_le (by rw [HH.out.len]; omega)
      have HKK := Lib.hid hkk; clear hkk
      go_wp2
      go_ret
      exact ⟨u4, rfl, by have := HO.out; rw [HKK.out] at this; exact this, hbel⟩
end Go.Proofs.YtbejfgmdkmddnaaGreatDoor
namespace Go.Proofs.YtbejfgmdkmddnaaGreatDoor
open Go.RowKit Go.Maps Go.Sort

theorem may_id {e : Ev} (h : mayB e = true) : idOk e.src e.num := by
  unfold mayB headB nameB at h
  simp only [Bool.and_eq_true, decide_eq_true_eq] at h
  exact ⟨by omega, by omega, by omega⟩
def dropN (x : Itk) (p : Ev → Bool) : Int := x.taken.length + x.late.length - (x.taken.filter p).length - (x.late.filter p).length
def DropPost (w : World) (F : Nat → Prop) (bi N : Nat) (x : Itk) (p : Ev → Bool) (r : Ending) (w' : World) : Prop := r = .returned (.int .i64 (dropN x p)) ∧ Deeds w F bi N (x.drop p) w'
def DropRel (w5 : World) (bl : Nat) (l : List Ev) (i : Value) (wr : World) : Prop := ∃ k : Nat, i = .int .i64 k ∧ k ≤ l.length ∧ SetI wr bl k ((l.take k).map idOf) ∧ w5.grownBy wr (some bl)

set_option maxRecDepth 100000 in
set_option maxHeartbeats 4000000 in
theorem drop_any (w : World) (F : Nat → Prop) (bi N : Nat) (x : Itk) (h : ItkAt w F bi N x) (hN : N ≤ 100000) (fn : Nat) (caps : Array Value) (p : Ev → Bool)
    (hcall : ∀ (args : Array Value) (w : World), (callFunc fn args).run Tryz.prog w = .ok (.enter fn args) w)
    (hf : ∀ (w1 : World) (e : Ev), e ∈ x.taken ∨ e ∈ x.late → Below w.heap.size w w1 → Calls Tryz.prog fn (#[e.agg] ++ caps) w1 (Says (p e) w1)) :
    Calls Tryz.prog 71 #[.pointer (some ⟨bi, 0, none⟩), .func (.func fn) #[] caps] w (DropPost w F bi N x p) := by
  obtain ⟨A, hM, hO, hnl, hng, hfoot, hFlt⟩ := h
  have HM := Lib.hid hM; have HO := Lib.hid hO; have HFO := Lib.hid hfoot; have HFL := Lib.hid hFlt; have HF := Lib.hid hf
  have hlt : bi < w.heap.size := hM.lt (.inl rfl)
  have htl := hO.taken
  have hll := hO.late
  clear hM hO hfoot hFlt hf
  obtain ⟨B1, k1, hv1, hm1⟩ := HM.out.taken.form
  obtain ⟨B2, k2, hv2, hm2⟩ := HM.out.late.form
  go_enter Tryz.func71, Tryz.ntmps71
  have hbA : Below w.heap.size w (w.alloc (.cells #[.func (.func fn) #[] caps] 69)) := (Below.refl _ _).alloc (Nat.le_refl _) _
  obtain ⟨c0, c1, c2, c3, c4, c5, f2, f3, f4⟩ := (HM.out.up hbA).cells
  rw [hv1] at c2
  rw [hv2] at c3
  go_wp2_with fail
  have HBK := Lib.hid (show (w.alloc (.cells #[.func (.func fn) #[] caps] 69)).cell? ⟨w.heap.size, 0, none⟩ = some (.func (.func fn) #[] caps) from cell_of_row _ w.heap.size 0 _ _ (0, 0) (heap_alloc_new w _))
  have hsA : (w.alloc (.cells #[.func (.func fn) #[] caps] 69)).heap.size = w.heap.size + 1 := by simp
  have HM0 := Lib.hid (HM.out.up hbA)
  generalize w.alloc (.cells #[.func (.func fn) #[] caps] 69) = w0 at *
  have hev1 : Evs w0 w0.heap.size B1 x.taken.length k1 x.taken := by
    have := HM0.out.taken
    rw [hv1] at this
    exact Cel.of_own this
  refine (dsieve_any w0 B1 _ k1 x.taken hev1 w.heap.size fn caps HBK.out p (by omega) hcall (fun w1 e he hb => HF.out w1 e (.inl he) (hbA.trans (hb.mono hbA.size)))).mono ?_
  rintro r w1 ⟨v1, rfl, ho1, hb1⟩
  have hbw1 : Below w.heap.size w w1 := hbA.trans (hb1.mono hbA.size)
  have HM1 := Lib.hid (HM.out.up hbw1)
  have HO1 := Lib.hid ho1
  have HBK1 := Lib.hid ((hb1.cell (p := ⟨w.heap.size, 0, none⟩) (by simp only; omega)).trans HBK.out)
  have hs1 := hb1.size
  clear c0 c1 c2 c3 c4 c5 f2 f3 f4 ho1 hb1 hev1
  obtain ⟨c0, c1, c2, c3, c4, c5, f2, f3, f4⟩ := HM1.out.cells
  rw [hv1] at c2
  rw [hv2] at c3
  go_wp2_with fail
  have hev2 : Evs w1 w1.heap.size B2 x.late.length k2 x.late := by
    have := HM1.out.late
    rw [hv2] at this
    exact Cel.of_own this
  refine (dsieve_any w1 B2 _ k2 x.late hev2 w.heap.size fn caps HBK1.out p (by omega) hcall (fun w2 e he hb => HF.out w2 e (.inr he) (hbw1.trans (hb.mono hbw1.size)))).mono ?_
  rintro r w2 ⟨v2, rfl, ho2, hb2⟩
  have hbw2 : Below w.heap.size w w2 := hbw1.trans (hb2.mono hbw1.size)
  have HM2 := Lib.hid (HM.out.up hbw2)
  have HO2 := Lib.hid ho2
  have HO12 := Lib.hid (show OwnE w2 w0.heap.size v1 (x.taken.filter p) from HO1.out.keep fun b hb => hb2.block b (HO1.out.lt hb))
  have hs2 := hb2.size
  have HBL1 := Lib.hid (fun b (hb : v1.ownBlock = some b) => (World.ownsRow.lt HO1.out b hb))
  have HBL2 := Lib.hid (fun b (hb : v2.ownBlock = some b) => (World.ownsRow.lt ho2 b hb))
  obtain ⟨D1, q1, hw1, hq1⟩ := HO12.out.form
  obtain ⟨D2, q2, hw2, hq2⟩ := ho2.form
  subst hw1 hw2
  clear c0 c1 c2 c3 c4 c5 f2 f3 f4 ho2 hb2 hev2 hcall
  obtain ⟨c0, c1, c2, c3, c4, c5, f2, f3, f4⟩ := HM2.out.cells
  rw [hv1] at c2
  rw [hv2] at c3
  have hft := List.length_filter_le p x.taken
  have hfl := List.length_filter_le p x.late
  have HDN := Lib.hid (show dropN x p = x.taken.length + x.late.length - (x.taken.filter p).length - (x.late.filter p).length from rfl)
  have HMT := Lib.hid (show ∀ e ∈ x.late.filter p, mayB e = true from fun e he => HO.out.may e (.inr (List.mem_filter.1 he).1))
  generalize hgt : x.taken.filter p = t at *
  generalize hgl : x.late.filter p = l at *
  have HGT := Lib.hid hgt; have HGL := Lib.hid hgl
  clear hgt hgl
  have e1 : IntKind.i64.wrap ((x.taken.length : Int) + x.late.length) = x.taken.length + x.late.length := IntWalk.i64_in _ (by omega)
  have e2 : IntKind.i64.wrap ((x.taken.length : Int) + x.late.length - t.length) = x.taken.length + x.late.length - t.length := IntWalk.i64_in _ (by omega)
  have e3 : IntKind.i64.wrap ((x.taken.length : Int) + x.late.length - t.length - l.length) = x.taken.length + x.late.length - t.length - l.length := IntWalk.i64_in _ (by omega)
  go_wp2
  go_quiet (fail)
  clear e1 e2 e3
  have hmk : ∀ W : World, (Instr.makeMap 81 (some (.int .i64 (l.length : Int)))).run Tryz.prog W = .ok (.map (some W.heap.size)) (W.alloc (.map #[] 0)) := fun W => by
    unfold Instr.makeMap
    simp only [Sem.run_bind, run_underlying Tryz.underlying81, asInt, Sem.run_pure, Result.andThen_ok]
    rfl
  have hbi2 : bi < w2.heap.size := Nat.lt_of_lt_of_le hlt hbw2.size
  go_wp2
  have hblk2 := HM2.out.blk
  have HW5 : Hid (∃ w5, w5 = ((((w2.drewN nq).setCell ⟨bi, 2, none⟩ (.slice D1 t.length q1)).setCell ⟨bi, 3, none⟩ (.slice D2 l.length q2)).setCell ⟨bi, 4, none⟩ (.map (some w2.heap.size))).alloc (.map #[] 0)) := ⟨_, rfl⟩
  obtain ⟨w5, hw5⟩ := HW5.out
  rw [← hw5]
  have h50 : ((((w2.drewN nq).setCell ⟨bi, 2, none⟩ (.slice D1 t.length q1)).setCell ⟨bi, 3, none⟩ (.slice D2 l.length q2)).setCell ⟨bi, 4, none⟩ (.map (some w2.heap.size))).heap.size = w2.heap.size := by simp [World.setCell]
  have h51 : w5.heap[bi]? = some (itkObj { A with vt := .slice D1 t.length q1, vl := .slice D2 l.length q2, bl := w2.heap.size, nl := l.length }) := by
    rw [hw5]
    have a1 : ((w2.drewN nq).setCell ⟨bi, 2, none⟩ (.slice D1 t.length q1)).heap[bi]? = _ := heap_set_row (w := w2.drewN nq) hblk2
    have a2 := heap_set_row (o := 3) (u := .slice D2 l.length q2) a1
    have a3 := heap_set_row (o := 4) (u := .map (some w2.heap.size)) a2
    exact (Below.heap_alloc _ (.map #[] 0) bi (by rw [h50]; exact hbi2)).trans a3
  have h5b : ∀ b, b < w2.heap.size → b ≠ bi → w5.heap[b]? = w2.heap[b]? := fun b hb hne => by
    rw [hw5, Below.heap_alloc _ _ _ (by rw [h50]; exact hb), Below.heap_setCell _ _ _ _ hne, Below.heap_setCell _ _ _ _ hne, Below.heap_setCell _ _ _ _ hne]; rfl
  have h5s : w5.heap.size = w2.heap.size + 1 := by rw [hw5]; simp [World.setCell]
  have h5m : SetI w5 w2.heap.size 0 [] := by
    have := SetI.made ((((w2.drewN nq).setCell ⟨bi, 2, none⟩ (.slice D1 t.length q1)).setCell ⟨bi, 3, none⟩ (.slice D2 l.length q2)).setCell ⟨bi, 4, none⟩ (.map (some w2.heap.size)))
    rw [h50] at this
    rw [hw5]
    exact this
  have h5o : w5.os = w.os ∧ w5.tape = w.tape ∧ w5.output = w.output := by rw [hw5]; exact ⟨hbw2.os, hbw2.tape, hbw2.output⟩
  have H51 := Lib.hid h51; have H5B := Lib.hid h5b; have H5S := Lib.hid h5s; have H5M := Lib.hid h5m; have H5O := Lib.hid h5o
  clear HW5 hw5 h50 h51 h5b h5s h5m h5o hblk2 c0 c1 c2 c3 c4 c5 f2 f3 f4 hmk
  go_loopw [57] (fun i wr => DropRel w5 w2.heap.size l i wr) (fun i _ => l.length - (intOf i).toNat)
  case atStart => exact ⟨0, rfl, Nat.zero_le _, H5M.out, ⟨rfl, rfl, rfl, Nat.le_refl _, fun _ _ _ => rfl⟩⟩
  case round =>
    obtain ⟨k, rfl, hk, hset, hgr⟩ := hrel
    have HSE := Lib.hid hset; have HGR := Lib.hid hgr
    have hsr := hgr.size
    rw [H5S.out] at hsr
    clear hset hgr
    have hstay : ∀ b, b < w2.heap.size → b ≠ bi → wr.heap[b]? = w2.heap[b]? := fun b hb hne => (HGR.out.block b (by rw [H5S.out]; omega) (fun e => by injection e with e; omega)).trans (H5B.out b hb hne)
    have hbir : wr.heap[bi]? = some (itkObj { A with vt := .slice D1 t.length q1, vl := .slice D2 l.length q2, bl := w2.heap.size, nl := l.length }) := (HGR.out.block bi (by rw [H5S.out]; omega) (fun e => by injection e with e; omega)).trans H51.out
    have hol : OwnE wr w1.heap.size (.slice D2 l.length q2) l := HO2.out.keep fun b hb => hstay b (HBL2.out b hb).2 (by
      obtain ⟨cs, hc⟩ := HO2.out.typ hb
      exact ne_types hc HM2.out.blk (by decide))
    have hot : OwnE wr w0.heap.size (.slice D1 t.length q1) t := HO12.out.keep fun b hb => hstay b (by have := (HBL1.out b hb).2; omega) (by
      obtain ⟨cs, hc⟩ := HO12.out.typ hb
      exact ne_types hc HM2.out.blk (by decide))
    have HST := Lib.hid hstay; have HBI := Lib.hid hbir; have HOL := Lib.hid hol; have HOT := Lib.hid hot
    clear hstay hbir hol hot
    by_cases hkn : k < l.length
    · have hevs : Evs wr wr.heap.size D2 l.length q2 l := Cel.of_own HOL.out
      obtain ⟨b, off, rfl, hb, hev⟩ := hevs.ev k hkn
      obtain ⟨e0, e1, e2, e3, e4, e5, e6, e7⟩ := hev
      have hc4 : wr.cell? ⟨bi, 4, none⟩ = some (.map (some w2.heap.size)) := (cell_of_row wr bi 4 _ _ (0, 0) HBI.out).trans rfl
      have HID := Lib.hid (may_id (HMT.out _ (List.getElem_mem hkn)))
      have HTK := Lib.hid (show ∀ q, q ∈ idOf l[k] :: (l.take k).map idOf ↔ q ∈ (l.take (k + 1)).map idOf from fun q => by
        rw [List.take_add_one, List.getElem?_eq_getElem hkn, Option.toList_some]
        simp only [List.map_append, List.map_cons, List.map_nil, List.mem_append, List.mem_cons, List.not_mem_nil, or_false]
        exact Or.comm)
      generalize l[k] = y at *
      have t1 : (k : Int) < l.length := by omega
      have hbir : bi < wr.heap.size := by omega
      clear hevs
      go_wp2
      have hbW : Below wr.heap.size wr (wr.alloc (evObj y)) := (Below.refl _ _).alloc (Nat.le_refl _) _
      obtain ⟨g0, g1, g2, g3, g4, g5, g6, g7⟩ := EvIn.new wr y
      have hc4' : (wr.alloc (evObj y)).cell? ⟨bi, 4, none⟩ = _ := (hbW.cell (p := ⟨bi, 4, none⟩) hbir).trans hc4
      have HSE1 := Lib.hid (HSE.out.block (hbW.block w2.heap.size (by omega)))
      have hsW : (wr.alloc (evObj y)).heap.size = wr.heap.size + 1 := by simp
      have HGR1 := Lib.hid (HGR.out.andThen (World.grownBy_alloc wr (evObj y) none) (fun j hj => by cases hj))
      clear e0 e1 e2 e3 e4 e5 e6 e7 hc4 hbir hbW
      generalize wr.alloc (evObj y) = w6 at *
      have HNK := Lib.hid (show k < maxLen by unfold maxLen; omega)
      go_region_law ((go_simp; go_at_call 47; refine (ident_any _ y).mono ?_; rintro r w7 ⟨rfl, hb7⟩; have HS7 := Lib.hid (HSE1.out.block (w' := w7) (hb7.block w2.heap.size (by show _ < w6.heap.size; omega))); have HB7 := Lib.hid hb7; have hc7 : w7.cell? ⟨bi, 4, none⟩ = some (.map (some w2.heap.size)) := (hb7.cell (p := ⟨bi, 4, none⟩) (by show bi < w6.heap.size; omega)).trans hc4'; obtain ⟨w8, hrun8, hs8, hg8⟩ := HS7.out.put HNK.out y.src y.num HID.out; have HS8 := Lib.hid hs8; have HG8 := Lib.hid hg8; clear hb7 hs8 hg8))
      all_goals
        have HRR := Lib.hid (show DropRel w5 w2.heap.size l (.int .i64 ((k + 1 : Nat) : Int)) w8 from ⟨k + 1, rfl, by omega, HS8.out.congr HTK.out, (HGR1.out.andThen (row' := none) ⟨HB7.out.os, HB7.out.tape, HB7.out.output, HB7.out.size, fun i hi _ => HB7.out.block i hi⟩ (fun j hj => by cases hj)).andThen HG8.out (fun j hj => .inr hj)⟩)
        clear hrun8 hc7 hc4' g0 g1 g2 g3 g4 g5 g6 g7 hsW
        go_wp2
        go_roundw
        case rel => exact HRR.out
        case measure => simp [intOf]; omega
    · have hkk : l.take k = l := List.take_of_length_le (by omega)
      have HKK := Lib.hid hkk
      have t1 : ¬ (k : Int) < l.length := by omega
      clear hkk
      go_wp2
      go_ret
      refine ⟨by rw [HDN.out]; rfl, ?_⟩
      have hkl : k = l.length := by omega
      have hse := HSE.out
      rw [HKK.out, hkl] at hse
      have hkeep : Keep (fun b => b = bi) w wr := ⟨HGR.out.os.trans H5O.out.1, HGR.out.tape.trans H5O.out.2.1, HGR.out.output.trans H5O.out.2.2, by have := hbw2.size; omega, fun b hb hne => (HST.out b (by have := hbw2.size; omega) hne).trans (hbw2.block b hb)⟩
      have hmem := HM.out.setDrop hkeep HBI.out HOT.out.low HOL.out.low hse (fun b hb => by have := (HBL1.out b hb).1; omega) (fun b hb => by have := (HBL2.out b hb).1; omega) hbw2.size (fun b h1 h2 => by have := (HBL1.out b h1).2; have := (HBL2.out b h2).1; omega)
      have hok : ItkOk N (x.drop p) := HO.out.drop p
      have hdr : x.drop p = { x with taken := t, late := l } := by unfold Itk.drop; rw [HGT.out, HGL.out]
      refine ⟨fun b => F b ∨ (w.heap.size ≤ b ∧ b < wr.heap.size), ⟨{ A with vt := .slice D1 t.length q1, vl := .slice D2 l.length q2, bl := w2.heap.size, nl := l.length }, by rw [hdr]; exact hmem, hok, by show l.length ≤ N; omega, hng, fun b hb => ?_, fun b hb => ?_⟩, hkeep.mono (fun b _ e => by rw [e]; exact HFO.out bi (.inl rfl)), fun b hb => hb.imp id (fun h => h.1)⟩
      · have hfo := HFO.out b
        rcases hb with rfl | rfl | rfl | hb | hb | hb | rfl | rfl
        · exact .inl (hfo (.inl rfl))
        · exact .inl (hfo (.inr (.inl rfl)))
        · exact .inl (hfo (.inr (.inr (.inl rfl))))
        · exact .inl (hfo (.inr (.inr (.inr (.inl hb)))))
        · have := HBL1.out b hb; right; omega
        · have := HBL2.out b hb; right; omega
        · right; have := hbw2.size; exact ⟨this, by show w2.heap.size < _; omega⟩
        · exact .inl (hfo (.inr (.inr (.inr (.inr (.inr (.inr (.inr rfl))))))))
      · rcases hb with hb | hb
        · have := HFL.out b hb; have := hbw2.size; omega
        · exact hb.2
end Go.Proofs.YtbejfgmdkmddnaaGreatDoor
namespace Go.Proofs.YtbejfgmdkmddnaaGreatDoor
open Go.RowKit Go.Maps Go.Sort

set_option maxRecDepth 100000 in
set_option maxHeartbeats 1000000 in
theorem take1_any (w : World) (b1 b2 bi g off n c : Nat) (a e : Ev) (k : Nat) (hk : k < n) (hc1 : w.cell? ⟨b1, 0, none⟩ = some (.pointer (some ⟨bi, 0, none⟩))) (hc2 : w.cell? ⟨bi, 2, none⟩ = some (.slice (some ⟨g, off, none⟩) n c))
    (ha : EvAt w g (off + k * 8) a) (he : EvIn w b2 e) :
    Calls Tryz.prog 87 (#[.int .i64 k] ++ #[.pointer (some ⟨b1, 0, none⟩), .pointer (some ⟨b2, 0, none⟩)]) w (Says (decide (0 < cmpE a e)) w) := by
  show Calls Tryz.prog 87 #[.int .i64 k, .pointer (some ⟨b1, 0, none⟩), .pointer (some ⟨b2, 0, none⟩)] w (Says (decide (0 < cmpE a e)) w)
  obtain ⟨a0, a1, a2, a3, a4, a5, a6, a7⟩ := ha
  obtain ⟨e0, e1, e2, e3, e4, e5, e6, e7⟩ := he
  have hk' : (k : Int) < n := by omega
  go_enter Tryz.func87, Tryz.ntmps87
  go_wp2
  go_still_tail 8, (by kernel_rfl)
  change wpList _ _ _ _ _ (w.drewN 1)
  have hbq : Below w.heap.size w (w.drewN 1) := below_drewN (Below.refl _ _) 1
  clear a0 a1 a2 a3 a4 a5 a6 a7 e0 e1 e2 e3 e4 e5 e6 e7 hc1 hc2
  generalize w.drewN 1 = w1 at *
  go_wp2_with fail
  refine (compare_any w1 a e).mono ?_
  rintro r w2 ⟨rfl, hb2⟩
  have hbw : Below w.heap.size w w2 := hbq.trans (hb2.mono hbq.size)
  clear hb2
  generalize cmpE a e = q at *
  go_wp2
  go_ret
  exact ⟨rfl, hbw⟩

theorem take2_any (w : World) (b : Nat) (y e : Ev) (hc : EvIn w b e) (hb : b < w.heap.size) : Calls Tryz.prog 90 (#[y.agg] ++ #[.pointer (some ⟨b, 0, none⟩)]) w (Says (keepB e.per y) w) := by
  show Calls Tryz.prog 90 #[y.agg, .pointer (some ⟨b, 0, none⟩)] w (Says (keepB e.per y) w)
  unfold Ev.agg
  have hbA : Below w.heap.size w (w.alloc (evObj y)) := (Below.refl _ _).alloc (Nat.le_refl _) _
  obtain ⟨_, _, _, _, e4, _, _, _⟩ := hc.below hbA hb
  have HK := Lib.hid (show keepB e.per y = ((y.per != e.per) || (y.kind == 14)) from rfl)
  cases h1 : (y.per == e.per)
  · have HB := Lib.hid (show keepB e.per y = true by rw [HK.out]; simp [bne, h1])
    have h2 : (y.per != e.per) = true := by simp [bne, h1]
    go_enter Tryz.func90, Tryz.ntmps90
    go_wp2
    go_ret
    exact ⟨ret_bool HB.out.symm, hbA⟩
  · have HB := Lib.hid (show keepB e.per y = (y.kind == 14) by rw [HK.out]; simp [bne, h1])
    have h2 : (y.per != e.per) = false := by simp [bne, h1]
    go_enter Tryz.func90, Tryz.ntmps90
    go_wp2
    go_ret
    exact ⟨ret_bool HB.out.symm, hbA⟩
end Go.Proofs.YtbejfgmdkmddnaaGreatDoor
