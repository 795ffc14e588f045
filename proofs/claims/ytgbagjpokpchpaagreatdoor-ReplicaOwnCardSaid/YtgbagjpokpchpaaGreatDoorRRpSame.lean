/-
  Layer 8: an intake's own parts, put together again.
  Layer 8: Had.
  Layer 2: the document's All.
  Layer 33: a new replica; lives, few.
  Layer 33: Intake; the law's: same.
  Layer 33: AsOf.
-/
import Derived.Test.YtgbagjpokpchpaaGreatDoorROf
import Derived.Test.YtgbagjpokpchpaaGreatDoorRPnM
import Derived.Test.YtgbagjpokpchpaaGreatDoorRAdmAll
import Derived.Test.YtgbagjpokpchpaaGreatDoorRHadM
import Derived.Test.YtgbagjpokpchpaaGreatDoorRItkRef
import Derived.Test.YtgbagjpokpchpaaGreatDoorRRMay4
import Derived.Test.YtgbagjpokpchpaaGreatDoorREvListing
import Derived.Test.YtgbagjpokpchpaaGreatDoorRRpPull
import Derived.Deep.RegionHeld3
namespace Go.Proofs.YtgbagjpokpchpaaGreatDoor
open Go.RowKit Go.Maps Go.Sort Go.Shelf

theorem mayB_smallO {e : Ev} (h : mayB e = true) : e.small := by
  have := mayB_fit h
  exact ⟨by have := this.src; omega, by have := this.per; omega, by have := this.item; omega, by have := this.text; omega⟩
theorem rising_lenO {r ks : List (List UInt8)} (h : Rising r ks) : r.length ≤ ks.length := by
  have hnd : r.Nodup := List.pairwise_iff_getElem.2 fun i j hi hj hij e => by
    have := List.pairwise_iff_getElem.1 h.1 i j hi hj hij
    rw [e] at this
    exact lt_irr _ this
  have key : ∀ (r ks : List (List UInt8)), r.Nodup → (∀ x, x ∈ r → x ∈ ks) → r.length ≤ ks.length := by
    intro r
    induction r with
    | nil => intro ks _ _; simp
    | cons a l ih =>
      intro ks hnd hsub
      have hnd' := List.nodup_cons.1 hnd
      have ha : a ∈ ks := hsub a List.mem_cons_self
      have := ih (ks.erase a) hnd'.2 (fun x hx => by
        have hxa : x ≠ a := fun e => hnd'.1 (by rw [← e]; exact hx)
        exact (List.mem_erase_of_ne hxa).2 (hsub x (List.mem_cons_of_mem _ hx)))
      rw [List.length_erase_of_mem ha] at this
      have := List.length_pos_of_mem ha
      simp only [List.length_cons]
      omega
  exact key r ks hnd fun x hx => (h.2 x).1 hx
/-- an intake of which all is known that deeds leave -/
structure PtGood (N : Nat) (x : Itk) : Prop where
  play : PlayInv x
  pt : PtInv x
  clk : ClkOk x.clk
  ok : ItkOk N x
  gone : x.gone.length ≤ N
theorem PtGood.encC_len {N : Nat} {x : Itk} (h : PtGood N x) : (encC x.clk).length ≤ 100 + 69 * N := by
  have h1 := h.clk
  have h2 := srcB_len h1 x.clk.src.length
  rw [List.take_length] at h2
  have h3 := h.ok.src
  have k1 := h1.slack; have k2 := h1.idle; have k3 := h1.now; have k4 := h1.mark
  have h4 := lineB_len [99, 108, 111, 99, 107] [x.clk.slack, x.clk.idle, x.clk.now, x.clk.mark] (by intro v hv; simp at hv; rcases hv with rfl | rfl | rfl | rfl <;> omega)
  simp only [List.length_cons, List.length_nil] at h4
  unfold encC; rw [List.length_append]; omega
theorem PtGood.encH_len {N : Nat} {x : Itk} (h : PtGood N x) (hN : N ≤ 600) : (encH x.had).length ≤ 1000000000 := by
  have h1 := numB_short (n := x.had.length) (by have := h.ok.had; omega)
  have h2 := flat_len h.play.ok (fun p hp => Nat.le_trans (h.ok.hadrow h.play.ok p hp) (by omega)) x.had.length
  rw [List.take_length] at h2
  have h3 := h.ok.had
  unfold encH; rw [List.length_append]; omega
theorem PtGood.dc {N : Nat} {x : Itk} (h : PtGood N x) : decC (encC x.clk) = some x.clk := decC_enc h.clk h.play.risen
theorem PtGood.dh {N : Nat} {x : Itk} (h : PtGood N x) (hN : N ≤ 600) : decH (encH x.had) = .ok x.had [] :=
  decH_enc h.play.ok (by have := h.ok.had; omega) (fun p hp => by have := h.ok.hadrow h.play.ok p hp; omega)
theorem PtGood.bd {N : Nat} {x : Itk} (h : PtGood N x) (hN : N ≤ 600) : PtBd N (encC x.clk) (encH x.had) :=
  ⟨fun c hc => by rw [h.dc] at hc; injection hc with hc; subst hc; exact h.ok.src, fun m r hm => by
    rw [h.dh hN] at hm; injection hm with hm _; subst hm; exact ⟨h.ok.had, h.ok.hadrow h.play.ok⟩⟩
theorem PtGood.parts {N : Nat} {x : Itk} (h : PtGood N x) (hN : N ≤ 600) {r : List (List UInt8)} (hr : Rising r x.gone) : PartsOk x.clk.slack x.clk.idle (encC x.clk) (encH x.had) r x.taken x.late x.clk x.had :=
  ⟨h.dc, ⟨[], h.dh hN⟩, rfl, rfl, gone_ok h.pt hr, (h.play.right h.pt (by have := h.ok.taken; omega)).congr fun p => (hr.2 p).symm⟩
theorem ItkAt.congrG {w : World} {F : Nat → Prop} {bi N : Nat} {x : Itk} {g : List (List UInt8)} (h : ItkAt w F bi N { x with gone := g }) (hg : ∀ p, p ∈ g ↔ p ∈ x.gone) : ItkAt w F bi N x := by
  obtain ⟨A, hM, hO, h3, h4, h5, h6⟩ := h
  exact ⟨A, ⟨hM.blk, hM.clk, hM.had, hM.taken, hM.late, hM.lates, hM.gone.congr hg, hM.ml, hM.mg, hM.lg, hM.gm, hM.gl, hM.gg, hM.tl⟩, ⟨hO.sorted, hO.may, hO.src, hO.had, hO.rows, hO.taken, hO.late⟩, h3, h4, h5, h6⟩
/-- an intake of one's own that has the same parts -/
def AgainPost (w : World) (N : Nat) (x : Itk) (e : Ending) (w' : World) : Prop := ∃ bi F, e = .returned (.tuple #[.pointer (some ⟨bi, 0, none⟩), .int .i64 0]) ∧ ItkAt w' F bi N x ∧ RowKit.Below w.heap.size w w' ∧ ∀ b, F b → w.heap.size ≤ b
theorem again_of {w : World} {B N : Nat} {x : Itk} (hx : PtGood N x) (hN : N ≤ 600) {vc vh vt vl vg : Value} {r : List (List UInt8)} (hV : PtsV w B x vc vh vt vl vg r) (hm : MaxAt w) (he : ErrsAt w) (ht : Lib.TabBelow Tryz.prog w.heap.size w "internal/strconv.uint64pow10" .u64 Lib.pow10Tab) :
    Calls Tryz.prog 39 #[ptsAgg x.clk.slack x.clk.idle vc vh vt vl vg] w (AgainPost w N x) := by
  obtain ⟨Ac, kc, rfl⟩ := hV.clk.form
  obtain ⟨Ah, kh, rfl⟩ := hV.had.form
  obtain ⟨At, kt, rfl⟩ := ownsRow_form hV.taken
  obtain ⟨Al, kl, rfl⟩ := ownsRow_form hV.late
  obtain ⟨Ag, kg, rfl⟩ := ownsRow_form hV.gone
  have hr := rising_lenO hV.rise
  have hlc := hx.encC_len
  refine (of_any w N Ac Ah At Al Ag _ kc _ kh _ kt _ kl _ kg x.clk.slack x.clk.idle (encC x.clk) (encH x.had) x.taken x.late r
    { clk := hV.clk.byt
      had := hV.had.byt
      tk := Cel.of_own hV.taken
      le := Cel.of_own hV.late
      gn := Cel.of_own hV.gone
      hnc := by omega
      hnh := hx.encH_len hN
      hnt := hx.ok.taken
      hnl := hx.ok.late
      hng := by have := hx.gone; omega
      hN := by omega
      st := fun e he => mayB_smallO (hx.ok.may e (.inl he))
      sl := fun e he => mayB_smallO (hx.ok.may e (.inr he))
      max := hm
      errs := he
      tab := ht
      bd := hx.bd hN }).mono ?_
  rintro e w' ⟨hb, ⟨c, m, bi, F, hp, rfl, hi, hF⟩ | ⟨er, rfl, h1, h2⟩⟩
  · have e1 : c = x.clk := by have := hp.dc; rw [hx.dc] at this; injection this with this; exact this.symm
    have e2 : m = x.had := by obtain ⟨q, hq⟩ := hp.dh; rw [hx.dh hN] at hq; injection hq with hq _; exact hq.symm
    subst e1 e2
    exact ⟨bi, F, rfl, ItkAt.congrG hi hV.rise.2, hb, hF⟩
  · exact absurd (hx.parts hN hV.rise) (h2 _ _)
/-- what deeds of admitting leave -/
theorem PtGood.adm {slack idle : Int} {N : Nat} {l : List Ev} {x : Itk} (hx : x = admAll (Itk.new slack idle) l) (hok : ItkOk N x) (hc : ClkOk x.clk) (hl : l.length ≤ N) : PtGood N x := by
  subst hx
  have key : ∀ (l : List Ev) (x : Itk), PlayInv x → PtInv x → PlayInv (admAll x l) ∧ PtInv (admAll x l) ∧ (admAll x l).gone.length ≤ x.gone.length + l.length := fun l => by
    induction l with
    | nil => exact fun x h1 h2 => ⟨h1, h2, Nat.le_refl _⟩
    | cons e l ih =>
      intro x h1 h2
      have h3 : admAll x (e :: l) = admAll (x.admits e) l := rfl
      rw [h3]
      obtain ⟨k1, k2, k3⟩ := ih _ (h1.admits e) (h2.admits e)
      refine ⟨k1, k2, ?_⟩
      have h2 : (x.admits e).gone.length ≤ x.gone.length + 1 := by
        unfold Itk.admits
        split
        · omega
        · unfold Itk.took
          split
          · show (e.per :: x.gone).length ≤ _; simp
          · exact Nat.le_succ _
      rw [List.length_cons]; omega
  obtain ⟨k1, k2, k3⟩ := key l _ (PlayInv.new slack idle) (PtInv.new slack idle)
  refine ⟨k1, k2, hc, hok, ?_⟩
  have : (Itk.new slack idle).gone.length = 0 := rfl
  omega
end Go.Proofs.YtgbagjpokpchpaaGreatDoor
namespace Go.Proofs.YtgbagjpokpchpaaGreatDoor
open Go.RowKit Go.Maps Go.Sort Go.Shelf

def HadPost (w : World) (m : Had) (e : Ending) (w' : World) : Prop := ∃ bs bm G V, e = .returned (.pointer (some ⟨bs, 0, none⟩)) ∧ HadAt w' G bs bm m V ∧ Below w.heap.size w w' ∧ ∀ b, G b → w.heap.size ≤ b
theorem row_of_mem {m : Had} (h : HadOk m) {p : List UInt8 × Rg} (hp : p ∈ m) : hadRow m p.1 = p.2 := by unfold hadRow; rw [getB_of_mem h.up (v := p.2) hp]; rfl
set_option maxRecDepth 100000 in
set_option maxHeartbeats 2000000 in
theorem ihad_any (w : World) (F : Nat → Prop) (bi N : Nat) (x : Itk) (h : ItkAt w F bi N x) (hN : N ≤ 90000) : Calls Tryz.prog 41 #[.pointer (some ⟨bi, 0, none⟩)] w (HadPost w x.had) := by
  obtain ⟨A, hM, hO, _, _, _, _⟩ := h
  have HM := Lib.hid hM
  have hhl := hO.had
  have HRW := Lib.hid hO.rows
  clear hM hO
  go_enter Tryz.func41, Tryz.ntmps41
  go_wp2_with fail
  refine (hadnew_any w).mono ?_
  rintro r w1 ⟨bs, bm, rfl, hd1, hbs, hbm, hb1⟩
  have HD1 := Lib.hid hd1; have HB1 := Lib.hid hb1
  have HM1 := Lib.hid (HM.out.up hb1)
  obtain ⟨c0, c1, c2, c3, c4, c5, f2, f3, f4⟩ := HM1.out.cells
  have HGL := Lib.hid (show ∀ b, A.G b → b < w.heap.size from fun b hb => HM.out.had.lt b hb)
  clear hd1 hb1
  go_wp2_with fail
  with_reducible refine (merge_any w1 (fun b => b = bs ∨ b = bm) A.G bs bm A.bs A.bh [] x.had (fun _ => .slice none 0 0) A.V HD1.out HM1.out.had (fun b hb hg => by have := HGL.out b hg; rcases hb with rfl | rfl <;> omega) (by simp; omega) (fun s => by simp [hadRow, getB]) (fun p hp => by have := HRW.out p.1; rw [row_of_mem HM.out.had.ok hp] at this; omega)).mono ?_
  rintro r w2 ⟨rfl, G2, m2, V2, hd2, hhas, hk2, hG2⟩
  have hm2 : m2 = x.had := had_unique hd2.ok HM.out.had.ok (fun s n => by rw [hhas]; simp [hadB, hadRow, getB, hasR])
  subst hm2
  have HF := Lib.hid (show HadPost w x.had (.returned (.pointer (some ⟨bs, 0, none⟩))) w2 from ⟨bs, bm, G2, V2, rfl, hd2, HB1.out.trans (hk2.below HB1.out.size (fun k hk hF => by rcases hF with rfl | rfl <;> omega)), fun b hb => by
    have := HB1.out.size
    rcases hG2 b hb with (rfl | rfl) | h'
    · exact hbs
    · exact hbm
    · omega⟩)
  clear hd2 hhas hk2 hG2 c0 c1 c2 c3 c4 c5 f2 f3 f4
  go_wp2
  go_ret
  exact HF.out
end Go.Proofs.YtgbagjpokpchpaaGreatDoor
namespace Go.Proofs.YtgbagjpokpchpaaGreatDoor
open Go.RowKit Go.Maps Go.Sort

def AlRel (w : World) (es : List Ev) (i : Value) (wr : World) : Prop := ∃ k : Nat, i = .int .i64 k ∧ k ≤ es.length ∧ (∀ d ∈ es.take k, mayB d = true) ∧ Below w.heap.size w wr
set_option maxRecDepth 100000 in
set_option maxHeartbeats 2000000 in
theorem all02_any (w : World) (A : Option Addr) (n c : Nat) (ds : List Ev) (h : Evs w w.heap.size A n c ds) (hn : n ≤ 140737488355328) (hs : ∀ e ∈ ds, e.small) :
    Calls Tryz.prog 28 #[.slice A n c] w (Says (ds.all mayB) w) := by
  have HH := Lib.hid h; have HS := Lib.hid hs; clear h hs
  have hl := HH.out.len
  have HL := Lib.hid hl; clear hl
  go_enter Tryz.func28, Tryz.ntmps28
  go_wp2
  go_loopw [3] (fun i wr => AlRel w ds i wr) (fun i _ => n - (intOf i).toNat)
  case atStart => exact ⟨0, rfl, Nat.zero_le _, fun d hd => by simp at hd, Below.refl _ _⟩
  case round =>
    obtain ⟨k, rfl, hk, hno, hbel⟩ := hrel
    have HNO := Lib.hid hno; clear hno
    have hkL : k ≤ n := by rw [← HL.out]; exact hk
    by_cases hkn : k < n
    · have hkl : k < ds.length := by rw [HL.out]; exact hkn
      obtain ⟨b, off, rfl, hb, hd⟩ := HH.out.ev k hkl
      obtain ⟨e0, e1, e2, e3, e4, e5, e6, e7⟩ := hd.below hbel hb
      have HT := Lib.hid (show mayB ds[k] = true → ∀ d ∈ ds.take (k + 1), mayB d = true from fun h d hd => by
        rw [List.take_add_one, List.getElem?_eq_getElem hkl, Option.toList_some] at hd
        rcases List.mem_append.1 hd with hd | hd
        · exact HNO.out d hd
        · simp at hd; subst hd; exact h)
      have HY := Lib.hid (show mayB ds[k] = false → ds.all mayB = false from fun h => List.all_eq_false.2 ⟨_, List.getElem_mem hkl, by simp [h]⟩)
      have HSM := Lib.hid (HS.out _ (List.getElem_mem hkl))
      generalize ds[k] = d at *
      have t1 : (k : Int) < n := by omega
      go_wp2_with fail
      refine (rmay_any wr d HSM.out).mono ?_
      rintro r w2 ⟨rfl, hb2⟩
      have hbw2 : Below w.heap.size w w2 := hbel.trans (hb2.mono hbel.size)
      clear hb2 e0 e1 e2 e3 e4 e5 e6 e7 hd
      cases hbg : mayB d
      · have HY' := Lib.hid (HY.out hbg)
        clear hbg
        go_wp2
        go_ret
        exact ⟨ret_bool (by rw [HY'.out]), hbw2⟩
      · have HT' := Lib.hid (HT.out hbg)
        clear hbg
        go_wp2
        go_roundw
        case rel => exact ⟨k + 1, by go_num, by omega, HT'.out, hbw2⟩
        case measure => simp [intOf]; omega
    · have HZ := Lib.hid (show ds.all mayB = true by
        rw [List.all_eq_true]
        intro d hd
        exact HNO.out d (by rw [List.take_of_length_le (by rw [HL.out]; omega)]; exact hd))
      have t1 : ¬ (k : Int) < n := by omega
      go_wp2
      go_ret
      exact ⟨ret_bool (by rw [HZ.out]), hbel⟩
end Go.Proofs.YtgbagjpokpchpaaGreatDoor
namespace Go.Proofs.YtgbagjpokpchpaaGreatDoor
open Go.RowKit Go.Maps Go.Sort Go.Shelf

def RpNewPost (w : World) (G F : Nat → Prop) (bj bd : Nat) (j : Jl) (x : Itk) (e : Ending) (w' : World) : Prop := ∃ br bi R, e = .returned (.pointer (some ⟨br, 0, none⟩)) ∧ RpAt w' G F R br bj bd bi 0 j x 0 ∧ Below w.heap.size w w' ∧ (∀ b, R b → w.heap.size ≤ b) ∧ w.heap.size ≤ br
set_option maxRecDepth 100000 in
set_option maxHeartbeats 2000000 in
theorem rpnew_any (w : World) (G F : Nat → Prop) (bj bd : Nat) (j : Jl) (hj : JlIn w G F bj bd j) (slack idle : Int) (hmx : MaxAt w) :
    Calls Tryz.prog 16 #[.pointer (some ⟨bj, 0, none⟩), .int .i64 slack, .int .i64 idle] w (RpNewPost w G F bj bd j (Itk.new slack idle)) := by
  have HJ := Lib.hid hj
  have hml := hmx.lt
  clear hj hmx
  go_enter Tryz.func16, Tryz.ntmps16
  go_wp2_with fail
  refine (itknew_any w slack idle).mono ?_
  rintro r w1 ⟨bi, R, rfl, hI, hb1, hR⟩
  have HI := Lib.hid hI; have HR := Lib.hid hR
  have hs1 := hb1.size
  have hbq : Below w1.heap.size w1 (w1.alloc (rpObj bj bi 0)) := (Below.refl _ _).alloc (Nat.le_refl _) _
  have hjl := HJ.out.lt
  have hRl : ∀ b, R b → b < w1.heap.size := by obtain ⟨A, _, _, _, _, _, h6⟩ := hI; exact h6
  have HP := Lib.hid (show RpNewPost w G F bj bd j (Itk.new slack idle) (.returned (.pointer (some ⟨w1.heap.size, 0, none⟩))) (w1.alloc (rpObj bj bi 0)) from
    ⟨w1.heap.size, bi, R, rfl, ⟨(HJ.out.up hb1).up hbq, hI.up hbq, heap_alloc_new w1 _, fun h => by
      rcases h with h | h | h
      · have := hjl _ (.inl h); omega
      · have := hjl _ (.inr h); omega
      · have := hRl _ h; omega, fun b hb hg => by have := hjl b hg; have := hR b hb; omega, fun h => by have := hR _ h; omega⟩, hb1.trans (hbq.mono hs1), hR, hs1⟩)
  clear hI hR hb1 hbq hjl hRl
  go_wp2
  go_ret
  exact HP.out
theorem rpoff_any (w : World) (G F R : Nat → Prop) (br bj bd bi N : Nat) (j : Jl) (x : Itk) (off : Nat) (h : RpAt w G F R br bj bd bi N j x off) : Calls Tryz.prog 19 #[.pointer (some ⟨br, 0, none⟩)] w fun e w' => e = .returned (.int .i64 off) ∧ w = w' := by
  obtain ⟨_, _, c2⟩ := h.cells
  clear h
  go_enter Tryz.func19, Tryz.ntmps19
  go_wp2
  go_ret
  exact ⟨rfl, rfl⟩
/-- the events of the document's example -/
def exR (k : Nat) : List Ev := (List.range k).map fun (i : Nat) => ⟨[115], (i : Int) + 1, (i : Int) + 1, 0, [112], [120], 0, []⟩
theorem exR_succ (k : Nat) : exR (k + 1) = exR k ++ [⟨[115], (k : Int) + 1, (k : Int) + 1, 0, [112], [120], 0, []⟩] := by unfold exR; rw [List.range_succ, List.map_append]; rfl
theorem exR_may : (exR 3).all mayB = true := by decide +kernel
def LvRel33 (w : World) (v i : Value) (wr : World) : Prop := ∃ k : Nat, i = .int .i64 ((k : Int) + 1) ∧ k ≤ 3 ∧ OwnE wr w.heap.size v (exR k) ∧ RowKit.Below w.heap.size w wr
set_option maxRecDepth 100000 in
set_option maxHeartbeats 4000000 in
theorem rplives_any (w : World) (hmx : MaxAt w) : Calls Tryz.prog 7 #[] w (Says true w) := by
  have HMX := Lib.hid hmx
  clear hmx
  obtain ⟨i0, hi, hz0, hz1, hz2⟩ := info_parts ev_info
  have HI := Lib.hid hi; have HZ0 := Lib.hid hz0; have HZ1 := Lib.hid hz1; have HZ2 := Lib.hid hz2
  clear hi hz0 hz1 hz2
  have HST := Lib.hid (show LvRel33 w (.slice none 0 0) (.int .i64 1) w from ⟨0, rfl, Nat.zero_le _, World.ownsRow_nil _ _ _ _, Below.refl _ _⟩)
  go_enter Tryz.func7, Tryz.ntmps7
  go_wp2
  go_loopw [1, 2] (fun v i wr => LvRel33 w v i wr) (fun _ i _ => 4 - (intOf i).toNat)
  case atStart => exact HST.out
  case round =>
    obtain ⟨k, rfl, hk, ho, hbel⟩ := hrel
    have HO := Lib.hid ho; have HB := Lib.hid hbel
    have hsr := hbel.size
    clear ho HST
    by_cases hkn : k < 3
    · have t1 : (k : Int) + 1 ≤ 3 := by omega
      have hlen : (exR k).length = k := by unfold exR; simp
      have HTK := Lib.hid (exR_succ k)
      obtain ⟨y, hy⟩ : ∃ y : Ev, y = ⟨[115], (k : Int) + 1, (k : Int) + 1, 0, [112], [120], 0, []⟩ := ⟨_, rfl⟩
      have HY := Lib.hid hy
      rw [← hy] at HTK
      have HYC := Lib.hid (show y.cells = [.string ⟨#[115]⟩, .int .i64 ((k : Int) + 1), .int .i64 ((k : Int) + 1), .int .i64 0, .string ⟨#[112]⟩, .string ⟨#[120]⟩, .int .i64 0, .string ⟨#[]⟩] from by rw [hy]; rfl)
      clear hy
      generalize exR k = out at *
      clear hbel
      go_wp2_with (at_builtin; refine wpList_app (P := Tryz.prog) rfl (.tmp 9) (.tmp 13) 22 rfl 28 i0 _ 8 96 Tryz.underlying22 HI.out HZ0.out HZ1.out HZ2.out rfl (by decide) w.heap.size _ out.length (evCells out) rfl ?c1 (wr.heap.size + 1) _ _ _ y.cells rfl ?c2 (cells_one y) ?c4 ?c5 ?c6 ?_)
      case c1 => exact World.ownsRow.alloc HO.out _
      case c2 => rw [HYC.out]; exact Cel.new wr _ _ (by unfold maxLen; omega) rfl
      case c4 => unfold maxLen; omega
      case c5 => omega
      case c6 => first | omega | (simp; omega)
      intro v' w3 hown3 hg3 hvv
      have hown4 : OwnE w3 w.heap.size v' (out ++ [y]) := by unfold OwnE; rw [evCells_one, List.length_append, hlen]; exact hown3
      have HREL := Lib.hid (show LvRel33 w v' (.int .i64 (((k + 1 : Nat) : Int) + 1)) w3 from ⟨k + 1, rfl, by omega, by rw [HTK.out]; exact hown4, Below.grown (HB.out.alloc hsr _) hg3 (by simp; omega) (fun k' hk' => (World.ownsRow.lt HO.out k' hk').1)⟩)
      have HI2 := Lib.hid (show (((k + 1 : Nat) : Int) + 1) = (k : Int) + 1 + 1 from by omega)
      clear hown3 hown4 hg3 hvv
      go_wp2
      go_roundw
      case rel => rw [← HI2.out]; exact HREL.out
      case measure => simp [intOf]; omega
    · have hk3 : k = 3 := by omega
      subst hk3
      have hl3 : (exR 3).length = 3 := rfl
      obtain ⟨A1, c1, hv, _⟩ := HO.out.form
      subst hv
      have HE := Lib.hid (show Evs wr wr.heap.size A1 (exR 3).length c1 (exR 3) from Cel.of_own HO.out)
      rw [hl3] at HE ⊢
      have HMX1 := Lib.hid (HMX.out.up HB.out)
      clear hbel HO hkn hk
      go_wp2_with fail
      refine (rplog_any wr A1 3 c1 (exR 3) HE.out (by omega) exR_may 2 (by omega) (by omega) HMX1.out).mono ?_
      rintro r w1 ⟨bd, bj, G, F, j, rfl, hj1, hn1, hb1, hes1⟩
      have HJ1 := Lib.hid hj1; have HES := Lib.hid hes1
      have HB1 := Lib.hid (HB.out.trans (hb1.mono hsr))
      have HMX2 := Lib.hid (HMX.out.up HB1.out)
      clear hj1 hn1 hb1 hes1
      go_wp2_with fail
      refine (rpnew_any w1 G F bj bd j HJ1.out 0 0 HMX2.out).mono ?_
      rintro r w2 ⟨br, bi, R, rfl, hr2, hb2, hR2, hbr2⟩
      have HR2 := Lib.hid hr2
      have hs1 := HB1.out.size
      have HB2 := Lib.hid (HB1.out.trans (hb2.mono hs1))
      have HN2 := Lib.hid (show (∀ b, R b → w.heap.size ≤ b) ∧ w.heap.size ≤ br from ⟨fun b hb => by have := hR2 b hb; omega, by omega⟩)
      have hs2 := HB2.out.size
      clear hr2 hb2 hR2 hbr2
      go_wp2_with fail
      refine (rppull_any w2 G F R br bj bd bi 0 j _ 0 HR2.out (exR 3) HES.out 2 2 (by rw [hl3]; decide) (by omega) (by rw [hl3]; omega) (by omega) (HMX.out.up HB2.out)).mono ?_
      rintro r w3 ⟨rfl, R3, hr3, hk3, hR3⟩
      have HR3 := Lib.hid hr3
      have HB3 := Lib.hid (HB2.out.trans (hk3.below hs2 (fun b hb hg => by rcases hg with h | h; (· have := HN2.out.1 b h; omega); (· have := HN2.out.2; omega))))
      have HN3 := Lib.hid (show ∀ b, R3 b → w.heap.size ≤ b from fun b hb => (hR3 b hb).elim (HN2.out.1 b) (fun h => by omega))
      have hs3 := HB3.out.size
      generalize admAll (Itk.new 0 0) _ = x3 at *
      clear hr3 hk3 hR3
      go_wp2_with fail
      refine (rppull_any w3 G F R3 br bj bd bi _ j _ _ HR3.out (exR 3) HES.out 9 1 (by rw [hl3]; decide) (by rw [hl3]; omega) (by rw [hl3]; omega) (by omega) (HMX.out.up HB3.out)).mono ?_
      rintro r w4 ⟨rfl, R4, hr4, hk4, hR4⟩
      have HR4 := Lib.hid hr4
      have HB4 := Lib.hid (HB3.out.trans (hk4.below hs3 (fun b hb hg => by rcases hg with h | h; (· have := HN3.out b h; omega); (· have := HN2.out.2; omega))))
      have HN4 := Lib.hid (show ∀ b, R4 b → w.heap.size ≤ b from fun b hb => (hR4 b hb).elim (HN3.out b) (fun h => by omega))
      have hs4 := HB4.out.size
      generalize admAll x3 _ = x4 at *
      clear hr4 hk4 hR4
      go_wp2_with fail
      refine (rppull_any w4 G F R4 br bj bd bi _ j _ _ HR4.out (exR 3) HES.out 1 0 (by rw [hl3]; decide) (by rw [hl3]; omega) (by rw [hl3]; omega) (by omega) (HMX.out.up HB4.out)).mono ?_
      rintro r w5 ⟨rfl, R5, hr5, hk5, hR5⟩
      have HR5 := Lib.hid hr5
      have HB5 := Lib.hid (HB4.out.trans (hk5.below hs4 (fun b hb hg => by rcases hg with h | h; (· have := HN4.out b h; omega); (· have := HN2.out.2; omega))))
      generalize admAll x4 _ = x5 at *
      clear hr5 hk5 hR5
      go_wp2_with fail
      refine (rpoff_any w5 G F R5 br bj bd bi _ j _ _ HR5.out).mono ?_
      rintro r w6 ⟨rfl, rfl⟩
      go_wp2
      go_ret
      exact ⟨rfl, HB5.out⟩
def fewB (ds : List Ev) : Bool := decide (ds.length ≤ 30) && !ds.any (fun d => bigB d 300) && ds.all mayB
theorem big_small33 {ds : List Ev} (h : ds.any (fun d => bigB d 300) = false) : ∀ e ∈ ds, e.small := fun e he => by
  have := List.any_eq_false.1 h e he
  unfold bigB at this
  simp only [Bool.or_eq_true, decide_eq_true_eq, not_or, Int.not_lt] at this
  exact ⟨by omega, by omega, by omega, by omega⟩
set_option maxRecDepth 100000 in
set_option maxHeartbeats 2000000 in
theorem rpfew_any (w : World) (A : Option Addr) (n c : Nat) (ds : List Ev) (h : Evs w w.heap.size A n c ds) (hn : n ≤ 140737488355328) :
    Calls Tryz.prog 8 #[.slice A n c] w (Says (fewB ds) w) := by
  have HH := Lib.hid h
  have HF := Lib.hid (show fewB ds = (decide (n ≤ 30) && !ds.any (fun d => bigB d 300) && ds.all mayB) from by unfold fewB; rw [h.len])
  clear h
  by_cases h30 : n ≤ 30
  · have t1 : (n : Int) ≤ 30 := by omega
    have HD := Lib.hid (show decide (n ≤ 30) = true from by simp [h30])
    go_enter Tryz.func8, Tryz.ntmps8
    go_wp2_with fail
    refine (some_any w A n c ds HH.out hn 300).mono ?_
    rintro r w1 ⟨rfl, hb1⟩
    have HS := Lib.hid (@big_small33 ds)
    cases hs : ds.any (fun d => bigB d 300)
    · have HSM := Lib.hid (HS.out hs)
      have HF2 := Lib.hid (show fewB ds = ds.all mayB from by rw [HF.out, HD.out, hs]; rfl)
      have HE := Lib.hid (show Evs w1 w1.heap.size A n c ds from Cel.more (Cel.below HH.out hb1) hb1.size)
      clear hs
      go_wp2_with fail
      refine (all02_any w1 A n c ds HE.out hn HSM.out).mono ?_
      rintro r w2 ⟨rfl, hb2⟩
      have hbw : Below w.heap.size w w2 := hb1.trans (hb2.mono hb1.size)
      clear hb2
      generalize ds.all mayB = b at *
      go_wp2
      go_ret
      exact ⟨ret_bool HF2.out.symm, hbw⟩
    · have HF2 := Lib.hid (show fewB ds = false from by rw [HF.out, HD.out, hs]; rfl)
      clear hs
      go_wp2
      go_ret
      exact ⟨ret_bool HF2.out.symm, hb1⟩
  · have t1 : ¬ (n : Int) ≤ 30 := by omega
    have HD := Lib.hid (show fewB ds = false from by rw [HF.out, decide_eq_false h30]; rfl)
    go_enter Tryz.func8, Tryz.ntmps8
    go_wp2
    go_ret
    exact ⟨ret_bool HD.out.symm, Below.refl _ _⟩
end Go.Proofs.YtgbagjpokpchpaaGreatDoor
namespace Go.Proofs.YtgbagjpokpchpaaGreatDoor
open Go.RowKit Go.Maps Go.Sort Go.Shelf

def RpIntPost (w : World) (N : Nat) (x : Itk) (e : Ending) (w' : World) : Prop := ∃ bi F, e = .returned (.pointer (some ⟨bi, 0, none⟩)) ∧ ItkAt w' F bi N x ∧ RowKit.Below w.heap.size w w' ∧ ∀ b, F b → w.heap.size ≤ b
set_option maxRecDepth 100000 in
set_option maxHeartbeats 4000000 in
theorem rpint_any (w : World) (G F R : Nat → Prop) (br bj bd bi N : Nat) (j : Jl) (x : Itk) (off : Nat) (h : RpAt w G F R br bj bd bi N j x off) (hx : PtGood N x) (hN : N ≤ 600) (hmx : MaxAt w) (he : ErrsAt w) (ht : Lib.TabBelow Tryz.prog w.heap.size w "internal/strconv.uint64pow10" .u64 Lib.pow10Tab) :
    Calls Tryz.prog 20 #[.pointer (some ⟨br, 0, none⟩)] w (RpIntPost w N x) := by
  obtain ⟨c0, c1, c2⟩ := h.cells
  have HI := Lib.hid h.it; have HX := Lib.hid hx; have HMX := Lib.hid hmx; have HE := Lib.hid he; have HT := Lib.hid ht
  clear h hx hmx he ht
  go_enter Tryz.func20, Tryz.ntmps20
  go_wp2_with fail
  with_reducible refine (parts_any w R bi N x HI.out (by omega) HMX.out HT.out).mono ?_
  rintro r w1 ⟨vc, vh, vt, vl, vg, rr, rfl, hV, hb1⟩
  have HV := Lib.hid hV; have HB1 := Lib.hid hb1
  clear hV hb1
  go_wp2_with fail
  with_reducible refine (again_of HX.out hN HV.out (HMX.out.up HB1.out) (HE.out.up HB1.out) (tab_up HT.out HB1.out)).mono ?_
  rintro r w2 ⟨b2, F2, rfl, h2, hb2, hF2⟩
  have HR := Lib.hid (show RpIntPost w N x (.returned (.pointer (some ⟨b2, 0, none⟩))) w2 from ⟨b2, F2, rfl, h2, HB1.out.trans (hb2.mono HB1.out.size), fun b hb => Nat.le_trans HB1.out.size (hF2 b hb)⟩)
  clear h2 hb2 hF2
  go_wp2
  go_ret
  exact HR.out
set_option maxRecDepth 100000 in
set_option maxHeartbeats 8000000 in
theorem rpsame_any (w : World) (F1 F2 : Nat → Prop) (b1 b2 N : Nat) (x : Itk) (h1 : ItkAt w F1 b1 N x) (h2 : ItkAt w F2 b2 N x) (hx : PtGood N x) (hN : N ≤ 600) :
    Calls Tryz.prog 21 #[.pointer (some ⟨b1, 0, none⟩), .pointer (some ⟨b2, 0, none⟩)] w (Says true w) := by
  have HTA := Lib.hid (show ∀ W, RowKit.Below w.heap.size w W → Calls Tryz.prog 13 #[.pointer (some ⟨b1, 0, none⟩)] W (OwnPost W x.taken) from fun W hW => itaken_any W F1 b1 N x (h1.up hW) (by omega))
  have HTB := Lib.hid (show ∀ W, RowKit.Below w.heap.size w W → Calls Tryz.prog 13 #[.pointer (some ⟨b2, 0, none⟩)] W (OwnPost W x.taken) from fun W hW => itaken_any W F2 b2 N x (h2.up hW) (by omega))
  have HGA := Lib.hid (show ∀ W, RowKit.Below w.heap.size w W → Calls Tryz.prog 15 #[.pointer (some ⟨b1, 0, none⟩)] W (GonePost W x.gone) from fun W hW => igone_any W F1 b1 N x (h1.up hW) (by omega))
  have HGB := Lib.hid (show ∀ W, RowKit.Below w.heap.size w W → Calls Tryz.prog 15 #[.pointer (some ⟨b2, 0, none⟩)] W (GonePost W x.gone) from fun W hW => igone_any W F2 b2 N x (h2.up hW) (by omega))
  have HHA := Lib.hid (show ∀ W, RowKit.Below w.heap.size w W → Calls Tryz.prog 41 #[.pointer (some ⟨b1, 0, none⟩)] W (HadPost W x.had) from fun W hW => ihad_any W F1 b1 N x (h1.up hW) (by omega))
  have HHB := Lib.hid (show ∀ W, RowKit.Below w.heap.size w W → Calls Tryz.prog 41 #[.pointer (some ⟨b2, 0, none⟩)] W (HadPost W x.had) from fun W hW => ihad_any W F2 b2 N x (h2.up hW) (by omega))
  have HROW := Lib.hid (show ∀ p ∈ x.had, p.2.length ≤ 90000 from fun p hp => Nat.le_trans (hx.ok.hadrow hx.play.ok p hp) (by omega))
  have htk := hx.ok.taken; have hhd := hx.ok.had; have hgn := hx.gone
  have HBX := Lib.hid (show RowKit.Below w.heap.size w w.drew from below_drewN (Below.refl _ _) 1)
  clear h1 h2 hx
  go_enter Tryz.func21, Tryz.ntmps21
  go_wp2
  go_region_law (first | (go_simp; (go_at_call 13; first | ((with_reducible refine (HTA.out _ HBX.out).mono ?_); rintro r wx ⟨v1, rfl, o1, hb⟩; obtain ⟨A1, k1, rfl⟩ := ownsRow_form o1; have T1 := Lib.hid (show Evs wx wx.heap.size A1 x.taken.length k1 x.taken from Cel.of_own o1); clear o1; have HBX9 := Lib.hid (HBX.out.trans (hb.mono HBX.out.size)); clear HBX; have HBX := HBX9; clear HBX9; clear hb) | ((with_reducible refine (HTB.out _ HBX.out).mono ?_); rintro r wx ⟨v2, rfl, o2, hb⟩; obtain ⟨A2, k2, rfl⟩ := ownsRow_form o2; have T2 := Lib.hid (show Evs wx wx.heap.size A2 x.taken.length k2 x.taken from Cel.of_own o2); clear o2; have T19 := Lib.hid (show Evs wx wx.heap.size A1 x.taken.length k1 x.taken from Cel.more (Cel.below T1.out hb) hb.size); clear T1; have T1 := T19; clear T19; have HBX9 := Lib.hid (HBX.out.trans (hb.mono HBX.out.size)); clear HBX; have HBX := HBX9; clear HBX9; clear hb))) | (go_simp; (go_at_call 12; (with_reducible refine (same02_any _ _ _ A1 A2 _ k1 k2 x.taken T1.out T2.out (by omega)).mono ?_); rintro r wx ⟨rfl, q, rfl⟩; clear T1 T2; have HBX9 := Lib.hid (below_drewN HBX.out q); clear HBX; have HBX := HBX9; clear HBX9)) | (go_simp; (go_at_call 15; first | ((with_reducible refine (HGA.out _ HBX.out).mono ?_); rintro r wx ⟨v3, r1, rfl, hr1, o1, hb⟩; obtain ⟨A3, k3, rfl⟩ := ownsRow_form o1; have G1 := Lib.hid (show Strs wx wx.heap.size A3 r1.length k3 r1 from Cel.of_own o1); have HR1 := Lib.hid hr1; have hrl := rising_lenO hr1; clear o1 hr1; have HBX9 := Lib.hid (HBX.out.trans (hb.mono HBX.out.size)); clear HBX; have HBX := HBX9; clear HBX9; clear hb) | ((with_reducible refine (HGB.out _ HBX.out).mono ?_); rintro r wx ⟨v4, r2, rfl, hr2, o2, hb⟩; obtain rfl := rising_unique hr2 HR1.out; obtain ⟨A4, k4, rfl⟩ := ownsRow_form o2; have G2 := Lib.hid (show Strs wx wx.heap.size A4 r2.length k4 r2 from Cel.of_own o2); clear o2 hr2; have G19 := Lib.hid (show Strs wx wx.heap.size A3 r2.length k3 r2 from Cel.more (Cel.below G1.out hb) hb.size); clear G1; have G1 := G19; clear G19; have HBX9 := Lib.hid (HBX.out.trans (hb.mono HBX.out.size)); clear HBX; have HBX := HBX9; clear HBX9; clear hb))) | (go_simp; (go_at_call 14; (with_reducible refine (texts_any _ _ _ A3 A4 _ k3 k4 r2 G1.out G2.out (by omega)).mono ?_); rintro r wx ⟨rfl, q, rfl⟩; clear G1 G2; have HBX9 := Lib.hid (below_drewN HBX.out q); clear HBX; have HBX := HBX9; clear HBX9)) | (go_simp; (go_at_call 41; first | ((with_reducible refine (HHA.out _ HBX.out).mono ?_); rintro r wx ⟨bs1, bm1, GG1, VV1, rfl, hh1, hb, _⟩; have HD1 := Lib.hid hh1; clear hh1; have HBX9 := Lib.hid (HBX.out.trans (hb.mono HBX.out.size)); clear HBX; have HBX := HBX9; clear HBX9; clear hb) | ((with_reducible refine (HHB.out _ HBX.out).mono ?_); rintro r wx ⟨bs2, bm2, GG2, VV2, rfl, hh2, hb, _⟩; have HD2 := Lib.hid hh2; clear hh2; have E19 := Lib.hid ((Byt.below E1.out hb).more hb.size); clear E1; have E1 := E19; clear E19; have HBX9 := Lib.hid (HBX.out.trans (hb.mono HBX.out.size)); clear HBX; have HBX := HBX9; clear HBX9; clear hb; (first | (clear hcv1; have hcv1 := E1.out.str (P := Tryz.prog) 83 5 9 Tryz.underlying83 Tryz.underlying5 Tryz.underlying9) | skip)))) | (go_simp; (go_at_call 42; first | ((with_reducible refine (encode_any _ GG1 bs1 bm1 x.had VV1 HD1.out (by omega) HROW.out).mono ?_); rintro r wx ⟨v5, rfl, o1, hb⟩; obtain ⟨A5, k5, rfl⟩ := o1.form; have E1 := Lib.hid o1.byt; clear o1 HD1; have HBX9 := Lib.hid (HBX.out.trans (hb.mono HBX.out.size)); clear HBX; have HBX := HBX9; clear HBX9; clear hb; have hcv1 := E1.out.str (P := Tryz.prog) 83 5 9 Tryz.underlying83 Tryz.underlying5 Tryz.underlying9) | ((with_reducible refine (encode_any _ GG2 bs2 bm2 x.had VV2 HD2.out (by omega) HROW.out).mono ?_); rintro r wx ⟨v6, rfl, o2, hb⟩; obtain ⟨A6, k6, rfl⟩ := o2.form; have E2 := Lib.hid o2.byt; clear o2 HD2; have E19 := Lib.hid ((Byt.below E1.out hb).more hb.size); clear E1; have E1 := E19; clear E19; have HBX9 := Lib.hid (HBX.out.trans (hb.mono HBX.out.size)); clear HBX; have HBX := HBX9; clear HBX9; clear hb; (first | (clear hcv1; have hcv1 := E1.out.str (P := Tryz.prog) 83 5 9 Tryz.underlying83 Tryz.underlying5 Tryz.underlying9) | skip); have hcv2 := E2.out.str (P := Tryz.prog) 83 5 9 Tryz.underlying83 Tryz.underlying5 Tryz.underlying9))))
  all_goals
    go_wp2
    go_ret
    exact ⟨rfl, HBX.out⟩
end Go.Proofs.YtgbagjpokpchpaaGreatDoor
namespace Go.Proofs.YtgbagjpokpchpaaGreatDoor
open Go.RowKit Go.Maps Go.Sort Go.Shelf

def RpAsPost (w : World) (N : Nat) (x : Itk) (e : Ending) (w' : World) : Prop := ∃ bi R, e = .returned (.tuple #[.pointer (some ⟨bi, 0, none⟩), .int .i64 0]) ∧ ItkAt w' R bi N x ∧ RowKit.Below w.heap.size w w' ∧ ∀ b, R b → w.heap.size ≤ b
set_option maxRecDepth 100000 in
set_option maxHeartbeats 4000000 in
theorem rpasof_any (w : World) (G F : Nat → Prop) (bj bd : Nat) (j : Jl) (hj : JlIn w G F bj bd j) (ds : List Ev) (hes : j.es = ds.map some) (slack idle : Int) (off : Nat) (hoff : off ≤ ds.length) (hlen : ds.length ≤ 60) (hmx : MaxAt w) :
    Calls Tryz.prog 11 #[.pointer (some ⟨bj, 0, none⟩), .int .i64 slack, .int .i64 idle, .int .i64 off] w (RpAsPost w (2 * off) (admAll (Itk.new slack idle) (ds.take off))) := by
  have HJ := Lib.hid hj; have HMX := Lib.hid hmx; have HES := Lib.hid hes
  have HLE := Lib.hid (show j.es.length = ds.length from by rw [hes, List.length_map])
  have HLN := Lib.hid (jllen_any w G F bj bd j hj)
  rw [HLE.out] at HLN
  have t1 : ¬ (off : Int) < 0 := by omega
  have t2 : ¬ (ds.length : Int) < off := by omega
  clear hj hmx hes
  go_enter Tryz.func11, Tryz.ntmps11
  go_wp2_with fail
  refine HLN.out.mono ?_
  rintro r w1 ⟨rfl, rfl⟩
  go_wp2_with fail
  refine (rpnew_any w G F bj bd j HJ.out slack idle HMX.out).mono ?_
  rintro r w2 ⟨br, bi, R, rfl, hr2, hb2, hR2, hbr2⟩
  have HR2 := Lib.hid hr2; have HB2 := Lib.hid hb2
  have HN2 := Lib.hid (show (∀ b, R b → w.heap.size ≤ b) ∧ w.heap.size ≤ br from ⟨hR2, hbr2⟩)
  have hs2 := hb2.size
  clear hr2 hb2 hR2 hbr2
  go_wp2_with fail
  refine (rppull_any w2 G F R br bj bd bi 0 j _ 0 HR2.out ds HES.out off off (by omega) (by omega) hlen (by omega) (HMX.out.up HB2.out)).mono ?_
  rintro r w3 ⟨rfl, R3, hr3, hk3, hR3⟩
  obtain ⟨_, c1, _⟩ := hr3.cells
  have HP := Lib.hid (show RpAsPost w (2 * off) (admAll (Itk.new slack idle) (ds.take off)) (.returned (.tuple #[.pointer (some ⟨bi, 0, none⟩), .int .i64 0])) w3 from by
    refine ⟨bi, R3, rfl, ?_, HB2.out.trans (hk3.below hs2 (fun b hb hg => by rcases hg with h | h; (· have := HN2.out.1 b h; omega); (· have := HN2.out.2; omega))), fun b hb => (hR3 b hb).elim (HN2.out.1 b) (fun h => by omega)⟩
    have := hr3.it
    rw [List.drop_zero, Nat.zero_add] at this
    exact this)
  clear hr3 hk3 hR3
  generalize admAll (Itk.new slack idle) _ = x3 at *
  go_wp2
  exact bodyPost_ret (v := .tuple #[.pointer (some ⟨bi, 0, none⟩), .int .i64 0]) (by simp [results, Tryz.results11, go_sem]) rfl HP.out
end Go.Proofs.YtgbagjpokpchpaaGreatDoor
