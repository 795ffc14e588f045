/-
  The law IntakeAdmits, walked.
-/
import Derived.Test.YtoljbbmjbgepiaaGreatDoorMGrown2
import Derived.Test.YtoljbbmjbgepiaaGreatDoorMHadCnt
namespace Go.Proofs.YtoljbbmjbgepiaaGreatDoor
open Go.RowKit Go.Maps Go.Sort Go.Shelf

theorem took_had (y : Itk) (e : Ev) : (y.took e).had = putH y.had e.src e.num := by unfold Itk.took; split <;> rfl
theorem AdmOk.count {x : Itk} {o : List Ev} (h : AdmOk x o) (slack idle : Int) : ∀ k, k ≤ o.length → cntH (admAll (Itk.new slack idle) (o.take k)).had = k := by
  intro k
  induction k with
  | zero => intro _; rfl
  | succ k ih =>
    intro hk
    have hf := h.fine slack idle k (by omega)
    have hi := h.inv slack idle k (by omega)
    rw [admAll_take _ _ _ (by omega), (admit_took hf).2, took_had]
    obtain ⟨hm, _, hh⟩ := not_refused hf
    have := cntH_put hi.ok (may_put hm hh)
    show cntH (putH (admAll (Itk.new slack idle) (o.take k)).had _ _) = _
    rw [this, ih (by omega)]
    rfl
theorem small_of {x : Itk} (h : ItkInv Ev.small x) {o : List Ev} (hm : ∀ e, e ∈ o ↔ e ∈ x.taken) : ∀ e ∈ o, e.small := fun e he => h.taken e ((hm e).1 he)
/-- the new intake and the rows that were told -/
structure AmM (w : World) (bi : Nat) (es os : List Ev) (Bt Bo : Option Addr) (ct co : Nat) (F T : Nat → Prop) (N : Nat) (y : Itk) (gs : List (List UInt8)) (Ap : Option Addr) (cp : Nat) (wr : World) : Prop where
  itk : ItkAt wr F bi N y
  bel : Below w.heap.size w wr
  newF : ∀ b, F b → w.heap.size ≤ b
  tk : Evs wr wr.heap.size Bt es.length ct es
  vt : VwIn T Bt es.length
  ot : Evs wr wr.heap.size Bo os.length co os
  vo : VwIn T Bo os.length
  pp : Strs wr wr.heap.size Ap gs.length cp gs
  vp : VwIn T Ap gs.length
  aT : ∀ b, F b → ¬ T b
  tl : ∀ b, T b → b < wr.heap.size
  up : Rising gs y.gone
theorem AmM.deed {w wr w2 : World} {bi N M ct co cp : Nat} {es os : List Ev} {Bt Bo Ap : Option Addr} {F T : Nat → Prop} {y z : Itk} {gs : List (List UInt8)} (h : AmM w bi es os Bt Bo ct co F T N y gs Ap cp wr) (hd : Deeds wr F bi M z w2) :
    ∃ F', ItkAt w2 F' bi M z ∧ Below w.heap.size w w2 ∧ (∀ b, F' b → w.heap.size ≤ b) ∧ Evs w2 w2.heap.size Bt es.length ct es ∧ Evs w2 w2.heap.size Bo os.length co os ∧ Strs w2 w2.heap.size Ap gs.length cp gs ∧ (∀ b, F' b → ¬ T b) ∧ ∀ b, T b → b < w2.heap.size := by
  obtain ⟨F', hi, hk, hF⟩ := hd
  have hs := hk.size; have hs2 := h.bel.size
  refine ⟨F', hi, h.bel.trans (hk.below h.bel.size (fun b hb e => by have := h.newF b e; omega)), fun b hb => ?_, Evs.at_stay h.tk h.vt hk h.aT, Evs.at_stay h.ot h.vo hk h.aT, Strs.at_stay h.pp h.vp hk h.aT, fun b hb => ?_, fun b hb => Nat.lt_of_lt_of_le (h.tl b hb) hs⟩
  · rcases hF b hb with h' | h'
    · exact h.newF b h'
    · omega
  · rcases hF b hb with h' | h'
    · exact h.aT b h'
    · exact fun ht => by have := h.tl b ht; omega
def AmRel (w : World) (bi : Nat) (slack idle : Int) (es os : List Ev) (Bt Bo : Option Addr) (ct co : Nat) (ppl i : Value) (wr : World) : Prop := ∃ (k : Nat) (F T : Nat → Prop) (gs : List (List UInt8)) (Ap : Option Addr) (cp : Nat), i = .int .i64 k ∧ k ≤ os.length ∧ ppl = .slice Ap gs.length cp ∧ gs.length ≤ k ∧ AmM w bi es os Bt Bo ct co F T (2 * k) (admAll (Itk.new slack idle) (os.take k)) gs Ap cp wr
def AmOth (w : World) (os : List Ev) (v : Value) (wr : World) : Prop := OwnE wr w.heap.size v os ∧ Below w.heap.size w wr

set_option maxRecDepth 100000 in
set_option maxHeartbeats 8000000 in
theorem itadmits_any (w : World) (slack idle : Int) (A : Option Addr) (n c : Nat) (ds : List Dd) (h : Dds w w.heap.size A n c ds) (hn : n ≤ 140737488355328) (hkd : ∀ d ∈ ds, 0 ≤ d.kind ∧ d.kind ≤ 255) (at_ : Int) (hmx : MaxAt w) :
    Calls Tryz.prog 9 #[.int .i64 slack, .int .i64 idle, .slice A n c, .int .i64 at_] w (Says true w) := by
  have HH := Lib.hid h; clear h
  have HKD := Lib.hid hkd; clear hkd
  have HMX := Lib.hid hmx
  have hmlt := hmx.lt
  clear hmx
  go_enter Tryz.func9, Tryz.ntmps9
  go_wp2_with fail
  refine (lives_any w HMX.out).mono ?_
  rintro r w1 ⟨rfl, hb1⟩
  have hs1 := hb1.size
  have hHH1 : Dds w1 w1.heap.size A n c ds := Cel.more (Cel.below HH.out hb1) hs1
  go_wp2_with fail
  refine (heavy_any w1 A n c ds hHH1 hn 20).mono ?_
  rintro r w2 ⟨rfl, hb2⟩
  have hbw2 : Below w.heap.size w w2 := hb1.trans (hb2.mono hs1)
  clear hb2 hb1 hHH1
  cases hhv : heavyB ds 20
  case true =>
    clear hhv
    go_wp2
    go_ret
    exact ⟨rfl, hbw2⟩
  obtain ⟨hl, hsm⟩ := heavy_smallN (m := 20) hhv
  have HSM := Lib.hid hsm
  have hlen := HH.out.len
  have hn20 : n ≤ 20 := by omega
  have HH2 := Lib.hid (show Dds w2 w2.heap.size A n c ds from Cel.more (Cel.below HH.out hbw2) hbw2.size)
  clear hhv hsm hlen hl
  go_wp2_with fail
  refine (grown_any w2 slack idle A n c ds HH2.out (by omega) HSM.out HKD.out (HMX.out.up hbw2)).mono ?_
  rintro r w3 ⟨F3, S, bi, bm, bc, rfl, hB⟩
  have HPI := Lib.hid (PlayInv.grown slack idle ds)
  have HSI := Lib.hid (small_grown slack idle ds HSM.out)
  generalize Itk.grown slack idle ds = x at *
  have htl : x.taken.length ≤ 3 * n := hB.both.ref.tl
  have hbw3 : Below w.heap.size w w3 := hbw2.trans (hB.bel.mono hbw2.size)
  have HI3 := Lib.hid hB.both.itk
  clear hB HH2 HH HSM HKD hbw2
  go_wp2_with fail
  refine (itaken_any w3 F3 bi (3 * n) x HI3.out (by omega)).mono ?_
  rintro r w4 ⟨v4, rfl, ho4, hb4⟩
  obtain ⟨Bt, ct, hv4, hcm⟩ := ho4.form
  subst hv4
  have HT4 := Lib.hid (show Evs w4 w4.heap.size Bt x.taken.length ct x.taken from Cel.of_own ho4)
  have HVT := Lib.hid (show VwIn (fun b => w3.heap.size ≤ b ∧ b < w4.heap.size) Bt x.taken.length from own_in9 ho4)
  have hbw4 : Below w.heap.size w w4 := hbw3.trans (hb4.mono hbw3.size)
  have hcap : x.taken.length ≤ ct := Cel.cap HT4.out
  clear ho4 hb4 hbw3 HI3
  by_cases ha0 : at_ < 0
  · go_wp2
    go_ret
    exact ⟨rfl, hbw4⟩
  by_cases ha1 : (x.taken.length : Int) < at_
  · go_wp2
    go_ret
    exact ⟨rfl, hbw4⟩
  obtain ⟨m, rfl⟩ : ∃ m : Nat, at_ = m := ⟨at_.toNat, by omega⟩
  have hmn : m ≤ x.taken.length := by omega
  clear ha0 ha1
  go_wp2_with fail
  refine (itknew_any w4 slack idle).mono ?_
  rintro r w5 ⟨by_, F5, rfl, hI5, hb5, hF5⟩
  have HI5 := Lib.hid hI5; have HF5 := Lib.hid hF5
  have HT5 := Lib.hid (evs_below HT4.out hb5)
  have hbw5 : Below w.heap.size w w5 := hbw4.trans (hb5.mono hbw4.size)
  have hs5 := hb5.size
  have HAO := Lib.hid (AdmOk.turned HPI.out (by omega) m)
  clear hI5 hF5 hb5 HT4
  obtain ⟨i0, hi, hz0, hz1, hz2⟩ := info_parts ev_info
  have HI := Lib.hid hi; have HZ0 := Lib.hid hz0; have HZ1 := Lib.hid hz1; have HZ2 := Lib.hid hz2
  clear hi hz0 hz1 hz2
  have hmc : m ≤ ct := by omega
  have hbA : Below w5.heap.size w5 ((w5.alloc (.cells #[] 28)).drew) := below_drewN ((Below.refl _ _).alloc (Nat.le_refl _) _) 1
  have HOL := Lib.hid (show ((w5.alloc (.cells #[] 28)).drew).ownsRow w5.heap.size 28 8 (.slice (some ⟨w5.heap.size, 0, none⟩) 0 0) 0 [] from World.ownsRow_lit w5 #[] 0 (Nat.le_refl _) (by simp [maxLen]) rfl)
  have HCA := Lib.hid (show Cel ((w5.alloc (.cells #[] 28)).drew) w5.heap.size 8 (if ct = m then Bt else Bt.map (·.add (m * 8))) (x.taken.length - m) (ct - m) (evCells (x.taken.drop m)) by
    rw [← evCells_dropN]; exact (Cel.below HT5.out hbA).from_ m hmn)
  have HC3 := Lib.hid (show Cel w5 w5.heap.size 8 Bt m ct (evCells (x.taken.take m)) by rw [← evCells_takeN]; exact Cel.upto HT5.out m hmn)
  have HBA := Lib.hid hbA
  have HSA := Lib.hid (show ((w5.alloc (.cells #[] 28)).drew).heap.size = w5.heap.size + 1 by simp)
  have HLE := Lib.hid (show (x.taken.drop m ++ x.taken.take m).length = x.taken.length by simp; omega)
  clear hbA
  go_wp2
  go_cut [14] (fun v wc => AmOth w5 (x.taken.drop m ++ x.taken.take m) v wc)
  case first =>
    go_region_law (first
      | (refine step_app rfl (.tmp 44) (.tmp 47) 22 rfl 28 i0 _ 8 96 Tryz.underlying22 HI.out HZ0.out HZ1.out HZ2.out rfl (by decide) w5.heap.size (.slice (some ⟨w5.heap.size, 0, none⟩) 0 0) 0 [] rfl HOL.out w5.heap.size _ _ _ (evCells (x.taken.drop m)) rfl HCA.out (cells_ones _) (by unfold maxLen; omega) (by omega) (by have := HSA.out; omega) ?_
         intro v6 w6 ho6 hg6 hv6
         have HG6 := Lib.hid hg6
         have HO6 := Lib.hid ho6
         clear ho6 hg6 hv6 HCA HOL
         generalize (if ct = m then Bt else Option.map (fun x => x.add (m * 8)) Bt) = A1 at *)
      | (refine step_app rfl (.tmp 48) (.tmp 51) 22 rfl 28 i0 _ 8 96 Tryz.underlying22 HI.out HZ0.out HZ1.out HZ2.out rfl (by decide) w5.heap.size v6 _ _ rfl HO6.out w5.heap.size _ _ _ (evCells (x.taken.take m)) rfl (by
           have h5 : Cel w6 w5.heap.size 8 Bt m ct (evCells (x.taken.take m)) := (Cel.below HC3.out HBA.out).keep fun p hp => HG6.out.cell_far p (by simp; omega) (by simp [Value.ownBlock]; omega)
           first | exact h5 | simpa using h5) (cells_ones _) (by unfold maxLen; omega) (by omega) (by have := HSA.out; have := HG6.out.size; omega) ?_
         intro v7 w7 ho7 hg7 hv7
         have HG7 := Lib.hid hg7
         have HO7 := Lib.hid ho7
         clear ho7 hg7 hv7))
    all_goals
      have HOT := Lib.hid (show AmOth w5 (x.taken.drop m ++ x.taken.take m) v7 w7 from ⟨by
          unfold OwnE
          rw [evCells_append, HLE.out]
          have := HO7.out
          rw [show 0 + (x.taken.length - m) + m = x.taken.length by omega] at this
          exact this, Below.grown (Below.grown HBA.out HG6.out (by have := HSA.out; omega) (fun k hk => by simp [Value.ownBlock] at hk; omega)) HG7.out (by have := HSA.out; have := HG6.out.size; omega) (fun k hk => (HO6.out.lt k hk).1)⟩)
      go_wp2_with fail
      go_meet
      exact HOT.out
  case rest =>
    clear HI HZ0 HZ1 HZ2 HOL HCA HC3 HBA HSA
    obtain ⟨ho, hb⟩ := hcut
    have HMEM := Lib.hid HAO.out.mem
    generalize x.taken.drop m ++ x.taken.take m = os at *
    obtain ⟨Bo, co, hv, _⟩ := ho.form
    subst hv
    have HSO := Lib.hid (small_of HSI.out HMEM.out)
    have hosl : os.length ≤ 60 := by rw [HLE.out]; omega
    have HVO := Lib.hid (show VwIn (fun b => w5.heap.size ≤ b ∧ b < wc.heap.size) Bo os.length from own_in9 ho)
    have HOE := Lib.hid (show Evs wc wc.heap.size Bo os.length co os from Cel.of_own ho)
    have hsc := hb.size
    have hb8 : Below wc.heap.size wc (wc.alloc (.cells #[] 9)) := (Below.refl _ _).alloc (Nat.le_refl _) _
    have hs8 : (wc.alloc (.cells #[] 9)).heap.size = wc.heap.size + 1 := by simp
    have hsw4 := hbw4.size
    have HST := Lib.hid (show AmRel w by_ slack idle x.taken os Bt Bo ct co (.slice (some ⟨wc.heap.size, 0, none⟩) 0 0) (.int .i64 ((0 : Nat) : Int)) (wc.alloc (.cells #[] 9)) from
      ⟨0, F5, fun b => (w3.heap.size ≤ b ∧ b < w4.heap.size) ∨ (w5.heap.size ≤ b ∧ b < wc.heap.size), [], some ⟨wc.heap.size, 0, none⟩, 0, rfl, Nat.zero_le _, rfl, Nat.le_refl _, {
        itk := (HI5.out.up hb).up hb8
        bel := hbw5.trans ((hb.trans (hb8.mono hsc)).mono hbw5.size)
        newF := fun b hb' => by have := HF5.out b hb'; omega
        tk := evs_below (evs_below HT5.out hb) hb8
        vt := HVT.out.mono fun b hb' => .inl hb'
        ot := evs_below HOE.out hb8
        vo := HVO.out.mono fun b hb' => .inr hb'
        pp := by
          have h3 := World.ownsRow_lit wc (base := wc.heap.size) (e := 9) (size := 1) #[] 0 (Nat.le_refl _) (by simp [maxLen]) rfl
          exact Cel.of_own h3
        vp := fun a _ h0 => by simp at h0
        aT := fun b hb' ht => by
          have h1 := HF5.out b hb'; have h2 := HI5.out.low hb'
          rcases ht with ht | ht <;> omega
        tl := fun b hb' => by
          rw [hs8]
          rcases hb' with ht | ht <;> omega
        up := ⟨List.Pairwise.nil, fun _ => Iff.rfl⟩ }⟩)
    clear ho hb hb8 hs8 HVO HOE HI5 HF5 HT5 HVT hbw5 hbw4
    go_wp2
    go_loopw [15, 16] (fun ppl i wr => AmRel w by_ slack idle x.taken os Bt Bo ct co ppl i wr) (fun _ i _ => os.length - (intOf i).toNat)
    case atStart => exact HST.out
    case round =>
      obtain ⟨k, F, T, gs, Ap, cp, rfl, hk, rfl, hgl, hM⟩ := hrel
      have HM := Lib.hid hM
      have hbel := hM.bel
      have hMF : ¬ F 0 := fun hf => by have := hM.newF _ hf; omega
      clear hM
      by_cases hkn : k < os.length
      · obtain ⟨b, off, hBo, hb, hev⟩ := HM.out.ot.ev k hkn
        subst hBo
        have hfine := HAO.out.fine slack idle k hkn
        have HAD := Lib.hid (admit_took hfine).1
        have HYN := Lib.hid (admAll_take (Itk.new slack idle) os k hkn)
        have HGN := Lib.hid (HAO.out.gone slack idle k hkn)
        have HSE := Lib.hid (HSO.out _ (List.getElem_mem hkn))
        have HPK := Lib.hid (show os.take (k + 1) = os.take (k + 1) from rfl)
        clear hfine
        have HEV := Lib.hid (show ∀ W : World, Evs W W.heap.size (some ⟨b, off, none⟩) os.length co os → EvAt W b (off + k * 8) os[k] from fun W hW => by
          obtain ⟨b', off', q, _, hev'⟩ := hW.ev k hkn
          injection q with q; injection q with q1 q2; subst q1 q2
          exact hev')
        generalize os[k] = e at *
        generalize admAll (Itk.new slack idle) (os.take k) = y at *
        obtain ⟨e0, e1, e2, e3, e4, e5, e6, e7⟩ := hev
        have t1 : (k : Int) < os.length := by omega
        go_wp2_with fail
        refine (admit_any wr F by_ (2 * k) y HM.out.itk (by omega) e HSE.out (HMX.out.up hbel)).mono ?_
        rintro r w7 ⟨rfl, hd7⟩
        rw [HAD.out]
        obtain ⟨F7, hi7, hb7, hn7, ht7, ho7, hp7, ha7, hl7⟩ := HM.out.deed hd7
        have HI7 := Lib.hid hi7; have HN7 := Lib.hid hn7; have HT7 := Lib.hid ht7; have HO7 := Lib.hid ho7; have HP7 := Lib.hid hp7; have HA7 := Lib.hid ha7; have HL7 := Lib.hid hl7
        clear hd7 hi7 hn7 ht7 ho7 hp7 ha7 hl7 e0 e1 e2 e3 e4 e5 e6 e7
        obtain ⟨e0, e1, e2, e3, e4, e5, e6, e7⟩ := HEV.out w7 HO7.out
        by_cases hk14 : e.kind = 14
        · have k14 : (e.kind == 14) = true := by simp [hk14]
          have HG2 := Lib.hid (show (admAll (Itk.new slack idle) (os.take (k + 1))).gone = e.per :: y.gone by rw [HGN.out, if_pos hk14])
          clear hk14 HGN
          go_wp2_with fail
          refine (rput08_any w7 T Ap gs.length cp gs HP7.out HM.out.vp (by omega) e.per).mono ?_
          rintro r w8 ⟨A8, c8, rfl, hs8, hv8, hb8⟩
          have hpl := putT_len gs e.per
          have HREL := Lib.hid (show AmRel w by_ slack idle x.taken os Bt (some ⟨b, off, none⟩) ct co (.slice A8 (putT gs e.per).length c8) (.int .i64 ((k + 1 : Nat) : Int)) w8 from
            ⟨k + 1, F7, fun b' => T b' ∨ (w7.heap.size ≤ b' ∧ b' < w8.heap.size), putT gs e.per, A8, c8, rfl, hkn, rfl, by omega, {
              itk := by rw [HYN.out, show 2 * (k + 1) = 2 * k + 2 by omega]; exact HI7.out.up hb8
              bel := hb7.trans (hb8.mono hb7.size)
              newF := HN7.out
              tk := evs_below HT7.out hb8
              vt := HM.out.vt.mono fun _ h => .inl h
              ot := evs_below HO7.out hb8
              vo := HM.out.vo.mono fun _ h => .inl h
              pp := hs8
              vp := hv8
              aT := fun b' hf ht => by
                rcases ht with ht | ht
                · exact HA7.out b' hf ht
                · have := HI7.out.low hf; omega
              tl := fun b' ht => by
                rcases ht with ht | ht
                · exact Nat.lt_of_lt_of_le (HL7.out b' ht) hb8.size
                · exact ht.2
              up := by rw [HG2.out]; exact putT_rising HM.out.up e.per }⟩)
          clear hs8 hv8 hb8 e0 e1 e2 e3 e4 e5 e6 e7
          go_wp2
          go_roundw
          case rel => exact HREL.out
          case measure => simp [intOf]; omega
        · have k14 : (e.kind == 14) = false := by simp [hk14]
          have HG2 := Lib.hid (show (admAll (Itk.new slack idle) (os.take (k + 1))).gone = y.gone by rw [HGN.out, if_neg hk14])
          clear hk14 HGN
          have HREL := Lib.hid (show AmRel w by_ slack idle x.taken os Bt (some ⟨b, off, none⟩) ct co (.slice Ap gs.length cp) (.int .i64 ((k + 1 : Nat) : Int)) w7 from
            ⟨k + 1, F7, T, gs, Ap, cp, rfl, hkn, rfl, by omega, {
              itk := by rw [HYN.out, show 2 * (k + 1) = 2 * k + 2 by omega]; exact HI7.out
              bel := hb7
              newF := HN7.out
              tk := HT7.out
              vt := HM.out.vt
              ot := HO7.out
              vo := HM.out.vo
              pp := HP7.out
              vp := HM.out.vp
              aT := HA7.out
              tl := HL7.out
              up := by rw [HG2.out]; exact HM.out.up }⟩)
          go_wp2
          go_roundw
          case rel => exact HREL.out
          case measure => simp [intOf]; omega
      · have t1 : ¬ (k : Int) < os.length := by omega
        have hko : k = os.length := by omega
        have HYT := Lib.hid (HAO.out.all slack idle)
        have HYL := Lib.hid (show (admAll (Itk.new slack idle) os).late = [] by have := HAO.out.late slack idle os.length (Nat.le_refl _); rw [List.take_length] at this; exact this)
        have HYC := Lib.hid (show cntH (admAll (Itk.new slack idle) os).had = x.taken.length by have := HAO.out.count slack idle os.length (Nat.le_refl _); rw [List.take_length, HLE.out] at this; exact this)
        have HM2 := Lib.hid (show AmM w by_ x.taken os Bt Bo ct co F T (2 * k) (admAll (Itk.new slack idle) os) gs Ap cp wr by have := HM.out; rw [List.take_of_length_le (by omega)] at this; exact this)
        clear HM hko
        generalize admAll (Itk.new slack idle) os = y at *
        go_wp2_with fail
        refine (itaken_any wr F by_ (2 * k) y HM2.out.itk (by omega)).mono ?_
        rintro r w8 ⟨v8, rfl, ho8, hb8⟩
        rw [HYT.out] at ho8
        obtain ⟨B8, c8, hv8, _⟩ := ho8.form
        subst hv8
        have HE8 := Lib.hid (show Evs w8 w8.heap.size B8 x.taken.length c8 x.taken from Cel.of_own ho8)
        have HT8 := Lib.hid (evs_below HM2.out.tk hb8)
        have HI8 := Lib.hid (HM2.out.itk.up hb8)
        have HP8 := Lib.hid (strs_below HM2.out.pp hb8)
        have hbw8 : Below w.heap.size w w8 := hbel.trans (hb8.mono hbel.size)
        clear ho8 hb8
        go_wp2_with fail
        refine (same02_any w8 _ _ B8 Bt x.taken.length c8 ct _ HE8.out HT8.out (by omega)).mono ?_
        rintro r w9 ⟨rfl, q9, rfl⟩
        have HI9 := Lib.hid (HI8.out.up (w' := w8.drewN q9) (below_drewN (Below.refl _ _) q9))
        have HP9 := Lib.hid (strs_below HP8.out (w' := w8.drewN q9) (below_drewN (Below.refl _ _) q9))
        have hbw9 : Below w.heap.size w (w8.drewN q9) := below_drewN hbw8 q9
        clear HE8 HT8 HI8 HP8 hbw8
        generalize w8.drewN q9 = w9 at *
        go_wp2_with fail
        refine (igone_any w9 F by_ (2 * k) y HI9.out (by omega)).mono ?_
        rintro r w10 ⟨v10, rr, rfl, hrr, ho10, hb10⟩
        have hrr2 := rising_unique hrr HM2.out.up
        subst hrr2
        obtain ⟨B10, c10, hv10⟩ := ownsRow_form ho10
        subst hv10
        have HS10 := Lib.hid (show Strs w10 w10.heap.size B10 rr.length c10 rr from Cel.of_own ho10)
        have HI10 := Lib.hid (HI9.out.up hb10)
        have HP10 := Lib.hid (strs_below HP9.out hb10)
        have hbw10 : Below w.heap.size w w10 := hbw9.trans (hb10.mono hbw9.size)
        clear ho10 hb10 hrr HI9 HP9 hbw9
        go_wp2_with fail
        refine (texts_any w10 _ _ B10 Ap rr.length c10 cp _ HS10.out HP10.out (by omega)).mono ?_
        rintro r w11 ⟨rfl, q11, rfl⟩
        have HI11 := Lib.hid (HI10.out.up (w' := w10.drewN q11) (below_drewN (Below.refl _ _) q11))
        have hbw11 : Below w.heap.size w (w10.drewN q11) := below_drewN hbw10 q11
        clear HI10 HP10 HS10 hbw10
        generalize w10.drewN q11 = w11 at *
        go_wp2_with fail
        refine (ilate_any w11 F by_ (2 * k) y HI11.out (by omega)).mono ?_
        rintro r w12 ⟨v12, rfl, ho12, hb12⟩
        rw [HYL.out] at ho12
        obtain ⟨B12, c12, hv12, _⟩ := ho12.form
        subst hv12
        have HI12 := Lib.hid (HI11.out.up hb12)
        have hbw12 : Below w.heap.size w w12 := hbw11.trans (hb12.mono hbw11.size)
        clear ho12 hb12 HI11 hbw11
        rw [List.length_nil]
        go_wp2_with fail
        refine (ihad_any w12 F by_ (2 * k) y HI12.out (by omega)).mono ?_
        rintro r w13 ⟨bs13, bm13, G13, V13, rfl, hd13, hb13, _⟩
        have HH13 := Lib.hid hd13
        have hbw13 : Below w.heap.size w w13 := hbw12.trans (hb13.mono hbw12.size)
        have HROW := Lib.hid (show ∀ q ∈ y.had, q.2.length ≤ 100000 from fun q hq => by
          obtain ⟨A', hM', hO', _⟩ := HI12.out
          have := hO'.rows q.1
          rw [row_of_mem hd13.ok hq] at this; omega)
        clear hd13 hb13
        go_wp2_with fail
        refine (count_any w13 G13 bs13 bm13 y.had V13 HH13.out (by rw [HYC.out]; omega) HROW.out).mono ?_
        rintro r w14 ⟨rfl, hb14⟩
        rw [HYC.out]
        have hbw14 : Below w.heap.size w w14 := hbw13.trans (hb14.mono hbw13.size)
        clear hb14
        go_wp2
        go_ret
        exact ⟨rfl, hbw14⟩
end Go.Proofs.YtoljbbmjbgepiaaGreatDoor
