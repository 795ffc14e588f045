/-
  The law IntakeMarks, walked.
-/
import Derived.Test.YtnnkhgllfhpdpaaDoorItkSet
import Derived.Test.YtnnkhgllfhpdpaaDoorItkTkn
import Derived.Test.YtnnkhgllfhpdpaaDoorRefDd
import Derived.Test.YtnnkhgllfhpdpaaDoorLives
import Derived.Test.YtnnkhgllfhpdpaaDoorItkInv0
namespace Go.Proofs.YtnnkhgllfhpdpaaDoor
open Go.RowKit Go.Maps Go.Sort

theorem itk_tick_tick (x : Itk) (now : Int) : (x.tick now).tick now = x.tick now := by
  unfold Itk.tick; simp only [tick_tick]
theorem offered_taken {x : Itk} {e : Ev} {now : Int} (h : (x.tick now).offered e now = 0) : (x.tick now).clk.mark < e.at_ := by
  unfold Itk.offered at h
  rw [itk_tick_tick] at h
  split at h
  · unfold Itk.verdict at h
    rename_i hr
    split at h
    · cases h
    · split at h
      · cases h
      · unfold Itk.refuses at hr; simp_all
  · split at h
    · rename_i hh
      have : (x.tick now).clk.tick now = (x.tick now).clk := congrArg Itk.clk (itk_tick_tick x now)
      rw [this] at hh
      unfold Clk.hears at hh
      simp only [Bool.and_eq_true, decide_eq_true_eq] at hh
      exact hh.2
    · cases h
theorem offered_late {x : Itk} {e : Ev} {now : Int} (h : (x.tick now).offered e now = 2) : e.at_ ≤ (x.tick now).clk.mark := by
  unfold Itk.offered at h
  rw [itk_tick_tick] at h
  split at h
  · unfold Itk.verdict at h
    split at h
    · cases h
    · split at h <;> cases h
  · rename_i hr
    split at h
    · cases h
    · rename_i hh
      have : (x.tick now).clk.tick now = (x.tick now).clk := congrArg Itk.clk (itk_tick_tick x now)
      rw [this] at hh
      have hm := (not_refused (x := x.tick now) (e := e) (by simpa using hr)).1
      unfold mayB headB at hm
      simp only [Bool.and_eq_true, decide_eq_true_eq] at hm
      unfold Clk.hears at hh
      simp only [Bool.and_eq_true, decide_eq_true_eq, not_and] at hh
      have := hh ⟨⟨hm.1.1.1.1.1, hm.1.1.2⟩, hm.1.2⟩
      omega
theorem took_clk (x : Itk) (e : Ev) : (x.took e).clk = x.clk := by unfold Itk.took; split <;> rfl
theorem lates_clk (x : Itk) (e : Ev) : (x.lates e).clk = x.clk := by unfold Itk.lates; split <;> rfl
theorem offer_mark (x : Itk) (e : Ev) (now : Int) : x.clk.mark ≤ (x.offer e now).clk.mark := by
  have h1 : x.clk.mark ≤ (x.tick now).clk.mark := tick_mark x.clk now
  unfold Itk.offer
  split
  · exact h1
  · have h2 : (x.tick now).clk.mark ≤ ((x.tick now).hear e now).clk.mark := Int.le_trans (tick_mark _ now) (hear_mark (x.tick now).clk e.src e.at_ now)
    split
    · rw [took_clk]; omega
    · rw [lates_clk]; omega
theorem heavy_small {ds : List Dd} (h : heavyB ds 24 = false) : ds.length ≤ 24 ∧ ∀ d ∈ ds, d.e.small := by
  unfold heavyB at h
  simp only [Bool.or_eq_false_iff, decide_eq_false_iff_not, List.any_eq_false] at h
  refine ⟨by omega, fun d hd => ?_⟩
  have := h.2 d hd
  unfold bigB at this
  simp at this
  exact ⟨by omega, by omega, by omega, by omega⟩

def MkD (w : World) (bi k : Nat) (wr : World) : Prop := ∃ F x, ItkAt wr F bi (2 * k) x ∧ Below w.heap.size w wr ∧ ∀ b, F b → w.heap.size ≤ b
def MkRel (w : World) (bi n : Nat) (i : Value) (wr : World) : Prop := ∃ k : Nat, i = .int .i64 k ∧ k ≤ n ∧ MkD w bi k wr
def CtRel (w0 : World) (kk n : Nat) (v i : Value) (wr : World) : Prop := ∃ k : Nat, i = .int .i64 k ∧ k ≤ n ∧ v = .int .i64 (min k kk : Nat) ∧ Below w0.heap.size w0 wr
theorem imark_same (w : World) (F : Nat → Prop) (bi N : Nat) (x : Itk) (h : ItkAt w F bi N x) : Calls Tryd.prog 12 #[.pointer (some ⟨bi, 0, none⟩)] w fun r w' => r = .returned (.int .i64 x.clk.mark) ∧ w' = w :=
  (imark_any w F bi N x h).mono fun _ _ h => ⟨h.1, h.2.symm⟩

set_option maxRecDepth 100000 in
set_option maxHeartbeats 4000000 in
theorem marks_any (w : World) (slack idle : Int) (A : Option Addr) (n c : Nat) (ds : List Dd) (h : Dds w w.heap.size A n c ds) (hn : n ≤ 140737488355328) (hkd : ∀ d ∈ ds, 0 ≤ d.kind ∧ d.kind ≤ 255) (hmx : MaxAt w) :
    Calls Tryd.prog 3 #[.int .i64 slack, .int .i64 idle, .slice A n c] w (Says true w) := by
  have HH := Lib.hid h; clear h
  have HKD := Lib.hid hkd; clear hkd
  have HMX := Lib.hid hmx
  have hmlt := hmx.lt
  clear hmx
  go_enter Tryd.func3, Tryd.ntmps3
  go_wp2_with fail
  refine (lives_any w HMX.out).mono ?_
  rintro r w1 ⟨rfl, hb1⟩
  have hs1 := hb1.size
  go_wp2_with fail
  have hHH1 : Dds w1 w1.heap.size A n c ds := Cel.more (Cel.below HH.out hb1) hs1
  refine (heavy_any w1 A n c ds hHH1 hn 24).mono ?_
  rintro r w2 ⟨rfl, hb2⟩
  have hbw2 : Below w.heap.size w w2 := hb1.trans (hb2.mono hs1)
  clear hb2 hb1 hHH1
  cases hhv : heavyB ds 24
  case true =>
    clear hhv
    go_wp2
    go_ret
    exact ⟨rfl, hbw2⟩
  obtain ⟨hl24, hsm⟩ := heavy_small hhv
  have HSM := Lib.hid hsm
  have hlen := HH.out.len
  have HL := Lib.hid hlen
  have hn24 : n ≤ 24 := by omega
  clear hhv hsm hlen hl24
  go_wp2_with fail
  refine (itknew_any w2 slack idle).mono ?_
  rintro r w3 ⟨bi, F3, rfl, hI3, hb3, hF3⟩
  have hbw3 : Below w.heap.size w w3 := hbw2.trans (hb3.mono hbw2.size)
  have hs2 := hbw2.size
  have HO3 := Lib.hid (show MkD w bi 0 w3 from ⟨F3, _, hI3, hbw3, fun b hb => by have := hF3 b hb; omega⟩)
  clear hI3 hb3 hF3
  go_wp2
  go_loopw [8] (fun i wr => MkRel w bi n i wr) (fun i _ => n - (intOf i).toNat)
  case atStart => exact ⟨0, rfl, Nat.zero_le _, HO3.out⟩
  case round =>
    obtain ⟨k, rfl, hk, hoff⟩ := hrel
    have HOF := Lib.hid hoff; clear hoff
    by_cases hkn : k < n
    · obtain ⟨F', x, hI, hbel, hFb⟩ := HOF.out
      have hkl : k < ds.length := by rw [HL.out]; exact hkn
      obtain ⟨b, off, rfl, hb, hd⟩ := HH.out.at_ k hkl
      have HDD := Lib.hid hd
      have HSX := Lib.hid (HSM.out _ (List.getElem_mem hkl))
      have hkd := HKD.out _ (List.getElem_mem hkl)
      generalize ds[k] = d at *
      have t1 : (k : Int) < n := by omega
      obtain ⟨d0, ⟨e0, e1, e2, e3, e4, e5, e6, e7⟩, d9⟩ := HDD.out.below hbel hb
      go_wp2_with fail
      refine (itick_any wr F' bi (2 * k) x hI d.now).mono ?_
      rintro r w4 ⟨rfl, F4, hI4, hK4, hF4⟩
      have HI4 := Lib.hid hI4
      have hFb4 : ∀ b', F4 b' → w.heap.size ≤ b' := fun b' hb' => (hF4 b' hb').elim (hFb b') (fun h => by have := hbel.size; omega)
      have HFb4 := Lib.hid hFb4
      have hbw4 : Below w.heap.size w w4 := hbel.trans (hK4.below hbel.size (fun b' hb' hf => by have := hFb b' hf; omega))
      clear d0 e0 e1 e2 e3 e4 e5 e6 e7 d9 hI hI4 hK4 hF4 hFb hFb4
      obtain ⟨d0, ⟨e0, e1, e2, e3, e4, e5, e6, e7⟩, d9⟩ := HDD.out.below hbw4 hb
      have HTA := Lib.hid (fun h => offered_taken (x := x) (e := d.e) (now := d.now) h)
      have HLA := Lib.hid (fun h => offered_late (x := x) (e := d.e) (now := d.now) h)
      have HMO := Lib.hid (offer_mark (x.tick d.now) d.e d.now)
      generalize x.tick d.now = y at *
      by_cases hk4 : d.kind < 4
      · go_wp2
        go_still_tail 11, (by kernel_rfl)
        change wpList _ _ _ _ _ (w4.drewN 1)
        have hbq : Below w4.heap.size w4 (w4.drewN 1) := below_drewN (Below.refl _ _) 1
        have hbwq : Below w.heap.size w (w4.drewN 1) := below_drewN hbw4 1
        clear d0 e0 e1 e2 e3 e4 e5 e6 e7 d9
        generalize w4.drewN 1 = w5 at *
        have HI5 := Lib.hid (HI4.out.up hbq)
        clear hbq
        go_wp2_with fail
        refine (offer_any w5 F4 bi (2 * k) y HI5.out (by omega) d.e HSX.out d.now (HMX.out.up hbwq) (fun hf => by have := HFb4.out _ hf; omega)).mono ?_
        rintro r w6 ⟨rfl, F6, hI6, hK6, hF6⟩
        have hbw6 : Below w.heap.size w w6 := hbwq.trans (hK6.below hbwq.size (fun b' hb' hf => by have := HFb4.out b' hf; omega))
        have HI6 := Lib.hid (show ItkAt w6 F6 bi (2 * (k + 1)) (y.offer d.e d.now) by rw [show 2 * (k + 1) = 2 * k + 2 by omega]; exact hI6)
        have HRR := Lib.hid (show MkRel w bi n (.int .i64 ((k + 1 : Nat) : Int)) w6 from ⟨k + 1, rfl, by omega, F6, _, HI6.out, hbw6, fun b' hb' => (hF6 b' hb').elim (HFb4.out b') (fun h => by have := hbwq.size; omega)⟩)
        obtain ⟨d0, ⟨e0, e1, e2, e3, e4, e5, e6, e7⟩, d9⟩ := HDD.out.below hbw6 hb
        clear hI6 hK6 hF6
        generalize y.offer d.e d.now = z at *
        generalize y.offered d.e d.now = v at *
        have hta : v = 0 → ¬ d.e.at_ ≤ y.clk.mark := fun h => by have := HTA.out h; omega
        have hla : v = 2 → ¬ y.clk.mark < d.e.at_ := fun h => by have := HLA.out h; omega
        have hmo : ¬ z.clk.mark < y.clk.mark := by have := HMO.out; omega
        by_cases hv0 : v = 0
        · have h0 := hta hv0
          clear hta hla
          subst hv0
          go_wp2_with fail
          refine (imark_any w6 F6 bi _ z HI6.out).mono ?_
          rintro r w7 ⟨rfl, rfl⟩
          go_wp2
          go_roundw
          case rel => exact HRR.out
          case measure => simp [intOf]; omega
        · by_cases hv2 : v = 2
          · have h0 := hla hv2
            clear hta hla
            subst hv2
            go_wp2_with fail
            refine (imark_any w6 F6 bi _ z HI6.out).mono ?_
            rintro r w7 ⟨rfl, rfl⟩
            go_wp2
            go_roundw
            case rel => exact HRR.out
            case measure => simp [intOf]; omega
          · clear hta hla
            go_wp2_with fail
            refine (imark_any w6 F6 bi _ z HI6.out).mono ?_
            rintro r w7 ⟨rfl, rfl⟩
            go_wp2
            go_roundw
            case rel => exact HRR.out
            case measure => simp [intOf]; omega
      · have HRR := Lib.hid (show MkRel w bi n (.int .i64 ((k + 1 : Nat) : Int)) w4 from ⟨k + 1, rfl, by omega, F4, _, HI4.out.more (by omega), hbw4, HFb4.out⟩)
        have hmo : ¬ y.clk.mark < y.clk.mark := by omega
        go_wp2_with fail
        refine (imark_any w4 F4 bi _ y HI4.out).mono ?_
        rintro r w7 ⟨rfl, rfl⟩
        go_wp2
        go_roundw
        case rel => exact HRR.out
        case measure => simp [intOf]; omega
    · obtain ⟨F', x, hI, hbel, hFb⟩ := HOF.out
      have t1 : ¬ (k : Int) < n := by omega
      have HI := Lib.hid hI
      have hbw := hbel
      have htl : x.taken.length ≤ 100000 := by obtain ⟨A, hM, hO, _⟩ := hI; have := hO.taken; omega
      clear hI hbel hFb
      go_wp2_with fail
      refine (settled_any wr F' bi (2 * k) x HI.out (by omega)).mono ?_
      rintro r w4 ⟨kk, v4, hset, rfl, ho4, hb4⟩
      obtain ⟨B4, c4, hv4, hc4⟩ := ho4.form
      have hkl := hset.1
      rw [List.length_take, Nat.min_eq_left hkl] at hv4
      subst hv4
      have HE4 := Lib.hid (show Evs w4 w4.heap.size B4 kk c4 (x.taken.take kk) by have h := ho4; unfold OwnE at h; rw [List.length_take, Nat.min_eq_left hkl] at h; exact Cel.of_own h)
      have HST := Lib.hid hset
      have HI4 := Lib.hid (HI.out.up hb4)
      have hbw4 : Below w.heap.size w w4 := hbw.trans (hb4.mono hbw.size)
      clear ho4 hb4 hset
      go_wp2_with fail
      refine (itaken_any w4 F' bi (2 * k) x HI4.out (by omega)).mono ?_
      rintro r w5 ⟨v5, rfl, ho5, hb5⟩
      obtain ⟨B5, c5, hv5, hc5⟩ := ho5.form
      subst hv5
      have hBf : B5 = none ∨ ∃ g, B5 = some ⟨g, 0, none⟩ := by
        rcases ho5.2 with ⟨q, _⟩ | ⟨g, _, _, q, _⟩
        · left; injection q
        · right; exact ⟨g, by injection q⟩
      have HBF := Lib.hid hBf
      clear hBf
      have HE5 := Lib.hid (show Evs w5 w5.heap.size B5 x.taken.length c5 x.taken from Cel.of_own ho5)
      have HE54 := Lib.hid (show Evs w5 w5.heap.size B4 kk c4 (x.taken.take kk) from Cel.more (Cel.below HE4.out hb5) hb5.size)
      have HI5 := Lib.hid (HI4.out.up hb5)
      have hbw5 : Below w.heap.size w w5 := hbw4.trans (hb5.mono hbw4.size)
      clear ho5 hb5
      go_wp2
      go_loopw [13, 14] (fun v i wz => CtRel w5 kk x.taken.length v i wz) (fun _ i _ => x.taken.length - (intOf i).toNat)
      case atStart => exact ⟨0, rfl, Nat.zero_le _, by simp, Below.refl _ _⟩
      case round =>
        obtain ⟨j, rfl, hj, hv, hbz⟩ := hrel
        have hbwz : Below w.heap.size w wr := hbw5.trans (hbz.mono hbw5.size)
        have HIZ := Lib.hid (HI5.out.up hbz)
        by_cases hjn : j < x.taken.length
        · obtain ⟨b5, off5, rfl, hb5, hev⟩ := HE5.out.ev j hjn
          obtain ⟨e0, e1, e2, e3, e4, e5, e6, e7⟩ := hev.below hbz hb5
          have t2 : (j : Int) < x.taken.length := by omega
          by_cases hjk : j < kk
          · have h0 := HST.out.2.1 j hjn hjk
            rw [Nat.min_eq_left (by omega)] at hv
            subst hv
            generalize x.taken[j] = y at *
            go_wp2
            go_quiet ((go_at_call 12; exact Calls.quiet_of_same (imark_same _ _ _ _ _ (HIZ.out.up (below_drewN (Below.refl _ _) _)))))
            go_wp2
            go_roundw
            case rel => exact ⟨j + 1, by go_num, by omega, by rw [Nat.min_eq_left (by omega)]; go_num, below_drewN hbz _⟩
            case measure => simp [intOf]; omega
          · have h0 : ¬ x.taken[j].at_ ≤ x.clk.mark := by have := HST.out.2.2 j hjn (by omega); omega
            rw [Nat.min_eq_right (by omega)] at hv
            subst hv
            generalize x.taken[j] = y at *
            go_wp2
            go_quiet ((go_at_call 12; exact Calls.quiet_of_same (imark_same _ _ _ _ _ (HIZ.out.up (below_drewN (Below.refl _ _) _)))))
            go_wp2
            go_roundw
            case rel => exact ⟨j + 1, by go_num, by omega, by rw [Nat.min_eq_right (by omega)], below_drewN hbz _⟩
            case measure => simp [intOf]; omega
        · have t2 : ¬ (j : Int) < x.taken.length := by omega
          rw [Nat.min_eq_right (by omega)] at hv
          subst hv
          have hkc : kk ≤ c5 := by have := Cel.cap HE5.out; omega
          have hcm : c5 ≤ 9223372036854775807 := hc5
          have HEZ := Lib.hid (show Evs wr wr.heap.size B4 kk c4 (x.taken.take kk) from Cel.more (Cel.below HE54.out hbz) hbz.size)
          have HEY := Lib.hid (show Evs wr wr.heap.size B5 kk c5 (x.taken.take kk) from evs_take (Cel.more (Cel.below HE5.out hbz) hbz.size) (by omega))
          rcases HBF.out with rfl | ⟨g, rfl⟩
          · go_wp2_with fail
            refine (same02_any wr _ _ B4 none kk c4 c5 _ HEZ.out HEY.out (by omega)).mono ?_
            rintro r w9 ⟨rfl, q9, rfl⟩
            have hbw9 : Below w.heap.size w (wr.drewN q9) := below_drewN hbwz q9
            generalize wr.drewN q9 = w9 at *
            go_wp2
            go_ret
            exact ⟨rfl, hbw9⟩
          · go_wp2_with fail
            refine (same02_any wr _ _ B4 (some ⟨g, 0, none⟩) kk c4 c5 _ HEZ.out HEY.out (by omega)).mono ?_
            rintro r w9 ⟨rfl, q9, rfl⟩
            have hbw9 : Below w.heap.size w (wr.drewN q9) := below_drewN hbwz q9
            generalize wr.drewN q9 = w9 at *
            go_wp2
            go_ret
            exact ⟨rfl, hbw9⟩
end Go.Proofs.YtnnkhgllfhpdpaaDoor
