/-
  The law IntakeOrder, walked.
-/
import Derived.Test.YtoljbbmjbgepiaaGreatDoorOrdAll
import Derived.Test.YtoljbbmjbgepiaaGreatDoorItkGone
import Derived.Test.YtoljbbmjbgepiaaGreatDoorLives
import Derived.Test.YtoljbbmjbgepiaaGreatDoorSame31
namespace Go.Proofs.YtoljbbmjbgepiaaGreatDoor
open Go.RowKit Go.Maps Go.Sort

theorem ord_inv (slack : Int) : ∀ (l : List Ev), l.length ≤ 1000 → AlikeP l → ∀ p, fineAll (Itk.new slack 0) p = true → p ++ l.drop p.length = l → OrdInv p (offAll (Itk.new slack 0) p) := by
  intro l hl ha p
  induction hn : p.length generalizing p with
  | zero =>
    intro _ _
    have : p = [] := List.eq_nil_of_length_eq_zero hn
    subst this
    exact OrdInv.new _ _
  | succ n ih =>
    intro hf hp
    rcases List.eq_nil_or_concat p with rfl | ⟨q, e, rfl⟩
    · simp at hn
    rw [List.concat_eq_append] at *
    rw [fineAll_snoc, Bool.and_eq_true] at hf
    rw [offAll_snoc]
    have hq : q.length = n := by simpa using hn
    have hsub : ∀ a ∈ q ++ [e], a ∈ l := fun a h => by rw [← hp]; exact List.mem_append_left _ h
    refine (ih q hq hf.2 ?_).offer ?_ (fun a h b h' => ha a (hsub a h) b (hsub b h')) 0 (by simpa using hf.1)
    · have e1 : l.drop n = e :: l.drop (n + 1) := by
        conv => lhs; rw [← hp]
        rw [List.append_assoc, List.drop_left' hq]
        rfl
      rw [e1]; simpa using hp
    · have := congrArg List.length hp; simp at this; omega
/-- two orders of the same events -/
theorem ord_same {slack : Int} {l l' : List Ev} (hl : l.length ≤ 1000) (hl' : l'.length ≤ 1000) (ha : AlikeP l) (hm : ∀ e, e ∈ l' ↔ e ∈ l) (h : fineAll (Itk.new slack 0) l = true) (h' : fineAll (Itk.new slack 0) l' = true) :
    (offAll (Itk.new slack 0) l).taken = (offAll (Itk.new slack 0) l').taken ∧ ∀ r, r ∈ (offAll (Itk.new slack 0) l).gone ↔ r ∈ (offAll (Itk.new slack 0) l').gone := by
  have ha' : AlikeP l' := fun a h b h' => ha a ((hm a).1 h) b ((hm b).1 h')
  exact (ord_inv slack l hl ha l h (by simp)).same (ord_inv slack l' hl' ha' l' h' (by simp)) fun e => (hm e).symm
theorem offer_goneN (x : Itk) (e : Ev) (now : Int) : (x.offer e now).gone.length ≤ x.gone.length + 1 := by
  unfold Itk.offer
  split
  · show x.gone.length ≤ _; omega
  · split
    · unfold Itk.took
      split
      · show (e.per :: x.gone).length ≤ _; simp
      · show x.gone.length ≤ _; omega
    · unfold Itk.lates
      split <;> (show x.gone.length ≤ _; omega)
theorem offAll_gone (l : List Ev) : ∀ x : Itk, (offAll x l).gone.length ≤ x.gone.length + l.length := by
  induction l with
  | nil => intro x; exact Nat.le_refl _
  | cons e l ih =>
    intro x
    have h1 := ih (x.offer e 0)
    have h2 := offer_goneN x e 0
    have h3 : offAll x (e :: l) = offAll (x.offer e 0) l := rfl
    rw [h3, List.length_cons]; omega
theorem some_small {es : List Ev} (h : es.any (fun d => bigB d 300) = false) : ∀ e ∈ es, e.small := fun e he => by
  rw [List.any_eq_false] at h
  have := h e he
  unfold bigB at this
  simp only [Bool.or_eq_true, decide_eq_true_eq, not_or, Int.not_lt] at this
  exact ⟨by omega, by omega, by omega, by omega⟩
/-- a slice of the call's own with the same events -/
def OthAt (w : World) (es : List Ev) (v : Value) (wr : World) : Prop := ∃ l, OwnE wr w.heap.size v l ∧ l.length = es.length ∧ (∀ e, e ∈ l ↔ e ∈ es) ∧ Below w.heap.size w wr

theorem own_some {w : World} {base : Nat} {v : Value} {l : List Ev} (h : OwnE w base v l) (h0 : 0 < l.length) : ∃ g cap, v = .slice (some ⟨g, 0, none⟩) l.length cap := by
  rcases h.2 with ⟨_, h'⟩ | ⟨g, cap, cur, e, _⟩
  · omega
  · exact ⟨g, cap, e⟩
/-- some are swapped -/
def SwRel (w : World) (es : List Ev) (n : Nat) (B : Option Addr) (cap : Nat) (i k : Value) (wr : World) : Prop := ∃ (j : Nat) (l : List Ev), i = .int .i64 j ∧ k = .int .i64 ((n : Int) - 1 - j) ∧ OwnE wr w.heap.size (.slice B n cap) l ∧ l.length = es.length ∧ (∀ e, e ∈ l ↔ e ∈ es) ∧ Below w.heap.size w wr

set_option maxRecDepth 100000 in
set_option maxHeartbeats 4000000 in
theorem order_any (w : World) (slack : Int) (A : Option Addr) (n c : Nat) (es : List Ev) (h : Evs w w.heap.size A n c es) (hn : n ≤ 140737488355328) (at_ : Int) (turned : Bool) (hmx : MaxAt w) :
    Calls Tryz.prog 3 #[.int .i64 slack, .slice A n c, .int .i64 at_, .bool turned] w (Says true w) := by
  have HH := Lib.hid h; clear h
  have HMX := Lib.hid hmx
  have hmlt := hmx.lt
  clear hmx
  have HL := Lib.hid HH.out.len
  go_enter Tryz.func3, Tryz.ntmps3
  go_wp2_with fail
  refine (lives_any w HMX.out).mono ?_
  rintro r w1 ⟨rfl, hb1⟩
  have HH1 := Lib.hid (show Evs w1 w1.heap.size A n c es from Cel.more (Cel.below HH.out hb1) hb1.size)
  by_cases h30 : 30 < n
  · have t1 : (30 : Int) < n := by omega
    go_wp2
    go_ret
    exact ⟨rfl, hb1⟩
  have t1 : ¬ (30 : Int) < n := by omega
  go_wp2_with fail
  refine (some_any w1 A n c es HH1.out hn 300).mono ?_
  rintro r w2 ⟨rfl, hb2⟩
  have hbw2 : Below w.heap.size w w2 := hb1.trans (hb2.mono hb1.size)
  have HH2 := Lib.hid (show Evs w2 w2.heap.size A n c es from Cel.more (Cel.below HH1.out hb2) hb2.size)
  clear hb2
  cases hsm : es.any (fun d => bigB d 300)
  case true =>
    clear hsm
    go_wp2
    go_ret
    exact ⟨rfl, hbw2⟩
  have HSM := Lib.hid (some_small hsm)
  clear hsm
  go_wp2_with fail
  refine (alike_any w2 A n c es HH2.out (by omega)).mono ?_
  rintro r w3 ⟨ab, rfl, hab, q3, rfl⟩
  have HH3 := Lib.hid (show Evs (w2.drewN q3) (w2.drewN q3).heap.size A n c es from HH2.out.drewN q3)
  have hbw3 : Below w.heap.size w (w2.drewN q3) := below_drewN hbw2 q3
  generalize w2.drewN q3 = w3 at *
  cases ab
  case false =>
    clear hab
    go_wp2
    go_ret
    exact ⟨rfl, hbw3⟩
  have HAL := Lib.hid (hab rfl)
  clear hab
  by_cases ha0 : at_ < 0
  · go_wp2
    go_ret
    exact ⟨rfl, hbw3⟩
  by_cases ha1 : (n : Int) < at_
  · go_wp2
    go_ret
    exact ⟨rfl, hbw3⟩
  obtain ⟨m, rfl⟩ : ∃ m : Nat, at_ = m := ⟨at_.toNat, by omega⟩
  have hmn : m ≤ n := by omega
  clear ha0 ha1
  obtain ⟨i0, hi, hz0, hz1, hz2⟩ := info_parts ev_info
  have HI := Lib.hid hi; have HZ0 := Lib.hid hz0; have HZ1 := Lib.hid hz1; have HZ2 := Lib.hid hz2
  clear hi hz0 hz1 hz2
  have hs3 := hbw3.size
  have hmc : m ≤ c := by have := Cel.cap HH.out; omega
  have HOL := Lib.hid (show ((w3.alloc (.cells #[] 28)).drew).ownsRow w.heap.size 28 8 (.slice (some ⟨w3.heap.size, 0, none⟩) 0 0) 0 [] from World.ownsRow_lit w3 #[] 0 hs3 (by simp [maxLen]) rfl)
  have hbA : Below w.heap.size w ((w3.alloc (.cells #[] 28)).drew) := below_drewN (hbw3.alloc hs3 _) 1
  have hb3A : Below w3.heap.size w3 ((w3.alloc (.cells #[] 28)).drew) := below_drewN ((Below.refl _ _).alloc (Nat.le_refl _) _) 1
  have HCA := Lib.hid (show Cel ((w3.alloc (.cells #[] 28)).drew) w3.heap.size 8 (if c = m then A else A.map (·.add (m * 8))) (n - m) (c - m) (evCells (es.drop m)) by
    rw [← evCells_dropN]; exact (Cel.below HH3.out hb3A).from_ m hmn)
  have HC3 := Lib.hid (show Cel w3 w3.heap.size 8 A m c (evCells (es.take m)) by rw [← evCells_takeN]; exact Cel.upto HH3.out m hmn)
  have HBA := Lib.hid hbA; have HB3A := Lib.hid hb3A
  have hsA : ((w3.alloc (.cells #[] 28)).drew).heap.size = w3.heap.size + 1 := by simp
  have HSA := Lib.hid hsA
  have HLE := Lib.hid (show (es.drop m ++ es.take m).length = es.length by simp; have := HL.out; omega)
  have HME := Lib.hid (show ∀ e, e ∈ es.drop m ++ es.take m ↔ e ∈ es by
    intro e
    conv => rhs; rw [← List.take_append_drop m es]
    simp only [List.mem_append]; exact Or.comm)
  clear hbA hb3A hsA
  go_wp2
  go_cut [9] (fun v wc => OthAt w es v wc)
  case first =>
    go_region_law (first
      | (refine step_app rfl (.tmp 40) (.tmp 43) 22 rfl 28 i0 _ 8 96 Tryz.underlying22 HI.out HZ0.out HZ1.out HZ2.out rfl (by decide) w.heap.size (.slice (some ⟨w3.heap.size, 0, none⟩) 0 0) 0 [] rfl HOL.out w3.heap.size _ _ _ (evCells (es.drop m)) rfl HCA.out (cells_ones _) (by unfold maxLen; omega) (by omega) (by have := HSA.out; omega) ?_
         intro v5 w5 ho5 hg5 hv5
         have HG5 := Lib.hid hg5
         have HO5 := Lib.hid ho5
         clear ho5 hg5 hv5 HCA HOL
         generalize (if c = m then A else Option.map (fun x => x.add (m * 8)) A) = A1 at *)
      | (refine step_app rfl (.tmp 44) (.tmp 47) 22 rfl 28 i0 _ 8 96 Tryz.underlying22 HI.out HZ0.out HZ1.out HZ2.out rfl (by decide) w.heap.size v5 _ _ rfl HO5.out w3.heap.size _ _ _ (evCells (es.take m)) rfl (by
           have h5 : Cel w5 w3.heap.size 8 A m c (evCells (es.take m)) := (Cel.below HC3.out HB3A.out).keep fun p hp => HG5.out.cell_far p (by simp; omega) (by simp [Value.ownBlock]; omega)
           first | exact h5 | simpa using h5) (cells_ones _) (by unfold maxLen; omega) (by omega) (by have := HSA.out; have := HG5.out.size; omega) ?_
         intro v6 w6 ho6 hg6 hv6
         have HG6 := Lib.hid hg6
         have HO6 := Lib.hid ho6
         clear ho6 hg6 hv6))
    all_goals
      have HOT := Lib.hid (show OthAt w es v6 w6 from ⟨es.drop m ++ es.take m, by
          unfold OwnE
          rw [evCells_append, HLE.out, HL.out]
          have := HO6.out
          rw [show 0 + (n - m) + m = n by omega] at this
          exact this, HLE.out, HME.out, Below.grown (Below.grown HBA.out HG5.out (by have := HSA.out; omega) (fun k hk => by simp [Value.ownBlock] at hk; omega)) HG6.out (by have := HSA.out; have := HG5.out.size; omega) (fun k hk => (HO5.out.lt k hk).1)⟩)
      go_wp2_with fail
      go_meet
      exact HOT.out
  case rest =>
    clear HI HZ0 HZ1 HZ2 HOL HCA HC3 HBA HB3A HSA HLE HME HH1 HH2
    go_upto_if 49 with fail
    go_cut [9, 10, 11] (fun v _ _ wd => OthAt w es v wd)
    case first =>
      cases turned
      · go_wp2_with fail
        go_meet
        exact hcut
      · obtain ⟨l0, ho0, hl0, hm0, hb0⟩ := hcut
        obtain ⟨B, cap, hv, _⟩ := ho0.form
        rw [hl0, HL.out] at hv
        subst hv
        have HO0 := Lib.hid (show SwRel w es n B cap (.int .i64 0) (.int .i64 ((n : Int) - 1)) wc from ⟨0, l0, rfl, by simp, ho0, hl0, hm0, hb0⟩)
        clear ho0 hm0 hb0 hl0
        go_wp2
        go_loopw [10, 11] (fun i k wr => SwRel w es n B cap i k wr) (fun i _ _ => n - (intOf i).toNat)
        case atStart => exact HO0.out
        case round =>
          obtain ⟨j, l, rfl, rfl, ho, hl, hm, hb⟩ := hrel
          by_cases hjk : 2 * j + 1 < n
          · have t2 : (j : Int) < (n : Int) - 1 - j := by omega
            have hj : j < l.length := by rw [hl, HL.out]; omega
            obtain ⟨kk, hkk⟩ : ∃ kk : Nat, kk = n - 1 - j := ⟨_, rfl⟩
            have hki : (n : Int) - 1 - j = kk := by omega
            rw [hki]
            have hk : kk < l.length := by rw [hl, HL.out]; omega
            obtain ⟨g, cap', hv'⟩ := own_some ho (by omega)
            injection hv' with hv1 hv2 hv3
            subst hv1 hv3
            have hEv : Evs wr wr.heap.size (some ⟨g, 0, none⟩) n cap l := by have := ho; unfold OwnE at this; rw [hl, HL.out] at this; exact Cel.of_own this
            obtain ⟨b1, o1, q1, _, e0, e1, e2, e3, e4, e5, e6, e7⟩ := hEv.ev j hj
            obtain ⟨b2, o2, q2, _, f0, f1, f2, f3, f4, f5, f6, f7⟩ := hEv.ev kk hk
            injection q1 with q1; injection q1 with q11 q12; subst q11 q12
            injection q2 with q2; injection q2 with q21 q22; subst q21 q22
            rw [Nat.zero_add] at e0 e1 e2 e3 e4 e5 e6 e7 f0 f1 f2 f3 f4 f5 f6 f7
            have HSWM := Lib.hid (swap_mem l j kk hj hk)
            have HOX := Lib.hid (show OwnE wr w.heap.size (.slice (some ⟨g, 0, none⟩) n cap) l from ho); have HLX := Lib.hid hl; have HMXX := Lib.hid hm
            have hgw : w.heap.size ≤ g := (World.ownsRow.lt ho g rfl).1
            generalize l[j] = x at *
            generalize l[kk] = y at *
            have HN2 := Lib.hid hv2
            have hjn : (j : Int) < n := by omega
            have hkn : (kk : Int) < n := by omega
            have hjn' : j < n := by omega
            have hkn' : kk < n := by omega
            have HB := Lib.hid hb
            have HS1 := Lib.hid (HOX.out.setEv HN2.out j hj y)
            have HS2 := Lib.hid (HS1.out.1.setEv (by rw [List.length_set]; exact HN2.out) kk (by rw [List.length_set]; exact hk) x)
            have hfr1 : ∀ o, wr.frozen? ⟨g, o, none⟩ = false := fun o => World.ownsRow.frozenAt (by have := ho; unfold OwnE at this; rw [hl, HL.out] at this; exact this) o
            have HE5 := Lib.hid (show (∃ z, EvAt (setEv wr g (j * 8) y) g (kk * 8) z) ∧ ∀ o, (setEv wr g (j * 8) y).frozen? ⟨g, o, none⟩ = false by
              have h5 := HS1.out.1
              have hl5 : (l.set j y).length = n := by rw [List.length_set]; exact HN2.out.symm
              unfold OwnE at h5
              rw [hl5] at h5
              have hev : Evs _ _ (some ⟨g, 0, none⟩) n cap (l.set j y) := Cel.of_own h5
              obtain ⟨b3, o3, q3, _, hz⟩ := hev.ev kk (by rw [List.length_set]; exact hk)
              injection q3 with q3; injection q3 with q31 q32; subst q31 q32
              rw [Nat.zero_add] at hz
              exact ⟨⟨_, hz⟩, fun o => World.ownsRow.frozenAt h5 o⟩)
            have t3 : (j : Int) < kk := by omega
            have HREL := Lib.hid (show SwRel w es n (some ⟨g, 0, none⟩) cap (.int .i64 ((j + 1 : Nat) : Int)) (.int .i64 ((kk : Int) - 1)) (setEv (setEv wr g (j * 8) y) g (kk * 8) x).drew from
              ⟨j + 1, _, rfl, by congr 1; omega, HS2.out.1.drew, by simp [HLX.out], fun e => (HSWM.out e).trans (HMXX.out e), below_drew ((HB.out.grown HS1.out.2 (by have := hb.size; exact this) (fun k hk => by injection hk with hk; omega)).grown HS2.out.2 (by have := HS1.out.2.size; have := hb.size; exact Nat.le_trans (by assumption) (by assumption)) (fun k hk => by injection hk with hk; omega))⟩)
            clear hEv ho hl hm hv2 hki t2 hj hk hkk
            go_wp2
            obtain ⟨⟨z, z0, z1, z2, z3, z4, z5, z6, z7⟩, hfr5⟩ := HE5.out
            unfold setEv at z0 z1 z2 z3 z4 z5 z6 z7 hfr5
            go_region_law (fail)
            all_goals
              clear z0 z1 z2 z3 z4 z5 z6 z7 hfr5 e0 e1 e2 e3 e4 e5 e6 e7 f0 f1 f2 f3 f4 f5 f6 f7 HE5 HS1 HS2
              change Exit.inBlock _ _ _ _ (setEv (setEv wr g (j * 8) y) g (kk * 8) x).drew
              generalize (setEv (setEv wr g (j * 8) y) g (kk * 8) x).drew = w5 at *
              clear HSWM HOX HMXX HB hfr1
              go_wp2
              go_roundw
              case rel => exact HREL.out
              case measure => simp [intOf]; omega
          · have t2 : ¬ (j : Int) < (n : Int) - 1 - j := by omega
            have HOT := Lib.hid (show OthAt w es (.slice B n cap) wr from ⟨l, ho, hl, hm, hb⟩)
            clear ho hl hm
            go_wp2_with fail
            go_meet
            exact HOT.out
    case rest =>
      obtain ⟨l, ho, hl, hm, hb⟩ := hcut
      obtain ⟨B, cap, hv, _⟩ := ho.form
      have hln : l.length = n := by rw [hl, HL.out]
      rw [hln] at hv
      subst hv
      have HMM := Lib.hid hm
      have HLN := Lib.hid hln
      have HHW := Lib.hid (show Evs wc wc.heap.size A n c es from Cel.more (Cel.below HH.out hb) hb.size)
      have HEL := Lib.hid (show Evs wc wc.heap.size B n cap l from by have := ho; unfold OwnE at this; rw [hln] at this; exact Cel.of_own this)
      have HSL := Lib.hid (show ∀ e ∈ l, e.small from fun e he => HSM.out e ((hm e).1 he))
      clear ho hl hm hln
      go_wp2_with fail
      refine (offd_any wc slack A n c es HHW.out (by omega) HSM.out (HMX.out.up hb)).mono ?_
      rintro r w5 ⟨bx, Fx, rfl, hIx, hb5, hFx⟩
      have hbw5 : Below w.heap.size w w5 := hb.trans (hb5.mono hb.size)
      have HEL5 := Lib.hid (show Evs w5 w5.heap.size B n cap l from Cel.more (Cel.below HEL.out hb5) hb5.size)
      have HIX := Lib.hid hIx
      clear hIx hb5 hFx
      go_wp2_with fail
      refine (offd_any w5 slack B n cap l HEL5.out (by omega) HSL.out (HMX.out.up hbw5)).mono ?_
      rintro r w6 ⟨byy, Fy, rfl, hIy, hb6, hFy⟩
      have hbw6 : Below w.heap.size w w6 := hbw5.trans (hb6.mono hbw5.size)
      have HIX6 := Lib.hid (HIX.out.up hb6)
      have HIY := Lib.hid hIy
      clear hIy hb6 hFy
      cases hfx : fineAll (Itk.new slack 0) es
      case false =>
        go_wp2
        go_ret
        exact ⟨rfl, hbw6⟩
      cases hfy : fineAll (Itk.new slack 0) l
      case false =>
        clear hfx
        go_wp2
        go_ret
        exact ⟨rfl, hbw6⟩
      obtain ⟨hst, hsg⟩ := ord_same (slack := slack) (l := es) (l' := l) (by have := HL.out; omega) (by have := HLN.out; omega) HAL.out HMM.out hfx hfy
      have HSG := Lib.hid hsg
      have HST := Lib.hid hst
      have hxg : (offAll (Itk.new slack 0) es).gone.length ≤ n := by have := offAll_gone es (Itk.new slack 0); rw [HL.out] at this; simpa [Itk.new] using this
      clear hsg hst hfx hfy
      generalize offAll (Itk.new slack 0) es = x at *
      generalize offAll (Itk.new slack 0) l = y at *
      have hxl : x.taken.length ≤ 60 := by obtain ⟨_, _, ho, _⟩ := HIX.out; have := ho.taken; omega
      go_wp2_with fail
      refine (itaken_any w6 Fx bx (2 * n) x HIX6.out (by omega)).mono ?_
      rintro r w7 ⟨v7, rfl, ho7, hb7⟩
      obtain ⟨B7, c7, hv7, _⟩ := ho7.form
      subst hv7
      have HE7 := Lib.hid (show Evs w7 w7.heap.size B7 x.taken.length c7 x.taken from Cel.of_own ho7)
      have HIX7 := Lib.hid (HIX6.out.up hb7)
      have HIY7 := Lib.hid (HIY.out.up hb7)
      have hbw7 : Below w.heap.size w w7 := hbw6.trans (hb7.mono hbw6.size)
      clear ho7 hb7
      go_wp2_with fail
      refine (itaken_any w7 Fy byy (2 * n) y HIY7.out (by omega)).mono ?_
      rintro r w8 ⟨v8, rfl, ho8, hb8⟩
      rw [← HST.out] at ho8
      obtain ⟨B8, c8, hv8, _⟩ := ho8.form
      subst hv8
      have HE8 := Lib.hid (show Evs w8 w8.heap.size B8 x.taken.length c8 x.taken from Cel.of_own ho8)
      have HE78 := Lib.hid (show Evs w8 w8.heap.size B7 x.taken.length c7 x.taken from Cel.more (Cel.below HE7.out hb8) hb8.size)
      have HIX8 := Lib.hid (HIX7.out.up hb8)
      have HIY8 := Lib.hid (HIY7.out.up hb8)
      have hbw8 : Below w.heap.size w w8 := hbw7.trans (hb8.mono hbw7.size)
      clear ho8 hb8
      go_wp2_with fail
      refine (same02_any w8 _ _ B7 B8 _ c7 c8 _ HE78.out HE8.out (by omega)).mono ?_
      rintro r w9 ⟨rfl, q9, rfl⟩
      have hb9 : Below w8.heap.size w8 (w8.drewN q9) := below_drewN (Below.refl _ _) q9
      have HIX9 := Lib.hid (HIX8.out.up hb9)
      have HIY9 := Lib.hid (HIY8.out.up hb9)
      have hbw9 : Below w.heap.size w (w8.drewN q9) := below_drewN hbw8 q9
      clear hb9
      generalize w8.drewN q9 = w9 at *
      go_wp2_with fail
      refine (igone_any w9 Fx bx (2 * n) x HIX9.out (by omega)).mono ?_
      rintro r w10 ⟨v10, rx, rfl, hrx, hox, hb10⟩
      obtain ⟨B10, c10, rfl⟩ := ownsRow_form hox
      have HSX := Lib.hid (show Strs w10 w10.heap.size B10 rx.length c10 rx from Cel.of_own hox)
      have HIY10 := Lib.hid (HIY9.out.up hb10)
      have hbw10 : Below w.heap.size w w10 := hbw9.trans (hb10.mono hbw9.size)
      have hrl := rising_length hrx
      have HRX := Lib.hid hrx
      clear hox hb10 hrx
      go_wp2_with fail
      refine (igone_any w10 Fy byy (2 * n) y HIY10.out (by omega)).mono ?_
      rintro r w11 ⟨v11, ry, rfl, hry, hoy, hb11⟩
      obtain rfl : ry = rx := rising_unique hry ⟨HRX.out.1, fun r => (HRX.out.2 r).trans (HSG.out r)⟩
      obtain ⟨B11, c11, rfl⟩ := ownsRow_form hoy
      have HSY := Lib.hid (show Strs w11 w11.heap.size B11 ry.length c11 ry from Cel.of_own hoy)
      have HSX11 := Lib.hid (show Strs w11 w11.heap.size B10 ry.length c10 ry from Cel.more (Cel.below HSX.out hb11) hb11.size)
      have hbw11 : Below w.heap.size w w11 := hbw10.trans (hb11.mono hbw10.size)
      clear hoy hb11 hry
      go_wp2_with fail
      refine (texts_any w11 _ _ B10 B11 _ c10 c11 _ HSX11.out HSY.out (by omega)).mono ?_
      rintro r w12 ⟨rfl, q12, rfl⟩
      have hbw12 : Below w.heap.size w (w11.drewN q12) := below_drewN hbw11 q12
      go_wp2
      go_ret
      exact ⟨rfl, hbw12⟩
end Go.Proofs.YtoljbbmjbgepiaaGreatDoor
