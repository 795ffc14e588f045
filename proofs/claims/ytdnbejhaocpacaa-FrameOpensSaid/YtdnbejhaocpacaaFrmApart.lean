/-
  Layer 3: the law FrameApart, walked.
-/
import Derived.Test.YtdnbejhaocpacaaFrmNew
namespace Go.Proofs.Ytdnbejhaocpacaa
open Go.RowKit

theorem sealB_inj {p q : List UInt8} (hp : p.length ≤ 65536) (hq : q.length ≤ 65536) (h : Frm.sealB p = Frm.sealB q) : p = q := by
  have h1 := Frm.openB_whole p [] hp
  have h2 := Frm.openB_whole q [] hq
  rw [h, h2] at h1
  exact (congrArg Prod.fst h1).symm
/-- v is a slice of slices of bytes of the call's own -/
def RowBs (w : World) (base : Nat) (v : Value) (ps : List (List UInt8)) : Prop := ∃ vs, w.ownsRow base 22 1 v vs.length vs ∧ OwnBs w base vs ps
theorem RowBs.below {w w' : World} {base B : Nat} {v : Value} {ps : List (List UInt8)} (h : RowBs w base v ps) (hb : Below B w w') (hB : w.heap.size ≤ B) : RowBs w' base v ps := by
  obtain ⟨vs, h1, h2⟩ := h
  exact ⟨vs, ownsRow_below h1 hb hB, h2.kept fun v p hv => hv.below hb hB⟩
theorem RowBs.drewN {w : World} {base : Nat} {v : Value} {ps : List (List UInt8)} (h : RowBs w base v ps) (k : Nat) : RowBs (w.drewN k) base v ps := h
theorem RowBs.form {w : World} {base : Nat} {v : Value} {ps : List (List UInt8)} (h : RowBs w base v ps) : ∃ A c, v = .slice A ps.length c ∧ ps.length ≤ c ∧ c ≤ maxLen := by
  obtain ⟨vs, h1, h2⟩ := h
  obtain ⟨A, c, e⟩ := ownsRow_form h1
  rw [h2.1] at e
  refine ⟨A, c, e, ?_⟩
  subst e
  have := Cel.of_own (n := ps.length) (by rw [h2.1] at h1; exact h1)
  exact ⟨this.cap, this.max⟩
theorem RowBs.at_ {w : World} {base : Nat} {A : Option Addr} {n c : Nat} {ps : List (List UInt8)} (h : RowBs w base (.slice A n c) ps) (k : Nat) (hk : k < ps.length) :
    ∃ g A' c', A = some ⟨g, 0, none⟩ ∧ w.cell? ⟨g, k, none⟩ = some (.slice A' ps[k].length c') ∧ Byt w w.heap.size A' ps[k].length c' ps[k] := by
  obtain ⟨vs, h1, h2⟩ := h
  have hkv : k < vs.length := by rw [h2.1]; exact hk
  have ho := h2.2 k vs[k] ps[k] (List.getElem?_eq_getElem hkv) (List.getElem?_eq_getElem hk)
  obtain ⟨A', c', e⟩ := ho.form
  rcases h1.2 with ⟨_, hl⟩ | ⟨g, cap, cur, ev, hb, hg, hr⟩
  · omega
  · injection ev with e1 e2 e3
    subst e1 e3
    refine ⟨g, A', c', rfl, ?_, ?_⟩
    · subst e2
      rw [World.ownsRow.cellAt h1 k (by omega), List.getElem?_eq_getElem hkv, e]
    · rw [e] at ho
      exact ho.byt

/-- as strings, however many draws there were -/
theorem strs {w : World} {B n c : Nat} {A : Option Addr} {l : List UInt8} (h : Byt w B A n c l) : ∀ k, (convert 22 9 (.slice A n c)).run Try.prog (w.drewN k) = .ok (.string ⟨l.toArray⟩) (w.drewN k) := fun k =>
  (h.drewN k).str (P := Try.prog) 22 5 9 Try.underlying22 Try.underlying5 Try.underlying9
theorem str0 {w : World} {B n c : Nat} {A : Option Addr} {l : List UInt8} (h : Byt w B A n c l) : (convert 22 9 (.slice A n c)).run Try.prog w = .ok (.string ⟨l.toArray⟩) w :=
  h.str (P := Try.prog) 22 5 9 Try.underlying22 Try.underlying5 Try.underlying9

set_option maxHeartbeats 2000000 in
set_option maxRecDepth 100000 in
theorem apart_any (w : World) (A : Option Addr) (n c : Nat) (p : List UInt8) (h : Byt w w.heap.size A n c p) (A' : Option Addr) (n' c' : Nat) (q : List UInt8) (h' : Byt w w.heap.size A' n' c' q)
    (Ar : Option Addr) (nr cr : Nat) (r : List UInt8) (hr : Byt w w.heap.size Ar nr cr r) :
    Calls Try.prog 9 #[.slice A n c, .slice A' n' c', .slice Ar nr cr] w (Says true w) := by
  have hmax := h.max
  have hcap := h.cap
  have hmax' := h'.max
  have hcap' := h'.cap
  have hmaxr := hr.max
  have hcapr := hr.cap
  unfold maxLen at hmax hmax' hmaxr
  have HH := Lib.hid h; clear h
  have HH' := Lib.hid h'; clear h'
  have HR := Lib.hid hr; clear hr
  go_enter Try.func9, Try.ntmps9
  go_wp2_with fail
  refine (awake_any w).mono ?_
  rintro e w1 ⟨rfl, hb1⟩
  by_cases hn : 3000 < n
  · go_wp2
    go_ret
    exact ⟨rfl, hb1⟩
  by_cases hn' : 3000 < n'
  · go_wp2
    go_ret
    exact ⟨rfl, hb1⟩
  by_cases hnr : 3000 < nr
  · go_wp2
    go_ret
    exact ⟨rfl, hb1⟩
  go_wp2_with fail
  refine (seal_any w1 A n c p ((HH.out.below hb1).more hb1.size) (by omega)).mono ?_
  rintro e w2 ⟨v, rfl, hown, hb2⟩
  have hbw2 : Below w.heap.size w w2 := hb1.trans (hb2.mono hb1.size)
  obtain ⟨A2, c2, hv⟩ := hown.form
  rw [Frm.sealB_length, HH.out.len] at hv
  subst hv
  have HB2 := Lib.hid hown.byt; clear hown
  go_wp2_with fail
  refine (seal_any w2 A' n' c' q ((HH'.out.below hbw2).more hbw2.size) (by omega)).mono ?_
  rintro e w3 ⟨v, rfl, hown, hb3⟩
  have hbw3 : Below w.heap.size w w3 := hbw2.trans (hb3.mono hbw2.size)
  obtain ⟨A3, c3, hv⟩ := hown.form
  subst hv
  have hst1 := str0 (HB2.out.below hb3)
  have hst2 := str0 hown.byt
  have hst3 := str0 (HH.out.below hbw3)
  have hst4 := str0 (HH'.out.below hbw3)
  clear hown
  have hiff : (Frm.sealB p == Frm.sealB q) = (p == q) := by
    rw [Bool.eq_iff_iff]
    simp only [beq_iff_eq]
    exact ⟨sealB_inj (by rw [HH.out.len]; omega) (by rw [HH'.out.len]; omega), fun e => by rw [e]⟩
  have HI := Lib.hid hiff; clear hiff
  have hx1 : (((n + 10 : Nat) : Int) != (n : Int) + 10) = false := by simp
  have hx2 : ((n : Int) + 10 != (n : Int) + 10) = false := by simp
  have hx3 : (!((Frm.sealB p == Frm.sealB q) == (p == q))) = false := by rw [HI.out]; simp
  go_wp2_with fail
  refine (all_any w3 Ar nr cr r ((HR.out.below hbw3).more hbw3.size) (by omega)).mono ?_
  clear hst1 hst2 hst3 hst4 hx1 hx2 hx3 HI
  rintro e w4 ⟨lv, vs, rfl, hrow, hbs, hb4⟩
  have hbw4 : Below w.heap.size w w4 := hbw3.trans (hb4.mono hbw3.size)
  have hRL : RowBs w4 w3.heap.size lv (Frm.allB r).1 := ⟨vs, hrow, hbs⟩
  clear hrow hbs
  obtain ⟨Al, cl, hlv, hlc, hlm⟩ := hRL.form
  subst hlv
  unfold maxLen at hlm
  have HRL := Lib.hid hRL; clear hRL
  have hb24 : Below w2.heap.size w2 w4 := hb3.trans (hb4.mono hb3.size)
  go_wp2_with (at_builtin; refine wpList_app8 rfl (.tmp 77) (.tmp 78) rfl w4.heap.size _ [] rfl ?c1 w2.heap.size _ _ _ (Frm.sealB p) rfl ?c2 ?c3 ?c4 ?_)
  case c1 => exact World.ownsRow_lit w4 #[] 0 (Nat.le_refl _) (by simp [maxLen]) rfl
  case c2 => exact (HB2.out.below hb24).alloc hb24.size _
  case c3 => simp; omega
  case c4 => simp
  intro v5 w5 hown5 hg5 _
  have hb5 : Below w4.heap.size w4 w5 := Below.grown ((Below.refl _ _).alloc (Nat.le_refl _) (Obj.cells #[] 5)) hg5 (by simp) (by intro k hk; simp [Value.ownBlock] at hk; omega)
  have hbw5 : Below w.heap.size w w5 := hbw4.trans (hb5.mono hbw4.size)
  have HO5 := Lib.hid hown5; clear hown5 hg5
  have hs5 := hb5.size
  go_wp2_with (at_builtin; refine wpList_app8 rfl (.tmp 79) (.tmp 80) rfl w4.heap.size _ (Frm.sealB p) rfl HO5.out w.heap.size _ _ _ r rfl (HR.out.below hbw5) ?c3 hs5 ?_)
  case c3 => rw [Frm.sealB_length, HH.out.len]; omega
  intro v6 w6 hown6 hg6 _
  have hb6 : Below w4.heap.size w4 w6 := Below.grown hb5 hg6 hs5 HO5.out.lt
  have hbw6 : Below w.heap.size w w6 := hbw4.trans (hb6.mono hbw4.size)
  obtain ⟨A6, c6, hv6⟩ := hown6.form
  rw [List.length_append, Frm.sealB_length, HH.out.len, HR.out.len] at hv6
  subst hv6
  have HB6 := Lib.hid hown6.byt; clear hown6 hg6
  go_wp2_with fail
  refine (all_any w6 _ _ _ _ HB6.out (by omega)).mono ?_
  rintro e w7 ⟨mv, vs, rfl, hrow, hbs, hb7⟩
  have hbw7 : Below w.heap.size w w7 := hbw6.trans (hb7.mono hbw6.size)
  have hb47 : Below w4.heap.size w4 w7 := hb6.trans (hb7.mono hb6.size)
  have hcons := Frm.allB_cons p r (by rw [HH.out.len]; omega)
  rw [hcons] at hbs ⊢
  have hRM : RowBs w7 w6.heap.size mv (p :: (Frm.allB r).1) := ⟨vs, hrow, hbs⟩
  have hRL7 : RowBs w7 w3.heap.size (.slice Al (Frm.allB r).1.length cl) (Frm.allB r).1 := HRL.out.below hb47 (Nat.le_refl _)
  clear hrow hbs hcons HRL
  obtain ⟨Am, cm, hmv, hmc, hmm⟩ := hRM.form
  subst hmv
  unfold maxLen at hmm
  dsimp only at *
  obtain ⟨hle1, hle2⟩ := Frm.allB_le r
  rw [HR.out.len] at hle1 hle2
  generalize hps : (Frm.allB r).1 = ps at *
  generalize hen : (Frm.allB r).2.1 = en at *
  generalize hst : (Frm.allB r).2.2 = st at *
  clear hps hen hst
  have hpl : p.length = n := HH.out.len
  rw [hpl]
  have HPL := Lib.hid hpl; clear hpl
  simp only [List.length_cons] at *
  obtain ⟨gm, A8, c8, rfl, hc8, hb8⟩ := hRM.at_ 0 (by simp)
  simp only [List.getElem_cons_zero] at hc8 hb8
  rw [HPL.out] at hc8 hb8
  have hs8 := strs hb8
  have hs9 := strs (HH.out.below hbw7)
  have HRM := Lib.hid hRM; clear hRM
  have HRL := Lib.hid hRL7; clear hRL7
  clear hb8
  have t1 : (((ps.length + 1 : Nat) : Int) != (ps.length : Int) + 1) = false := by simp
  have t1' : ((ps.length : Int) + 1 != (ps.length : Int) + 1) = false := by simp
  have t2 : (((6 + n + 4 + en : Nat) : Int) != (en : Int) + ((n : Int) + 10)) = false := by simp; omega
  have t2' : (6 + (n : Int) + 4 + (en : Int) != (en : Int) + ((n : Int) + 10)) = false := by simp; omega
  have t3 : ((st : Int) != (st : Int)) = false := by simp
  have t4 : (!(p == p)) = false := by simp
  have t5 : (0 : Int) < ((ps.length + 1 : Nat) : Int) := by omega
  go_wp2
  go_quiet (fail)
  go_wp2
  clear t1 t1' t2 t2' t3 t4 t5 hc8 hs8 hs9
  go_loopw [17] (fun i wr => ∃ k q : Nat, i = .int .i64 k ∧ k ≤ ps.length ∧ wr = w7.drewN q) (fun i _ => ps.length - (intOf i).toNat)
  case atStart => exact ⟨0, nq, rfl, Nat.zero_le _, rfl⟩
  case round =>
    obtain ⟨k, q, rfl, hk, rfl⟩ := hrel
    by_cases hkn : k < ps.length
    · obtain ⟨gl, A1, c1, rfl, hc1, hb1'⟩ := HRL.out.at_ k hkn
      obtain ⟨gm', A2', c2', e, hc2, hb2'⟩ := HRM.out.at_ (k + 1) (by simp; omega)
      simp only [Option.some.injEq, Addr.mk.injEq, and_true] at e
      subst e
      simp only [List.getElem_cons_succ] at hc2 hb2'
      have hs1 := strs hb1'
      have hs2 := strs hb2'
      clear hb1' hb2'
      generalize ps[k] = x at *
      have t1 : (k : Int) < (ps.length : Int) := by omega
      have t2 : (k : Int) + 1 < ((ps.length + 1 : Nat) : Int) := by omega
      have t2' : (k : Int) + 1 < (ps.length : Int) + 1 := by omega
      have t3 : ((k : Int) + 1).toNat = k + 1 := by omega
      have t4 : 0 ≤ (k : Int) + 1 := by omega
      have t5 : (!(x == x)) = false := by simp
      go_wp2
      go_quiet (fail)
      go_wp2
      go_roundw
      case rel => exact ⟨k + 1, _, by go_num, by omega, rfl⟩
      case measure => simp [intOf]; omega
    · go_wp2
      go_ret
      exact ⟨rfl, below_drewN hbw7 _⟩
end Go.Proofs.Ytdnbejhaocpacaa
