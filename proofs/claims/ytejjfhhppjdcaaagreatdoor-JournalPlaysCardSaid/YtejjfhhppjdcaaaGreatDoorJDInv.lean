/-
  Layer 5, plain: the files of a journal whose entries are known.
-/
import Derived.Test.YtejjfhhppjdcaaaGreatDoorJJlPlain
import Derived.Test.YtejjfhhppjdcaaaGreatDoorJDkOk
namespace Go.Proofs.YtejjfhhppjdcaaaGreatDoor
open Go.RowKit Go.Maps Go.Sort

/-- the bytes of entries -/
def bytesL (l : List (Option Ev)) : List UInt8 := l.flatMap sealE
theorem bytesL_append (a b : List (Option Ev)) : bytesL (a ++ b) = bytesL a ++ bytesL b := by simp [bytesL]
theorem segL_takeM {α : Type} (per i m : Nat) (l : List α) : segL per i (l.take m) = (segL per i l).take (m - i * per) := by
  unfold segL
  rw [List.drop_take, List.take_take, List.take_take, Nat.min_comm]
/-- the files are the segments of the entries L, of which the first m last -/
structure DInv (fs : Row Fl) (s : List UInt8) (per fc : Nat) (L : List (Option Ev)) (m : Nat) : Prop where
  up : RowUp fs
  here : ∀ k, k < fc → ∃ st, getB fs (segF s k) = some ⟨bytesL (segL per k L), (bytesL (segL per k (L.take m))).length, st⟩ ∧ (st = true ∨ (k + 1 = fc ∧ m ≤ k * per))
  only : ∀ p ∈ fs, ∃ k, k < fc ∧ p.1 = segF s k
  lo : nseg L.length per ≤ fc
  hi : fc ≤ L.length / per + 1
  m0 : (fc - 1) * per ≤ m
  m1 : m ≤ L.length
  per1 : 1 ≤ per
theorem DInv.new (s : List UInt8) (per : Nat) (h : 1 ≤ per) : DInv [] s per 0 [] 0 :=
  ⟨by simp [RowUp], fun k hk => by omega, by simp, by unfold nseg; rw [List.length_nil, Nat.div_eq_of_lt (by omega)]; exact Nat.le_refl _, by simp, by simp, by simp, h⟩
section
variable {fs : Row Fl} {s : List UInt8} {per fc m : Nat} {L : List (Option Ev)}
theorem DInv.below (h : DInv fs s per fc L m) {k : Nat} (hk : k + 1 < fc) : (k + 1) * per ≤ m := Nat.le_trans (Nat.mul_le_mul_right _ (by omega)) h.m0
theorem DInv.last (h : DInv fs s per fc L m) : L.length ≤ fc * per := Nat.le_trans (nseg_le h.per1) (Nat.mul_le_mul_right _ h.lo)
theorem DInv.sync (h : DInv fs s per fc L m) (h0 : fc ≠ 0) {f : Fl} (hf : getB fs (segF s (fc - 1)) = some f) :
    DInv (putB (segF s (fc - 1)) { f with lasts := f.data.length, stays := true } fs) s per fc L L.length := by
  refine ⟨putB_rising h.up _ _, fun k hk => ?_, fun p hp => ?_, h.lo, h.hi, Nat.le_trans h.m0 h.m1, Nat.le_refl _, h.per1⟩
  · rw [List.take_length]
    obtain ⟨st, hg, hst⟩ := h.here k hk
    by_cases e : k = fc - 1
    · subst e
      rw [hf] at hg
      injection hg with hg
      exact ⟨true, by rw [getB_put_same, hg], .inl rfl⟩
    · refine ⟨st, ?_, .inl (hst.resolve_right (by omega))⟩
      rw [getB_put_other _ _ (fun e' => e (segF_inj e')), hg, segL_take L (h.below (by omega))]
  · rcases putB_mem.1 hp with rfl | ⟨hp, _⟩
    · exact ⟨fc - 1, by omega, rfl⟩
    · exact h.only p hp
theorem DInv.none (h : DInv fs s per fc L m) {k : Nat} (hk : fc ≤ k) : getB fs (segF s k) = none := by
  cases hg : getB fs (segF s k) with
  | none => rfl
  | some f =>
    obtain ⟨k', hk', e⟩ := h.only _ (getB_mem hg)
    have := segF_inj e
    omega
theorem DInv.append (h : DInv fs s per fc L m) (hs : L.length % per = 0 → L.length ≤ m) (x : Option Ev) :
    DInv (putB (segF s (L.length / per)) { (getB fs (segF s (L.length / per))).getD Fl.none with data := ((getB fs (segF s (L.length / per))).getD Fl.none).data ++ sealE x } fs) s per (L.length / per + 1) (L ++ [x]) m := by
  have hp := h.per1
  have hdm := Nat.div_add_mod L.length per
  rw [Nat.mul_comm] at hdm
  have hml := Nat.mod_lt L.length (show per > 0 by omega)
  have hfc : fc = L.length / per + 1 ∨ (fc = L.length / per ∧ L.length % per = 0) := by
    have := h.hi
    have h2 := h.last
    by_cases e : fc = L.length / per + 1
    · exact .inl e
    · right
      have h3 : fc ≤ L.length / per := by omega
      have h4 : fc * per ≤ L.length / per * per := Nat.mul_le_mul_right _ h3
      have h5 : L.length % per = 0 := by omega
      refine ⟨?_, h5⟩
      rcases Nat.lt_or_ge fc (L.length / per) with h6 | h6
      · have : (fc + 1) * per ≤ L.length / per * per := Nat.mul_le_mul_right _ h6
        rw [Nat.succ_mul] at this; omega
      · omega
  have ht : (L ++ [x]).take m = L.take m := List.take_append_of_le_length h.m1
  have hsm : ∀ i, i < L.length / per → (i + 1) * per ≤ L.length := fun i hi => Nat.le_trans (Nat.mul_le_mul_right _ hi) (Nat.div_mul_le_self _ _)
  refine ⟨putB_rising h.up _ _, fun k hk => ?_, fun p hp' => ?_, ?_, ?_, ?_, ?_, hp⟩
  · rw [ht]
    by_cases e : k = L.length / per
    · subst e
      rw [getB_put_same, segL_snoc hp, bytesL_append]
      rcases hfc with e | ⟨e, e'⟩
      · obtain ⟨st, hg, hst⟩ := h.here (L.length / per) (by omega)
        refine ⟨st, ?_, ?_⟩
        · rw [hg]; simp [bytesL]
        · rcases hst with h1 | ⟨_, h1⟩
          · exact .inl h1
          · exact .inr ⟨rfl, h1⟩
      · rw [h.none (by omega)]
        have hn : L.length ≤ L.length / per * per := by omega
        refine ⟨false, ?_, .inr ⟨rfl, Nat.le_trans h.m1 hn⟩⟩
        rw [segL_nil _ _ _ hn, segL_nil per (L.length / per) (L.take m) (by simp; omega)]
        simp [bytesL, Fl.none]
    · have hk' : k < L.length / per := by omega
      rw [getB_put_other _ _ (fun e' => e (segF_inj e')), segL_append _ _ (hsm k hk')]
      obtain ⟨st, hg, hst⟩ := h.here k (by omega)
      refine ⟨st, hg, .inl (hst.resolve_right ?_)⟩
      rintro ⟨e1, e2⟩
      rcases hfc with e3 | ⟨e3, e4⟩
      · omega
      · have := hs e4
        have h8 : k * per + per = L.length / per * per := by rw [← Nat.succ_mul, ← e3, ← e1]
        omega
  · rcases putB_mem.1 hp' with rfl | ⟨hp', _⟩
    · exact ⟨_, by omega, rfl⟩
    · obtain ⟨k, hk, e⟩ := h.only p hp'
      exact ⟨k, by omega, e⟩
  · rw [List.length_append]; exact Nat.le_of_eq (nseg_snoc hp)
  · rw [List.length_append]
    have := Nat.div_le_div_right (c := per) (show L.length ≤ L.length + [x].length by omega)
    omega
  · rw [Nat.add_sub_cancel]
    rcases hfc with e | ⟨e, e'⟩
    · have := h.m0; rw [e, Nat.add_sub_cancel] at this; exact this
    · have := hs e'; omega
  · have := h.m1; simp; omega
/-- a segment is written anew, of as many entries -/
theorem DInv.replace (h : DInv fs s per fc L m) {k : Nat} (hk : k < fc) {L' : List (Option Ev)} (hl : L'.length = L.length) (hs : ∀ i, i ≠ k → segL per i L' = segL per i L) :
    DInv (putB (segF s k) ⟨bytesL (segL per k L'), (bytesL (segL per k L')).length, true⟩ fs) s per fc L' (if k + 1 = fc then L.length else m) := by
  refine ⟨putB_rising h.up _ _, fun i hi => ?_, fun p hp => ?_, hl ▸ h.lo, hl ▸ h.hi, ?_, ?_, h.per1⟩
  · by_cases e : i = k
    · subst e
      rw [getB_put_same]
      refine ⟨true, ?_, .inl rfl⟩
      split
      · rw [← hl, List.take_length]
      · rw [segL_take L' (h.below (by omega))]
    · rw [getB_put_other _ _ (fun e' => e (segF_inj e'))]
      obtain ⟨st, hg, hst⟩ := h.here i hi
      refine ⟨st, ?_, ?_⟩
      · rw [hg, hs i e]
        split
        · rw [segL_takeM, segL_takeM, hs i e, ← segL_takeM, ← segL_takeM, segL_take L (h.below (by omega)), List.take_length]
        · rw [segL_takeM, segL_takeM, hs i e]
      · rcases hst with h1 | ⟨h1, h2⟩
        · exact .inl h1
        · rw [if_neg (by omega)]; exact .inr ⟨h1, h2⟩
  · rcases putB_mem.1 hp with rfl | ⟨hp, _⟩
    · exact ⟨k, hk, rfl⟩
    · exact h.only p hp
  · split
    · exact Nat.le_trans h.m0 h.m1
    · exact h.m0
  · rw [hl]; split
    · exact Nat.le_refl _
    · exact h.m1
end
/-! ### the journal's own deeds -/
def Jl.Inv (j : Jl) : Prop := DInv j.dk.files j.name j.per j.files j.es j.lasts
theorem Jl.inv_new (s : List UInt8) (per : Nat) (h : 1 ≤ per) : (Jl.new Dk.new s per).Inv := DInv.new s per h
theorem Jl.Inv.sync {j : Jl} (h : j.Inv) (hf : j.Fine) (hn : j.es.length < 100) : j.sync.Inv ∧ j.sync.lasts = if j.files = 0 then j.lasts else j.es.length := by
  have key := hf.sync hn
  unfold Jl.syncE at key
  unfold Jl.sync at key ⊢
  by_cases h0 : j.files = 0
  · rw [if_pos h0, if_pos h0]; exact ⟨h, rfl⟩
  · simp only [if_neg h0] at key ⊢
    have hE := key.2.1
    simp only [hE, ne_eq, not_true_eq_false, if_false]
    obtain ⟨st, hg, _⟩ := h.here (j.files - 1) (by omega)
    have hfo : j.dk.found j.last = 0 := by
      refine Decidable.byContradiction fun hc => ?_
      unfold Dk.syncE at hE; rw [if_pos hc] at hE; exact hc hE
    have hd : (j.dk.sync j.last).files = putB j.last { j.dk.file j.last with lasts := (j.dk.file j.last).data.length, stays := true } j.dk.files := by
      have ⟨e1, e2⟩ := Dk.step_dark hf.dark
      unfold Dk.sync; rw [if_neg (by simp [hfo]), e2, e1]; rfl
    refine ⟨?_, by first | rfl | trivial⟩
    show DInv (j.dk.sync j.last).files j.name j.per j.files j.es j.es.length
    rw [hd]
    have hfile : j.dk.file j.last = ⟨bytesL (segL j.per (j.files - 1) j.es), (bytesL (segL j.per (j.files - 1) (j.es.take j.lasts))).length, st⟩ := by
      unfold Dk.file Jl.last; rw [hg]; rfl
    rw [hfile]
    exact DInv.sync h h0 hg
theorem Jl.Inv.pre {j : Jl} (h : j.Inv) (hf : j.Fine) (hn : j.es.length < 100) : j.pre.Inv ∧ j.pre.lasts = if j.es.length % j.per = 0 ∧ j.files ≠ 0 then j.es.length else j.lasts := by
  unfold Jl.pre
  by_cases h0 : j.es.length % j.per = 0
  · simp only [if_pos h0]
    have := h.sync hf hn
    refine ⟨this.1, this.2.trans ?_⟩
    by_cases h1 : j.files = 0 <;> simp [h0, h1]
  · simp only [if_neg h0]
    exact ⟨h, by simp [h0]⟩
theorem Jl.Inv.put {j : Jl} (h : j.Inv) (hf : j.Fine) (hn : j.es.length < 100) (x : Option Ev) (hx : (bytesE x).length ≤ 1229) :
    (j.put x).Inv ∧ (j.put x).lasts = max j.lasts (j.es.length / j.per * j.per) ∧ (j.put x).files = nseg (j.es.length + 1) j.per := by
  obtain ⟨hp, e0, e1, e2, e3, e4, e5⟩ := hf.pre hn
  obtain ⟨hi, hl⟩ := h.pre hf hn
  have hE := (hf.put hn x hx).2.1
  have hE' : j.pre.dk.appendE j.seg (sealE x) = 0 := by unfold Jl.putE at hE; rw [if_neg (by simp [e0])] at hE; exact hE
  have hput : j.put x = { j.pre with dk := j.pre.dk.append j.seg (sealE x), files := j.es.length / j.per + 1, es := j.es ++ [x] } := by
    unfold Jl.put
    rw [if_neg (by simp [e0]), if_neg (by simp [hE'])]
  have ha : j.pre.dk.asked j.seg = 0 := by
    refine Decidable.byContradiction fun hc => ?_
    unfold Dk.appendE at hE'; rw [if_pos hc] at hE'; exact hc hE'
  have hb : j.pre.dk.fullB j.seg (sealE x).length = false := by
    refine Bool.eq_false_iff.2 fun hc => ?_
    unfold Dk.appendE at hE'; rw [if_neg (by simp [ha]), hc] at hE'; simp at hE'
  have hd : (j.pre.dk.append j.seg (sealE x)).files = putB j.seg { j.pre.dk.file j.seg with data := (j.pre.dk.file j.seg).data ++ sealE x } j.pre.dk.files := by
    unfold Dk.append
    rw [if_neg (by simp [ha]), hb]
    simp only [Bool.false_eq_true, if_false]
    rw [(Dk.step_files _).1]; rfl
  have hi' : DInv j.pre.dk.files j.name j.per j.files j.es j.pre.lasts := by
    have := hi; unfold Jl.Inv at this; rw [e1, e2, e3, e4] at this; exact this
  have hdm := Nat.div_add_mod j.es.length j.per
  rw [Nat.mul_comm] at hdm
  have hlm : j.es.length % j.per = 0 → j.es.length ≤ j.pre.lasts := fun h0 => by
    rw [hl]
    by_cases h1 : j.files = 0
    · have := DInv.last h; rw [h1] at this; omega
    · rw [if_pos ⟨h0, h1⟩]; exact Nat.le_refl _
  have hm1 := DInv.m1 h
  refine ⟨?_, ?_, ?_⟩
  · rw [hput]
    show DInv (j.pre.dk.append j.seg (sealE x)).files j.pre.name j.pre.per (j.es.length / j.per + 1) (j.es ++ [x]) j.pre.lasts
    rw [hd, e2, e3]
    exact hi'.append hlm x
  · rw [hput]
    show j.pre.lasts = _
    rw [hl]
    by_cases h0 : j.es.length % j.per = 0
    · by_cases h1 : j.files = 0
      · have h2 := DInv.last h; rw [h1] at h2
        have : j.es.length = 0 := by omega
        rw [if_neg (by simp [h1])]; simp [this]
      · rw [if_pos ⟨h0, h1⟩]; omega
    · rw [if_neg (by simp [h0])]
      have h1 := DInv.m0 h
      have h2 : j.files = j.es.length / j.per + 1 := by
        have := DInv.hi h
        have h3 := DInv.last h
        rcases Nat.lt_or_ge j.files (j.es.length / j.per + 1) with h4 | h4
        · have h5 : j.files * j.per ≤ j.es.length / j.per * j.per := Nat.mul_le_mul_right _ (by omega)
          omega
        · omega
      rw [h2, Nat.add_sub_cancel] at h1
      omega
  · rw [hput]
    exact (nseg_snoc hf.per1).symm
end Go.Proofs.YtejjfhhppjdcaaaGreatDoor
