/-
  Layer 5, plain: the files of a journal whose entries are known.
  Layer 5, plain: entries are erased, segment by segment.
  copy at elements of several cells, into a row that is known whole.
  Layer 5: Rewrite's closure: which entries go.
-/
import Derived.Test.YtejjfhhppjdcaaaGreatDoorOJlPlain
import Derived.Test.YtejjfhhppjdcaaaGreatDoorODkOk
import Derived.Laws.CopyOwn
import Derived.Laws.NewBlocks
import Derived.Test.YtejjfhhppjdcaaaGreatDoorORJl1
import Derived.Test.YtejjfhhppjdcaaaGreatDoorODk9
import Derived.Deep.DeepCutAuto
namespace Go.Proofs.YtejjfhhppjdcaaaGreatDoor
open Go.RowKit Go.Maps Go.Sort

/-- the bytes of entries -/
def bytesL (l : List (Option Ev)) : List UInt8 := l.flatMap sealE
theorem bytesL_append (a b : List (Option Ev)) : bytesL (a ++ b) = bytesL a ++ bytesL b := by simp [bytesL]
theorem segL_takeM {α : Type} (per i m : Nat) (l : List α) : segL per i (l.take m) = (segL per i l).take (m - i * per) := by
  unfold segL
  rw [List.drop_take, List.take_take, List.take_take, Nat.min_comm]
/-- the files are the segments of the entries L, of which the first m last -/
structure DInv (fs : Row Fl) (s : List UInt8) (per fc : Nat) (L : List (Option Ev)) (m : Nat) : Prop where
  up : RowUp fs
  here : ∀ k, k < fc → ∃ st, getB fs (segF s k) = some ⟨bytesL (segL per k L), (bytesL (segL per k (L.take m))).length, st⟩ ∧ (st = true ∨ (k + 1 = fc ∧ m ≤ k * per))
  only : ∀ p ∈ fs, ∃ k, k < fc ∧ p.1 = segF s k
  lo : nseg L.length per ≤ fc
  hi : fc ≤ L.length / per + 1
  m0 : (fc - 1) * per ≤ m
  m1 : m ≤ L.length
  per1 : 1 ≤ per
theorem DInv.new (s : List UInt8) (per : Nat) (h : 1 ≤ per) : DInv [] s per 0 [] 0 :=
  ⟨by simp [RowUp], fun k hk => by omega, by simp, by unfold nseg; rw [List.length_nil, Nat.div_eq_of_lt (by omega)]; exact Nat.le_refl _, by simp, by simp, by simp, h⟩
section
variable {fs : Row Fl} {s : List UInt8} {per fc m : Nat} {L : List (Option Ev)}
theorem DInv.below (h : DInv fs s per fc L m) {k : Nat} (hk : k + 1 < fc) : (k + 1) * per ≤ m := Nat.le_trans (Nat.mul_le_mul_right _ (by omega)) h.m0
theorem DInv.last (h : DInv fs s per fc L m) : L.length ≤ fc * per := Nat.le_trans (nseg_le h.per1) (Nat.mul_le_mul_right _ h.lo)
theorem DInv.sync (h : DInv fs s per fc L m) (h0 : fc ≠ 0) {f : Fl} (hf : getB fs (segF s (fc - 1)) = some f) :
    DInv (putB (segF s (fc - 1)) { f with lasts := f.data.length, stays := true } fs) s per fc L L.length := by
  refine ⟨putB_rising h.up _ _, fun k hk => ?_, fun p hp => ?_, h.lo, h.hi, Nat.le_trans h.m0 h.m1, Nat.le_refl _, h.per1⟩
  · rw [List.take_length]
    obtain ⟨st, hg, hst⟩ := h.here k hk
    by_cases e : k = fc - 1
    · subst e
      rw [hf] at hg
      injection hg with hg
      exact ⟨true, by rw [getB_put_same, hg], .inl rfl⟩
    · refine ⟨st, ?_, .inl (hst.resolve_right (by omega))⟩
      rw [getB_put_other _ _ (fun e' => e (segF_inj e')), hg, segL_take L (h.below (by omega))]
  · rcases putB_mem.1 hp with rfl | ⟨hp, _⟩
    · exact ⟨fc - 1, by omega, rfl⟩
    · exact h.only p hp
theorem DInv.none (h : DInv fs s per fc L m) {k : Nat} (hk : fc ≤ k) : getB fs (segF s k) = none := by
  cases hg : getB fs (segF s k) with
  | none => rfl
  | some f =>
    obtain ⟨k', hk', e⟩ := h.only _ (getB_mem hg)
    have := segF_inj e
    omega
theorem DInv.append (h : DInv fs s per fc L m) (hs : L.length % per = 0 → L.length ≤ m) (x : Option Ev) :
    DInv (putB (segF s (L.length / per)) { (getB fs (segF s (L.length / per))).getD Fl.none with data := ((getB fs (segF s (L.length / per))).getD Fl.none).data ++ sealE x } fs) s per (L.length / per + 1) (L ++ [x]) m := by
  have hp := h.per1
  have hdm := Nat.div_add_mod L.length per
  rw [Nat.mul_comm] at hdm
  have hml := Nat.mod_lt L.length (show per > 0 by omega)
  have hfc : fc = L.length / per + 1 ∨ (fc = L.length / per ∧ L.length % per = 0) := by
    have := h.hi
    have h2 := h.last
    by_cases e : fc = L.length / per + 1
    · exact .inl e
    · right
      have h3 : fc ≤ L.length / per := by omega
      have h4 : fc * per ≤ L.length / per * per := Nat.mul_le_mul_right _ h3
      have h5 : L.length % per = 0 := by omega
      refine ⟨?_, h5⟩
      rcases Nat.lt_or_ge fc (L.length / per) with h6 | h6
      · have : (fc + 1) * per ≤ L.length / per * per := Nat.mul_le_mul_right _ h6
        rw [Nat.succ_mul] at this; omega
      · omega
  have ht : (L ++ [x]).take m = L.take m := List.take_append_of_le_length h.m1
  have hsm : ∀ i, i < L.length / per → (i + 1) * per ≤ L.length := fun i hi => Nat.le_trans (Nat.mul_le_mul_right _ hi) (Nat.div_mul_le_self _ _)
  refine ⟨putB_rising h.up _ _, fun k hk => ?_, fun p hp' => ?_, ?_, ?_, ?_, ?_, hp⟩
  · rw [ht]
    by_cases e : k = L.length / per
    · subst e
      rw [getB_put_same, segL_snoc hp, bytesL_append]
      rcases hfc with e | ⟨e, e'⟩
      · obtain ⟨st, hg, hst⟩ := h.here (L.length / per) (by omega)
        refine ⟨st, ?_, ?_⟩
        · rw [hg]; simp [bytesL]
        · rcases hst with h1 | ⟨_, h1⟩
          · exact .inl h1
          · exact .inr ⟨rfl, h1⟩
      · rw [h.none (by omega)]
        have hn : L.length ≤ L.length / per * per := by omega
        refine ⟨false, ?_, .inr ⟨rfl, Nat.le_trans h.m1 hn⟩⟩
        rw [segL_nil _ _ _ hn, segL_nil per (L.length / per) (L.take m) (by simp; omega)]
        simp [bytesL, Fl.none]
    · have hk' : k < L.length / per := by omega
      rw [getB_put_other _ _ (fun e' => e (segF_inj e')), segL_append _ _ (hsm k hk')]
      obtain ⟨st, hg, hst⟩ := h.here k (by omega)
      refine ⟨st, hg, .inl (hst.resolve_right ?_)⟩
      rintro ⟨e1, e2⟩
      rcases hfc with e3 | ⟨e3, e4⟩
      · omega
      · have := hs e4
        have h8 : k * per + per = L.length / per * per := by rw [← Nat.succ_mul, ← e3, ← e1]
        omega
  · rcases putB_mem.1 hp' with rfl | ⟨hp', _⟩
    · exact ⟨_, by omega, rfl⟩
    · obtain ⟨k, hk, e⟩ := h.only p hp'
      exact ⟨k, by omega, e⟩
  · rw [List.length_append]; exact Nat.le_of_eq (nseg_snoc hp)
  · rw [List.length_append]
    have := Nat.div_le_div_right (c := per) (show L.length ≤ L.length + [x].length by omega)
    omega
  · rw [Nat.add_sub_cancel]
    rcases hfc with e | ⟨e, e'⟩
    · have := h.m0; rw [e, Nat.add_sub_cancel] at this; exact this
    · have := hs e'; omega
  · have := h.m1; simp; omega
/-- a segment is written anew, of as many entries -/
theorem DInv.replace (h : DInv fs s per fc L m) {k : Nat} (hk : k < fc) {L' : List (Option Ev)} (hl : L'.length = L.length) (hs : ∀ i, i ≠ k → segL per i L' = segL per i L) :
    DInv (putB (segF s k) ⟨bytesL (segL per k L'), (bytesL (segL per k L')).length, true⟩ fs) s per fc L' (if k + 1 = fc then L.length else m) := by
  refine ⟨putB_rising h.up _ _, fun i hi => ?_, fun p hp => ?_, hl ▸ h.lo, hl ▸ h.hi, ?_, ?_, h.per1⟩
  · by_cases e : i = k
    · subst e
      rw [getB_put_same]
      refine ⟨true, ?_, .inl rfl⟩
      split
      · rw [← hl, List.take_length]
      · rw [segL_take L' (h.below (by omega))]
    · rw [getB_put_other _ _ (fun e' => e (segF_inj e'))]
      obtain ⟨st, hg, hst⟩ := h.here i hi
      refine ⟨st, ?_, ?_⟩
      · rw [hg, hs i e]
        split
        · rw [segL_takeM, segL_takeM, hs i e, ← segL_takeM, ← segL_takeM, segL_take L (h.below (by omega)), List.take_length]
        · rw [segL_takeM, segL_takeM, hs i e]
      · rcases hst with h1 | ⟨h1, h2⟩
        · exact .inl h1
        · rw [if_neg (by omega)]; exact .inr ⟨h1, h2⟩
  · rcases putB_mem.1 hp with rfl | ⟨hp, _⟩
    · exact ⟨k, hk, rfl⟩
    · exact h.only p hp
  · split
    · exact Nat.le_trans h.m0 h.m1
    · exact h.m0
  · rw [hl]; split
    · exact Nat.le_refl _
    · exact h.m1
end
/-! ### the journal's own deeds -/
def Jl.Inv (j : Jl) : Prop := DInv j.dk.files j.name j.per j.files j.es j.lasts
theorem Jl.inv_new (s : List UInt8) (per : Nat) (h : 1 ≤ per) : (Jl.new Dk.new s per).Inv := DInv.new s per h
theorem Jl.Inv.sync {j : Jl} (h : j.Inv) (hf : j.Fine) (hn : j.es.length < 100) : j.sync.Inv ∧ j.sync.lasts = if j.files = 0 then j.lasts else j.es.length := by
  have key := hf.sync hn
  unfold Jl.syncE at key
  unfold Jl.sync at key ⊢
  by_cases h0 : j.files = 0
  · rw [if_pos h0, if_pos h0]; exact ⟨h, rfl⟩
  · simp only [if_neg h0] at key ⊢
    have hE := key.2.1
    simp only [hE, ne_eq, not_true_eq_false, if_false]
    obtain ⟨st, hg, _⟩ := h.here (j.files - 1) (by omega)
    have hfo : j.dk.found j.last = 0 := by
      refine Decidable.byContradiction fun hc => ?_
      unfold Dk.syncE at hE; rw [if_pos hc] at hE; exact hc hE
    have hd : (j.dk.sync j.last).files = putB j.last { j.dk.file j.last with lasts := (j.dk.file j.last).data.length, stays := true } j.dk.files := by
      have ⟨e1, e2⟩ := Dk.step_dark hf.dark
      unfold Dk.sync; rw [if_neg (by simp [hfo]), e2, e1]; rfl
    refine ⟨?_, by first | rfl | trivial⟩
    show DInv (j.dk.sync j.last).files j.name j.per j.files j.es j.es.length
    rw [hd]
    have hfile : j.dk.file j.last = ⟨bytesL (segL j.per (j.files - 1) j.es), (bytesL (segL j.per (j.files - 1) (j.es.take j.lasts))).length, st⟩ := by
      unfold Dk.file Jl.last; rw [hg]; rfl
    rw [hfile]
    exact DInv.sync h h0 hg
theorem Jl.Inv.pre {j : Jl} (h : j.Inv) (hf : j.Fine) (hn : j.es.length < 100) : j.pre.Inv ∧ j.pre.lasts = if j.es.length % j.per = 0 ∧ j.files ≠ 0 then j.es.length else j.lasts := by
  unfold Jl.pre
  by_cases h0 : j.es.length % j.per = 0
  · simp only [if_pos h0]
    have := h.sync hf hn
    refine ⟨this.1, this.2.trans ?_⟩
    by_cases h1 : j.files = 0 <;> simp [h0, h1]
  · simp only [if_neg h0]
    exact ⟨h, by simp [h0]⟩
theorem Jl.Inv.put {j : Jl} (h : j.Inv) (hf : j.Fine) (hn : j.es.length < 100) (x : Option Ev) (hx : (bytesE x).length ≤ 1229) :
    (j.put x).Inv ∧ (j.put x).lasts = max j.lasts (j.es.length / j.per * j.per) ∧ (j.put x).files = nseg (j.es.length + 1) j.per := by
  obtain ⟨hp, e0, e1, e2, e3, e4, e5⟩ := hf.pre hn
  obtain ⟨hi, hl⟩ := h.pre hf hn
  have hE := (hf.put hn x hx).2.1
  have hE' : j.pre.dk.appendE j.seg (sealE x) = 0 := by unfold Jl.putE at hE; rw [if_neg (by simp [e0])] at hE; exact hE
  have hput : j.put x = { j.pre with dk := j.pre.dk.append j.seg (sealE x), files := j.es.length / j.per + 1, es := j.es ++ [x] } := by
    unfold Jl.put
    rw [if_neg (by simp [e0]), if_neg (by simp [hE'])]
  have ha : j.pre.dk.asked j.seg = 0 := by
    refine Decidable.byContradiction fun hc => ?_
    unfold Dk.appendE at hE'; rw [if_pos hc] at hE'; exact hc hE'
  have hb : j.pre.dk.fullB j.seg (sealE x).length = false := by
    refine Bool.eq_false_iff.2 fun hc => ?_
    unfold Dk.appendE at hE'; rw [if_neg (by simp [ha]), hc] at hE'; simp at hE'
  have hd : (j.pre.dk.append j.seg (sealE x)).files = putB j.seg { j.pre.dk.file j.seg with data := (j.pre.dk.file j.seg).data ++ sealE x } j.pre.dk.files := by
    unfold Dk.append
    rw [if_neg (by simp [ha]), hb]
    simp only [Bool.false_eq_true, if_false]
    rw [(Dk.step_files _).1]; rfl
  have hi' : DInv j.pre.dk.files j.name j.per j.files j.es j.pre.lasts := by
    have := hi; unfold Jl.Inv at this; rw [e1, e2, e3, e4] at this; exact this
  have hdm := Nat.div_add_mod j.es.length j.per
  rw [Nat.mul_comm] at hdm
  have hlm : j.es.length % j.per = 0 → j.es.length ≤ j.pre.lasts := fun h0 => by
    rw [hl]
    by_cases h1 : j.files = 0
    · have := DInv.last h; rw [h1] at this; omega
    · rw [if_pos ⟨h0, h1⟩]; exact Nat.le_refl _
  have hm1 := DInv.m1 h
  refine ⟨?_, ?_, ?_⟩
  · rw [hput]
    show DInv (j.pre.dk.append j.seg (sealE x)).files j.pre.name j.pre.per (j.es.length / j.per + 1) (j.es ++ [x]) j.pre.lasts
    rw [hd, e2, e3]
    exact hi'.append hlm x
  · rw [hput]
    show j.pre.lasts = _
    rw [hl]
    by_cases h0 : j.es.length % j.per = 0
    · by_cases h1 : j.files = 0
      · have h2 := DInv.last h; rw [h1] at h2
        have : j.es.length = 0 := by omega
        rw [if_neg (by simp [h1])]; simp [this]
      · rw [if_pos ⟨h0, h1⟩]; omega
    · rw [if_neg (by simp [h0])]
      have h1 := DInv.m0 h
      have h2 : j.files = j.es.length / j.per + 1 := by
        have := DInv.hi h
        have h3 := DInv.last h
        rcases Nat.lt_or_ge j.files (j.es.length / j.per + 1) with h4 | h4
        · have h5 : j.files * j.per ≤ j.es.length / j.per * j.per := Nat.mul_le_mul_right _ (by omega)
          omega
        · omega
      rw [h2, Nat.add_sub_cancel] at h1
      omega
  · rw [hput]
    exact (nseg_snoc hf.per1).symm
end Go.Proofs.YtejjfhhppjdcaaaGreatDoor
namespace Go.Proofs.YtejjfhhppjdcaaaGreatDoor
open Go.RowKit Go.Maps Go.Sort

/-- an entry behind an erasing -/
def erE (kb : Ev → Bool) : Option Ev → Option Ev
  | none => none
  | some e => if kb e then some e else none
def goesB (kb : Ev → Bool) : Option Ev → Bool
  | none => false
  | some e => !kb e
def cntE (kb : Ev → Bool) (l : List (Option Ev)) : Nat := (l.filter (goesB kb)).length
theorem erE_stays {kb : Ev → Bool} {x : Option Ev} (h : goesB kb x = false) : erE kb x = x := by
  cases x with
  | none => rfl
  | some e => simp only [goesB, Bool.not_eq_false'] at h; simp [erE, h]
theorem erE_goes {kb : Ev → Bool} {x : Option Ev} (h : goesB kb x = true) : erE kb x = none := by
  cases x with
  | none => simp [goesB] at h
  | some e => simp only [goesB, Bool.not_eq_true'] at h; simp [erE, h]
theorem cntE_snoc (kb : Ev → Bool) (l : List (Option Ev)) (x : Option Ev) : cntE kb (l ++ [x]) = cntE kb l + (if goesB kb x then 1 else 0) := by
  unfold cntE; rw [List.filter_append, List.length_append]
  cases h : goesB kb x <;> simp [h]
theorem cntE_zero {kb : Ev → Bool} {l : List (Option Ev)} (h : cntE kb l = 0) : l.map (erE kb) = l := by
  unfold cntE at h
  have h2 := List.eq_nil_of_length_eq_zero h
  rw [List.filter_eq_nil_iff] at h2
  have : ∀ x ∈ l, erE kb x = x := fun x hx => erE_stays (by simpa using h2 x hx)
  exact (List.map_congr_left this).trans (List.map_id _)
/-- segment k is erased in a row of entries -/
def erSeg (kb : Ev → Bool) (per k : Nat) (l : List (Option Ev)) : List (Option Ev) := l.take (k * per) ++ (segL per k l).map (erE kb) ++ l.drop ((k + 1) * per)
theorem erSeg_length (kb : Ev → Bool) (per k : Nat) (l : List (Option Ev)) : (erSeg kb per k l).length = l.length := by
  unfold erSeg
  simp only [List.length_append, List.length_take, List.length_map, segL_length, List.length_drop, Nat.succ_mul]
  omega
theorem erSeg_seg (kb : Ev → Bool) (per k : Nat) (l : List (Option Ev)) (h : k * per ≤ l.length) : segL per k (erSeg kb per k l) = (segL per k l).map (erE kb) := by
  have h1 : (l.take (k * per)).length = k * per := by rw [List.length_take]; omega
  have e : segL per k (erSeg kb per k l) = ((segL per k l).map (erE kb) ++ l.drop ((k + 1) * per)).take per := by
    unfold erSeg
    show List.take per (List.drop (k * per) _) = _
    rw [List.append_assoc, List.drop_append_of_le_length (by omega), List.drop_eq_nil_of_le (by omega), List.nil_append]
  rw [e]
  by_cases h2 : (k + 1) * per ≤ l.length
  · have h3 : ((segL per k l).map (erE kb)).length = per := by rw [List.length_map, segL_length]; rw [Nat.succ_mul] at h2; omega
    rw [List.take_append_of_le_length (by omega), List.take_of_length_le (by omega)]
  · rw [List.drop_eq_nil_of_le (by omega), List.append_nil, List.take_of_length_le (by rw [List.length_map]; exact segL_le _ _ _)]
theorem erSeg_other (kb : Ev → Bool) (per k i : Nat) (l : List (Option Ev)) (h : k * per ≤ l.length) (hi : i ≠ k) : segL per i (erSeg kb per k l) = segL per i l := by
  have hl := erSeg_length kb per k l
  rcases Nat.lt_or_ge i k with h1 | h1
  · have h2 : (i + 1) * per ≤ k * per := Nat.mul_le_mul_right _ h1
    have e : erSeg kb per k l = l.take (k * per) ++ ((segL per k l).map (erE kb) ++ l.drop ((k + 1) * per)) := by unfold erSeg; rw [List.append_assoc]
    rw [e, segL_append _ _ (by rw [List.length_take]; omega), segL_take _ h2]
  · have h2 : (k + 1) * per ≤ i * per := Nat.mul_le_mul_right _ (by omega)
    have h3 : (erSeg kb per k l).drop (i * per) = l.drop (i * per) := by
      by_cases h4 : (k + 1) * per ≤ l.length
      · have h5 : (l.take (k * per) ++ (segL per k l).map (erE kb)).length = (k + 1) * per := by
          rw [List.length_append, List.length_take, List.length_map, segL_length]; rw [Nat.succ_mul] at *; omega
        unfold erSeg
        rw [show i * per = (k + 1) * per + (i * per - (k + 1) * per) by omega, ← List.drop_drop, ← List.drop_drop, List.drop_left' h5]
      · rw [List.drop_eq_nil_of_le (by omega), List.drop_eq_nil_of_le (by omega)]
    unfold segL; rw [h3]
/-- one segment is written anew -/
def Jl.rew1 (j : Jl) (kb : Ev → Bool) (k : Nat) : Jl :=
  if cntE kb (segL j.per k j.es) = 0 then j
  else if j.dk.replaceE (segF j.name k) (bytesL ((segL j.per k j.es).map (erE kb))) ≠ 0 then { j with dk := j.dk.replace (segF j.name k) (bytesL ((segL j.per k j.es).map (erE kb))), stuck := j.dk.replaceE (segF j.name k) (bytesL ((segL j.per k j.es).map (erE kb))) }
  else { j with dk := j.dk.replace (segF j.name k) (bytesL ((segL j.per k j.es).map (erE kb))), es := erSeg kb j.per k j.es, lasts := if k + 1 = j.files then j.es.length else j.lasts }
def Jl.rew1E (j : Jl) (kb : Ev → Bool) (k : Nat) : Int :=
  if cntE kb (segL j.per k j.es) = 0 then 0 else j.dk.replaceE (segF j.name k) (bytesL ((segL j.per k j.es).map (erE kb)))
def Jl.rew1N (j : Jl) (kb : Ev → Bool) (k : Nat) : Nat := if j.rew1E kb k ≠ 0 then 0 else cntE kb (segL j.per k j.es)
theorem Jl.rew1_same (j : Jl) (kb : Ev → Bool) (k : Nat) : (j.rew1 kb k).name = j.name ∧ (j.rew1 kb k).per = j.per ∧ (j.rew1 kb k).files = j.files ∧ (j.rew1 kb k).es.length = j.es.length := by
  unfold Jl.rew1
  split
  · exact ⟨rfl, rfl, rfl, rfl⟩
  · split
    · exact ⟨rfl, rfl, rfl, rfl⟩
    · exact ⟨rfl, rfl, rfl, erSeg_length _ _ _ _⟩
/-- from a segment on, as many as there are -/
def Jl.rewF (kb : Ev → Bool) : Nat → Jl → Nat → Nat → Jl × Nat × Int
  | 0, j, _, all => (j, all, 0)
  | f + 1, j, k, all => if j.rew1E kb k ≠ 0 then (j.rew1 kb k, all, j.rew1E kb k) else Jl.rewF kb f (j.rew1 kb k) (k + 1) (all + cntE kb (segL j.per k j.es))
/-- Rewrite: the journal, how many are erased, what is wrong -/
def Jl.rewr (j : Jl) (kb : Ev → Bool) : Jl × Nat × Int := if j.stuck ≠ 0 then (j, 0, j.stuck) else Jl.rewF kb (nseg j.es.length j.per) j 0 0
end Go.Proofs.YtejjfhhppjdcaaaGreatDoor
namespace Go.Proofs.YtejjfhhppjdcaaaGreatDoor
open Go.RowKit

section
variable {P : Program}
theorem run_copy_k (w : World) (dT sT ty elem : TypeId) (size g o dLen dCap : Nat) (a : Addr) (sLen sCap : Nat) (cur : Array Value) (t : TypeId) (cs : List Value) (m : Nat)
    (hu : P.underlying dT = some (.slice elem)) (hs : (P.info? elem).map (·.size) = some size)
    (hg : w.heap[g]? = some (.cells cur t (0, 0))) (hm : m = Nat.min sLen dLen) (hn : cs.length = m * size)
    (hsrc : ∀ j v, cs[j]? = some v → w.cell? (a.add j) = some v) (hfit : o + cs.length ≤ cur.size) (h1 : ∀ v ∈ cs, v.oneCell' = true) :
    (Builtin.copy_ #[dT, sT] ty #[.slice (some ⟨g, o, none⟩) dLen dCap, .slice (some a) sLen sCap]).run P w =
      .ok (goInt m) (w.setRow g (cur.toList.take o ++ cs ++ cur.toList.drop (o + cs.length)).toArray) := by
  have hl := run_loadCells_list (P := P) w a cs hsrc
  have hst := run_storeCells_at P g o t cs 0 cur w hg (by simpa using hfit) h1
  rw [hn] at hl
  cases hq : P.info? elem with
  | none => simp [hq] at hs
  | some i =>
    have hi : i.size = size := by simpa [hq] using hs
    simp [Builtin.copy_, run_underlying hu, Builtin.lenOf, Builtin.firstCells, sizeOf, typeInfo, hq, hi, ← hm, hl, hst]

/-- what a copy leaves -/
structure Spliced (w w' : World) (g o : Nat) (cur : Array Value) (t : TypeId) (cs : List Value) : Prop where
  row : w'.heap[g]? = some (.cells (cur.toList.take o ++ cs ++ cur.toList.drop (o + cs.length)).toArray t (0, 0))
  size : w'.heap.size = w.heap.size
  grown : w.grownBy w' (some g)

theorem spliced_setRow (w : World) (g o : Nat) (cur : Array Value) (t : TypeId) (cs : List Value) (hg : w.heap[g]? = some (.cells cur t (0, 0))) :
    Spliced w (w.setRow g (cur.toList.take o ++ cs ++ cur.toList.drop (o + cs.length)).toArray) g o cur t cs :=
  ⟨setRow_heap w g cur _ t (0, 0) hg, by simp [World.setRow], ⟨rfl, rfl, rfl, by simp [World.setRow], fun k _ hk => setRow_other w g k _ (fun e => hk (by rw [e]))⟩⟩

theorem wpList_copy_k {w : World} {ops : Array Oper} {rest : List Oper} {o : Oper} {a : Act} {Q : Exit → Act → World → Prop} (hgd : o.guard = none) (d s : Operand) (dT sT : TypeId)
    (ho : o.op = .call { callee := .builtin .copy, args := #[d, s], argTypes := #[dT, sT] }) (elem : TypeId) (size : Nat) (hu : P.underlying dT = some (.slice elem)) (hsz : (P.info? elem).map (·.size) = some size)
    (g off dLen dCap : Nat) (ad : Addr) (sLen sCap : Nat) (hd : a.eval d = .slice (some ⟨g, off, none⟩) dLen dCap) (hs : a.eval s = .slice (some ad) sLen sCap)
    (cur : Array Value) (t : TypeId) (hg : w.heap[g]? = some (.cells cur t (0, 0))) (cs : List Value) (m : Nat) (hm : m = Nat.min sLen dLen) (hn : cs.length = m * size)
    (hsrc : ∀ j v, cs[j]? = some v → w.cell? (ad.add j) = some v) (hfit : off + cs.length ≤ cur.size) (h1 : ∀ v ∈ cs, v.oneCell' = true)
    (h : ∀ w', Spliced w w' g off cur t cs → wpList P ops Q rest (a.put o.dst (goInt m)) w') : wpList P ops Q (o :: rest) a w := by
  refine wpList_plain hgd fun K hK => ?_
  have hrun := run_copy_k (P := P) w dT sT o.type elem size g off dLen dCap ad sLen sCap cur t cs m hu hsz hg hm hn hsrc hfit h1
  unfold Oper.wp
  simp [execOp, ho, resolve, invoke, builtin, hd, hs, hrun, Result.andThen]
  have := spliced_setRow w g off cur t cs hg
  refine hK _ _ (h _ ?_)
  simpa using this

theorem step_copy_k {ops : Array Oper} {o : Oper} {a : Act} {w : World} {K : Act → World → Prop} {Q : Exit → Act → World → Prop} {E : Prop} (hgd : o.guard = none) (d s : Operand) (dT sT : TypeId)
    (ho : o.op = .call { callee := .builtin .copy, args := #[d, s], argTypes := #[dT, sT] }) (elem : TypeId) (size : Nat) (hu : P.underlying dT = some (.slice elem)) (hsz : (P.info? elem).map (·.size) = some size)
    (g off dLen dCap : Nat) (ad : Addr) (sLen sCap : Nat) (hd : a.eval d = .slice (some ⟨g, off, none⟩) dLen dCap) (hs : a.eval s = .slice (some ad) sLen sCap)
    (cur : Array Value) (t : TypeId) (hg : w.heap[g]? = some (.cells cur t (0, 0))) (cs : List Value) (m : Nat) (hm : m = Nat.min sLen dLen) (hn : cs.length = m * size)
    (hsrc : ∀ j v, cs[j]? = some v → w.cell? (ad.add j) = some v) (hfit : off + cs.length ≤ cur.size) (h1 : ∀ v ∈ cs, v.oneCell' = true)
    (h : ∀ w', Spliced w w' g off cur t cs → K (a.put o.dst (goInt m)) w') :
    if Region.wanted o (yielded ops a.tmps) = true then Oper.wp P o a w K Q else E := by
  have hw : Region.wanted o (yielded ops a.tmps) = true := by simp [Region.wanted, hgd]
  rw [if_pos hw]
  have hrun := run_copy_k (P := P) w dT sT o.type elem size g off dLen dCap ad sLen sCap cur t cs m hu hsz hg hm hn hsrc hfit h1
  unfold Oper.wp
  simp [execOp, ho, resolve, invoke, builtin, hd, hs, hrun, Result.andThen]
  have := spliced_setRow w g off cur t cs hg
  refine h _ ?_
  simpa using this
end
end Go.Proofs.YtejjfhhppjdcaaaGreatDoor
namespace Go.Proofs.YtejjfhhppjdcaaaGreatDoor
open Go.RowKit Go.Maps Go.Sort

/-- a closure that tells which events stay; I tells what it was asked of, and that its blocks are in H -/
structure Asker (F : Nat) (caps : Array Value) (kb : Ev → Bool) (I : List Ev → (Nat → Prop) → World → Prop) : Prop where
  enter : ∀ (args : Array Value) (w : World), (callFunc F args).run Tryz.prog w = .ok (.enter F args) w
  ask : ∀ (W : World) (aq : List Ev) (H : Nat → Prop) (e : Ev), aq.length ≤ 1000 → I aq H W → mayB e = true → Calls Tryz.prog F (#[e.agg] ++ caps) W fun r W' => r = .returned (.bool (kb e)) ∧ ∃ H', I (aq ++ [e]) H' W' ∧ (∀ b, H' b → H b ∨ W.heap.size ≤ b) ∧ Keep H W W'
  keep : ∀ aq H W W', I aq H W → W.heap.size ≤ W'.heap.size → (∀ b, H b → W'.heap[b]? = W.heap[b]?) → I aq H W'
  lt : ∀ aq H W, I aq H W → ∀ b, H b → b < W.heap.size
/-- a journal beside such a closure -/
structure Rw (I : List Ev → (Nat → Prop) → World → Prop) (fv : Value) (G F H : Nat → Prop) (bj bd bt : Nat) (v : Value) (j : Jl) (aq : List Ev) (W : World) : Prop where
  jl : JlAt W G F bj bd v j
  i : I aq H W
  c : W.cell? ⟨bt, 0, none⟩ = some fv
  mx : MaxAt W
  hg : ∀ b, H b → ¬ (G b ∨ F b)
  tg : ¬ (G bt ∨ F bt ∨ H bt)
  ml : ¬ (G 1 ∨ F 1 ∨ H 1)
section
variable {I : List Ev → (Nat → Prop) → World → Prop} {fv : Value} {kb : Ev → Bool} {f : Nat} {caps : Array Value} {G F H : Nat → Prop} {bj bd bt : Nat} {v : Value} {j : Jl} {aq : List Ev} {W W' : World}
theorem Rw.blt (h : Rw I fv G F H bj bd bt v j aq W) : bt < W.heap.size := World.block_lt_of_cell? W ⟨bt, 0, none⟩ h.c
theorem Rw.up (hk : Asker f caps kb I) (h : Rw I fv G F H bj bd bt v j aq W) (hb : Below W.heap.size W W') : Rw I fv G F H bj bd bt v j aq W' :=
  ⟨h.jl.up hb, hk.keep _ _ _ _ h.i hb.size fun b hh => hb.block b (hk.lt _ _ _ h.i b hh), (hb.cell (p := ⟨bt, 0, none⟩) h.blt).trans h.c, h.mx.up hb, h.hg, h.tg, h.ml⟩
theorem MaxAt.kp {F : Nat → Prop} {w w' : World} (h : MaxAt w) (hk : Keep F w w') (hn : ¬ F 1) : MaxAt w' := by
  obtain ⟨m, hm⟩ := h; exact ⟨m, (hk.cell (p := ⟨1, 0, none⟩) (MaxAt.lt ⟨m, hm⟩) hn).trans hm⟩
/-- the closure was asked -/
theorem Rw.asked {H' : Nat → Prop} {aq' : List Ev} (h : Rw I fv G F H bj bd bt v j aq W) (hi : I aq' H' W') (hH : ∀ b, H' b → H b ∨ W.heap.size ≤ b) (hk : Keep H W W') : Rw I fv G F H' bj bd bt v j aq' W' := by
  have hjl : ∀ b, G b ∨ F b → b < W.heap.size := fun b hb => hb.elim (h.jl.dk.lt b) (h.jl.lt b)
  refine ⟨h.jl.keep hk.size fun b hb => hk.block b (hjl b hb) (fun hh => h.hg b hh hb), hi, (hk.cell (p := ⟨bt, 0, none⟩) h.blt (fun hh => h.tg (.inr (.inr hh)))).trans h.c, h.mx.kp hk (fun hh => h.ml (.inr (.inr hh))), fun b hb hg => ?_, fun hb => ?_, fun hb => ?_⟩
  · rcases hH b hb with hh | hh
    · exact h.hg b hh hg
    · have := hjl b hg; omega
  · rcases hb with hb | hb | hb
    · exact h.tg (.inl hb)
    · exact h.tg (.inr (.inl hb))
    · rcases hH _ hb with hh | hh
      · exact h.tg (.inr (.inr hh))
      · have := h.blt; omega
  · rcases hb with hb | hb | hb
    · exact h.ml (.inl hb)
    · exact h.ml (.inr (.inl hb))
    · rcases hH _ hb with hh | hh
      · exact h.ml (.inr (.inr hh))
      · have := h.mx.lt; omega
def GoesPost (I : List Ev → (Nat → Prop) → World → Prop) (fv : Value) (G F H : Nat → Prop) (bj bd bt : Nat) (v : Value) (j : Jl) (aq : List Ev) (W : World) (b : Bool) (r : Ending) (W' : World) : Prop :=
  r = .returned (.bool b) ∧ ∃ H', Rw I fv G F H' bj bd bt v j aq W' ∧ (∀ b, H' b → H b ∨ W.heap.size ≤ b) ∧ Keep H W W'
set_option maxRecDepth 100000 in
set_option maxHeartbeats 2000000 in
theorem goes_any (hk : Asker f caps kb I) (hfv : fv = .func (.func f) #[] caps) (h : Rw I fv G F H bj bd bt v j aq W) (haq : aq.length ≤ 1000) (x : Option Ev) (hx : ∀ e, x = some e → mayB e = true) :
    Calls Tryz.prog 81 #[entAgg x, .pointer (some ⟨bt, 0, none⟩)] W (GoesPost I fv G F H bj bd bt v j (aq ++ x.toList) W (goesB kb x)) := by
  have hb0 : Below W.heap.size W (W.alloc (entObj x)) := (Below.refl _ _).alloc (Nat.le_refl _) _
  have HB0 := Lib.hid hb0
  have h1 := h.up hk hb0
  have H1 := Lib.hid h1
  obtain ⟨f0, f1, f2, f3, f4, f5, f6, f7, f8⟩ := EntIn.new W x
  have ct := h1.c
  rw [hfv] at ct
  have hcall := hk.enter
  have HAS := Lib.hid hk.ask
  have HAQ := Lib.hid haq
  have HX := Lib.hid hx
  have HH := Lib.hid h
  have hagg : ∀ e : Ev, e.agg = .agg #[.string ⟨e.src.toArray⟩, .int .i64 e.num, .int .i64 e.at_, .int .i64 e.kind, .string ⟨e.per.toArray⟩, .string ⟨e.item.toArray⟩, .int .i64 e.val, .string ⟨e.text.toArray⟩] := fun _ => rfl
  have HAG := Lib.hid hagg
  have hsz : W.heap.size ≤ (W.alloc (entObj x)).heap.size := HB0.out.size
  clear h h1 hx hb0 hk hagg haq
  go_enter Tryz.func81, Tryz.ntmps81
  go_upto_region 1 with fail
  generalize W.alloc (entObj x) = w1 at *
  cases x with
  | none =>
    have HR := Lib.hid (show GoesPost I fv G F H bj bd bt v j (aq ++ (none : Option Ev).toList) W (goesB kb none) (.returned (.bool false)) w1 from ⟨rfl, H, by rw [Option.toList_none, List.append_nil]; exact H1.out, fun _ h => .inl h, Keep.of_below HB0.out⟩)
    simp only [Option.isNone_none] at f8
    clear f0 f1 f2 f3 f4 f5 f6 f7
    go_wp2
    go_ret
    exact HR.out
  | some e =>
    simp only [entE, Option.getD_some, Option.isNone_some] at f0 f1 f2 f3 f4 f5 f6 f7 f8
    have HC := Lib.hid (HAS.out w1 aq H e HAQ.out H1.out.i (HX.out e rfl))
    rw [HAG.out] at HC
    have HFIN := Lib.hid (show ∀ W' H', I (aq ++ [e]) H' W' → (∀ b, H' b → H b ∨ w1.heap.size ≤ b) → Keep H w1 W' → GoesPost I fv G F H bj bd bt v j (aq ++ (some e).toList) W (goesB kb (some e)) (.returned (.bool (!kb e))) W' from fun W' H' hi hH hkp => by
      refine ⟨rfl, H', H1.out.asked hi hH hkp, fun b hb => (hH b hb).imp id (fun h => by omega), (Keep.of_below HB0.out).trans hkp (fun _ _ h => h)⟩)
    go_wp2_with fail
    with_reducible refine HC.out.mono ?_
    rintro r w2 ⟨rfl, H', hi, hH, hkp⟩
    have HR := Lib.hid (HFIN.out w2 H' hi hH hkp)
    clear hi hH hkp f0 f1 f2 f3 f4 f5 f6 f7 f8 ct hcall
    generalize kb e = q at *
    go_wp2
    go_ret
    exact HR.out
end
end Go.Proofs.YtejjfhhppjdcaaaGreatDoor
