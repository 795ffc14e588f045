/-
  Layer 5, plain: what deeds leave of a journal at which nothing goes wrong.
-/
import Derived.Test.YtejjfhhppjdcaaaGreatDoorOJLives
import Derived.Test.YtejjfhhppjdcaaaGreatDoorOPerAsk
import Derived.Test.YtejjfhhppjdcaaaGreatDoorOEvEnc2
import Derived.Test.YtejjfhhppjdcaaaGreatDoorOJAsk
import Derived.Test.YtejjfhhppjdcaaaGreatDoorOJlLd0
namespace Go.Proofs.YtejjfhhppjdcaaaGreatDoor
open Go.RowKit Go.Maps Go.Sort

theorem nseg_auto {n p : Nat} (hp : 1 ≤ p) : (nseg n p - 1) * p = autoN n p := by
  unfold autoN
  split
  · next h => subst h; unfold nseg; rw [Nat.div_eq_of_lt (by omega)]; simp
  · next h =>
    obtain ⟨k, rfl⟩ := Nat.exists_eq_succ_of_ne_zero h
    rw [Nat.succ_eq_add_one, nseg_snoc hp]; simp
theorem autoN_mono {a b p : Nat} (h : a ≤ b) : autoN a p ≤ autoN b p := by
  unfold autoN
  split
  · exact Nat.zero_le _
  · rw [if_neg (by omega)]; exact Nat.mul_le_mul_right _ (Nat.div_le_div_right (by omega))
structure Jl.Good (j : Jl) : Prop where
  fine : j.Fine
  inv : j.Inv
  fc : j.files = nseg j.es.length j.per
  ok : j.dk.Ok
  sm : ∀ e, some e ∈ j.es → mayB e = true
theorem Jl.good_new (s : List UInt8) (per : Nat) (h : s.length ≤ 24) (hp : 1 ≤ per) : (Jl.new Dk.new s per).Good :=
  ⟨Jl.fine_new s per h hp, Jl.inv_new s per hp, by show 0 = nseg 0 per; unfold nseg; rw [Nat.div_eq_of_lt (by omega)], Dk.ok_new, by simp [Jl.new]⟩
theorem Jl.sync_ok {j : Jl} (h : j.dk.Ok) : j.sync.dk.Ok := by
  unfold Jl.sync
  split
  · exact h
  · split
    · exact h.sync _
    · exact h.sync _
theorem Jl.pre_ok {j : Jl} (h : j.dk.Ok) : j.pre.dk.Ok := by
  unfold Jl.pre
  split
  · exact Jl.sync_ok h
  · exact h
theorem Jl.put_ok {j : Jl} (h : j.dk.Ok) (x : Option Ev) : (j.put x).dk.Ok := by
  unfold Jl.put
  split
  · exact Jl.pre_ok h
  · split
    · exact (Jl.pre_ok h).append _ _
    · exact (Jl.pre_ok h).append _ _
section
variable {j : Jl}
theorem Jl.Good.auto (h : j.Good) : autoN j.es.length j.per ≤ j.lasts := by
  rw [← nseg_auto h.fine.per1, ← h.fc]; exact DInv.m0 h.inv
theorem Jl.Good.sync (h : j.Good) (hn : j.es.length < 100) : j.sync.Good ∧ j.syncE = 0 ∧ j.sync.es = j.es ∧ j.sync.name = j.name ∧ j.sync.per = j.per ∧ j.sync.lasts = j.es.length := by
  obtain ⟨a1, a2, a3, a4, a5, a6, a7⟩ := h.fine.sync hn
  obtain ⟨b1, b2⟩ := h.inv.sync h.fine hn
  refine ⟨⟨a1, b1, by rw [a6, a3, a5]; exact h.fc, Jl.sync_ok h.ok, by rw [a3]; exact h.sm⟩, a2, a3, a4, a5, ?_⟩
  rw [b2]
  split
  · next h0 =>
    have h1 := DInv.last h.inv
    have h2 := DInv.m1 h.inv
    rw [h0] at h1; omega
  · rfl
theorem Jl.Good.put (h : j.Good) (hn : j.es.length < 100) (e : Ev) (he : mayB e = true) :
    (j.put (some e)).Good ∧ j.putE (some e) = 0 ∧ (j.put (some e)).es = j.es ++ [some e] ∧ (j.put (some e)).name = j.name ∧ (j.put (some e)).per = j.per ∧ (j.put (some e)).lasts = max j.lasts (autoN (j.es.length + 1) j.per) := by
  have hx : (bytesE (some e)).length ≤ 1229 := (mayB_fit he).len
  obtain ⟨a1, a2, a3, a4, a5⟩ := h.fine.put hn (some e) hx
  obtain ⟨b1, b2, b3⟩ := h.inv.put h.fine hn (some e) hx
  refine ⟨⟨a1, b1, by rw [b3, a3, a5]; simp, Jl.put_ok h.ok _, fun x hx => ?_⟩, a2, a3, a4, a5, by rw [b2]; simp [autoN]⟩
  rw [a3] at hx
  rcases List.mem_append.1 hx with hx | hx
  · exact h.sm x hx
  · simp at hx; subst hx; exact he
end
theorem Jl.Good.puts (l : List Ev) : ∀ {j : Jl}, j.Good → j.es.length + l.length ≤ 100 → (∀ e ∈ l, mayB e = true) →
    (j.puts l).Good ∧ j.putsE l = 0 ∧ (j.puts l).es = j.es ++ l.map some ∧ (j.puts l).name = j.name ∧ (j.puts l).per = j.per ∧ (j.puts l).lasts = max j.lasts (autoN (j.es.length + l.length) j.per) := by
  induction l with
  | nil =>
    intro j h _ _
    have := h.auto
    exact ⟨h, rfl, by simp [Jl.puts], rfl, rfl, by simp [Jl.puts]; omega⟩
  | cons e l ih =>
    intro j h hn hl
    simp only [List.length_cons] at hn
    obtain ⟨h1, h2, h3, h4, h5, h6⟩ := h.put (by omega) e (hl e (by simp))
    obtain ⟨a, b, c, d, f, g⟩ := ih h1 (by rw [h3]; simp; omega) (fun x hx => hl x (by simp [hx]))
    have h0 : ¬ j.putE (some e) ≠ 0 := by simp [h2]
    simp only [Jl.puts, Jl.putsE, if_neg h0]
    refine ⟨a, b, ?_, d.trans h4, f.trans h5, ?_⟩
    · rw [c, h3]; simp
    · rw [g, h6, h3, h5]
      simp only [List.length_append, List.length_cons, List.length_nil]
      rw [show j.es.length + (0 + 1) + l.length = j.es.length + (l.length + 1) by omega]
      have := autoN_mono (p := j.per) (show j.es.length + 1 ≤ j.es.length + (l.length + 1) by omega)
      omega
/-! ### erasing -/
theorem bytesL_er (kb : Ev → Bool) : ∀ l : List (Option Ev), (bytesL (l.map (erE kb))).length ≤ (bytesL l).length
  | [] => Nat.le_refl _
  | x :: l => by
    have ih := bytesL_er kb l
    unfold bytesL at ih ⊢
    simp only [List.map_cons, List.flatMap_cons, List.length_append]
    have : (sealE (erE kb x)).length ≤ (sealE x).length := by
      unfold sealE
      rw [Frm.sealB_length, Frm.sealB_length]
      cases x with
      | none => exact Nat.le_refl _
      | some e =>
        unfold erE
        simp only
        split
        · exact Nat.le_refl _
        · simp [bytesE]
    omega
theorem erSeg_none {kb : Ev → Bool} {per k : Nat} {l : List (Option Ev)} (h : cntE kb (segL per k l) = 0) : erSeg kb per k l = l := by
  unfold erSeg
  rw [cntE_zero h, List.append_assoc, ← segL_succ, List.take_append_drop]
theorem erSeg_take (kb : Ev → Bool) (per k : Nat) (l : List (Option Ev)) (h : k * per ≤ l.length) : (erSeg kb per k l).take ((k + 1) * per) = l.take (k * per) ++ (segL per k l).map (erE kb) := by
  have hlen : (l.take (k * per) ++ (segL per k l).map (erE kb)).length = min ((k + 1) * per) l.length := by
    rw [List.length_append, List.length_take, List.length_map, segL_length, Nat.succ_mul]; omega
  unfold erSeg
  by_cases h4 : (k + 1) * per ≤ l.length
  · rw [List.take_append_of_le_length (by omega), List.take_of_length_le (by omega)]
  · rw [List.drop_eq_nil_of_le (by omega), List.append_nil, List.take_of_length_le (by omega)]
theorem erE_map_may {kb : Ev → Bool} {l : List (Option Ev)} {e : Ev} (h : some e ∈ l.map (erE kb)) : some e ∈ l := by
  obtain ⟨x, hx, hxe⟩ := List.mem_map.1 h
  cases x with
  | none => simp [erE] at hxe
  | some y =>
    simp only [erE] at hxe
    split at hxe
    · injection hxe with hxe; subst hxe; exact hx
    · cases hxe
section
variable {j : Jl}
theorem Jl.Good.segle (h : j.Good) {k : Nat} (hk : k < j.files) : k * j.per ≤ j.es.length := by
  have h1 := DInv.m0 h.inv
  have h2 := DInv.m1 h.inv
  have h3 : k * j.per ≤ (j.files - 1) * j.per := Nat.mul_le_mul_right _ (by omega)
  omega
theorem Jl.Good.rew1 (h : j.Good) (hn : j.es.length < 100) (kb : Ev → Bool) {k : Nat} (hk : k < j.files) :
    j.rew1E kb k = 0 ∧ (j.rew1 kb k).Good ∧ (j.rew1 kb k).es = erSeg kb j.per k j.es ∧ (j.rew1 kb k).lasts = if cntE kb (segL j.per k j.es) ≠ 0 ∧ k + 1 = j.files then j.es.length else j.lasts := by
  unfold Jl.rew1E Jl.rew1
  by_cases h0 : cntE kb (segL j.per k j.es) = 0
  · simp only [if_pos h0]
    exact ⟨trivial, h, (erSeg_none h0).symm, by rw [if_neg (by simp [h0])]⟩
  · simp only [if_neg h0]
    obtain ⟨st, hg, _⟩ := DInv.here h.inv k hk
    have hfs := h.fine.small
    have hl := segF_len j.name (k := k) (by omega)
    have hnm := h.fine.nm
    have ha : j.dk.asked (segF j.name k) = 0 := Dk.asked_fine h.fine.up hl.1 (by omega)
    have hfile : (j.dk.file (segF j.name k)).data = bytesL (segL j.per k j.es) := by unfold Dk.file; rw [hg]; rfl
    have hle := bytesL_er kb (segL j.per k j.es)
    have hu := h.fine.used
    have hf : j.dk.fullB (segF j.name k) ((bytesL ((segL j.per k j.es).map (erE kb))).length - (j.dk.file (segF j.name k)).data.length) = false := by
      unfold Dk.fullB
      rw [Bool.or_eq_false_iff]
      refine ⟨?_, by rw [hg]; rfl⟩
      rw [decide_eq_false_iff_not, hfile]; omega
    obtain ⟨e1, e2⟩ := Dk.repl_yes ha hf
    obtain ⟨s1, s2⟩ := Dk.step_dark h.fine.dark
    rw [s2, s1] at e1
    rw [s2] at e2
    simp only [if_true] at e1 e2
    have hok := h.ok.replace (segF j.name k) (bytesL ((segL j.per k j.es).map (erE kb)))
    rw [if_neg (by simp [e2])]
    rw [e1] at hok ⊢
    refine ⟨e2, ⟨⟨h.fine.dark, h.fine.up, h.fine.free, h.fine.per1, h.fine.nm, hok.used0, ?_, ?_, ?_, ?_⟩, ?_, ?_, hok, ?_⟩, rfl, ?_⟩
    · show j.dk.used + _ ≤ 1300 * ((erSeg kb j.per k j.es).length : Int)
      rw [erSeg_length, hfile]; omega
    · show (putB (segF j.name k) _ j.dk.files).length ≤ (erSeg kb j.per k j.es).length + 1
      rw [erSeg_length]
      exact Nat.le_trans (putB_length_here _ (by rw [hg]; rfl)) h.fine.fl
    · intro hf0
      show (getB (putB (segF j.name k) _ j.dk.files) (segF j.name (j.files - 1))).isSome = true
      by_cases e : k = j.files - 1
      · rw [← e, getB_put_same]; rfl
      · rw [getB_put_other _ _ (fun e' => e (segF_inj e').symm)]; exact h.fine.here hf0
    · show j.files ≤ (erSeg kb j.per k j.es).length + 1
      rw [erSeg_length]; exact h.fine.small
    · have := DInv.replace h.inv hk (erSeg_length kb j.per k j.es) (fun i hi => erSeg_other kb j.per k i j.es (h.segle hk) hi)
      rw [erSeg_seg _ _ _ _ (h.segle hk)] at this
      exact this
    · show j.files = nseg (erSeg kb j.per k j.es).length j.per
      rw [erSeg_length]; exact h.fc
    · intro e he
      have he : some e ∈ erSeg kb j.per k j.es := he
      unfold erSeg at he
      rcases List.mem_append.1 he with he | he
      · rcases List.mem_append.1 he with he | he
        · exact h.sm e (List.mem_of_mem_take he)
        · have := erE_map_may he
          exact h.sm e (List.mem_of_mem_drop (List.mem_of_mem_take this))
      · exact h.sm e (List.mem_of_mem_drop he)
    · show (if k + 1 = j.files then j.es.length else j.lasts) = _
      by_cases e : k + 1 = j.files <;> simp [e, h0]
end
theorem Jl.Good.rewF (kb : Ev → Bool) : ∀ (f : Nat) {j : Jl} (k all : Nat), j.Good → j.es.length < 100 → k + f = j.files →
    ∃ j', Jl.rewF kb f j k all = (j', all + cntE kb (j.es.drop (k * j.per)), 0) ∧ j'.Good ∧ j'.es = j.es.take (k * j.per) ++ (j.es.drop (k * j.per)).map (erE kb) ∧ j'.name = j.name ∧ j'.per = j.per ∧
      j'.lasts = if f ≠ 0 ∧ cntE kb (segL j.per (j.files - 1) j.es) ≠ 0 then j.es.length else j.lasts
  | 0, j, k, all, h, hn, hk => by
    have hd := DInv.last h.inv
    refine ⟨j, ?_, h, ?_, rfl, rfl, by simp⟩
    · rw [show k = j.files by omega, List.drop_eq_nil_of_le hd]; simp [Jl.rewF, cntE]
    · rw [show k = j.files by omega, List.drop_eq_nil_of_le hd, List.take_of_length_le hd]; simp
  | f + 1, j, k, all, h, hn, hk => by
    obtain ⟨a1, a2, a3, a4⟩ := h.rew1 hn kb (k := k) (by omega)
    have hs := Jl.rew1_same j kb k
    have hsl := h.segle (k := k) (by omega)
    obtain ⟨j', b1, b2, b3, b4, b5, b6⟩ := Jl.Good.rewF kb f (k + 1) (all + cntE kb (segL j.per k j.es)) a2 (by rw [hs.2.2.2]; exact hn) (by rw [hs.2.2.1]; omega)
    rw [a3, hs.2.1] at b3
    rw [a3, hs.2.1] at b1
    rw [a3, hs.2.1, hs.2.2.1, erSeg_length] at b6
    rw [erSeg_drop _ _ _ _ hsl] at b1 b3
    rw [erSeg_take _ _ _ _ hsl] at b3
    refine ⟨j', ?_, b2, ?_, b4.trans hs.1, b5.trans hs.2.1, ?_⟩
    · unfold Jl.rewF
      rw [if_neg (by simp [a1]), b1, segL_succ j.per k j.es, cntE, cntE, cntE, List.filter_append, List.length_append, Nat.add_assoc]
    · rw [b3, segL_succ j.per k j.es, List.map_append, List.append_assoc]
    · rw [b6, a4]
      by_cases e : f = 0
      · subst e
        rw [show j.files - 1 = k by omega]
        by_cases hc : cntE kb (segL j.per k j.es) = 0 <;> simp [hc, show k + 1 = j.files by omega]
      · rw [erSeg_other _ _ _ _ _ hsl (by omega), if_neg (show ¬ (cntE kb (segL j.per k j.es) ≠ 0 ∧ k + 1 = j.files) by omega)]
        simp [e]
/-- Rewrite of a journal at which nothing goes wrong -/
theorem Jl.Good.rewr {j : Jl} (h : j.Good) (hn : j.es.length < 100) (kb : Ev → Bool) :
    ∃ j', j.rewr kb = (j', cntE kb j.es, 0) ∧ j'.Good ∧ j'.es = j.es.map (erE kb) ∧ j'.name = j.name ∧ j'.per = j.per ∧ j'.lasts = if cntE kb (j.es.drop (autoN j.es.length j.per)) ≠ 0 then j.es.length else j.lasts := by
  obtain ⟨j', a1, a2, a3, a4, a5, a6⟩ := Jl.Good.rewF kb j.files 0 0 h hn (by omega)
  have hd := DInv.last h.inv
  refine ⟨j', ?_, a2, by simpa using a3, a4, a5, ?_⟩
  · unfold Jl.rewr
    rw [if_neg (by simp [h.fine.free]), ← h.fc, a1]; simp
  · rw [a6]
    by_cases h0 : j.files = 0
    · rw [h0] at hd
      have h1 := DInv.m1 h.inv
      have : j.es = [] := List.eq_nil_of_length_eq_zero (by omega)
      have hl0 : j.lasts = 0 := by rw [this] at h1; simpa using h1
      rw [if_neg (by simp [h0]), this]
      simp [cntE]
    · rw [← nseg_auto h.fine.per1, ← h.fc, segL_last _ (by rw [show j.files - 1 + 1 = j.files by omega]; exact hd)]
      simp [h0]
/-! ### a deed, deeds -/
def Jl.deed (j : Jl) (d : Dj) : Jl :=
  if d.kind = 0 ∨ d.kind = 1 then j.app d.l
  else if d.kind = 2 then j.syncA
  else if d.kind = 3 then (j.rewr (stayP d.per)).1
  else j
section
variable {j : Jl}
theorem Jl.Good.app (h : j.Good) {l : List Ev} (hn : j.es.length + l.length ≤ 100) (hl : l.all mayB = true) :
    (j.app l).Good ∧ j.appE l = 0 ∧ j.appN l = j.es.length ∧ (j.app l).es = j.es ++ l.map some ∧ (j.app l).name = j.name ∧ (j.app l).per = j.per ∧ (j.app l).lasts = max j.lasts (autoN (j.es.length + l.length) j.per) := by
  obtain ⟨a1, a2, a3, a4, a5, a6⟩ := Jl.Good.puts l h hn (fun e he => List.all_eq_true.1 hl e he)
  unfold Jl.app Jl.appE Jl.appN
  simp only [h.fine.free, ne_eq, not_true_eq_false, if_false, hl, if_true]
  exact ⟨a1, a2, trivial, a3, a4, a5, a6⟩
theorem Jl.Good.app_no (h : j.Good) {l : List Ev} (hl : l.all mayB = false) : j.app l = j ∧ j.appE l = 1 ∧ j.appN l = 0 := by
  unfold Jl.app Jl.appE Jl.appN
  simp only [h.fine.free, ne_eq, not_true_eq_false, if_false, hl, Bool.false_eq_true]
  exact ⟨trivial, trivial, trivial⟩
theorem Jl.Good.syncA (h : j.Good) (hn : j.es.length < 100) : j.syncA.Good ∧ j.syncAE = 0 ∧ j.syncA.es = j.es ∧ j.syncA.name = j.name ∧ j.syncA.per = j.per ∧ j.syncA.lasts = j.es.length := by
  unfold Jl.syncA Jl.syncAE
  simp only [h.fine.free, ne_eq, not_true_eq_false, if_false]
  exact h.sync hn
theorem Jl.Good.deed (h : j.Good) (d : Dj) (hn : j.es.length + d.l.length < 100) : (j.deed d).Good ∧ (j.deed d).es.length ≤ j.es.length + d.l.length ∧ (j.deed d).name = j.name ∧ (j.deed d).per = j.per := by
  unfold Jl.deed
  split
  · cases hl : d.l.all mayB
    · rw [(h.app_no hl).1]; exact ⟨h, by omega, rfl, rfl⟩
    · obtain ⟨a1, _, _, a4, a5, a6, _⟩ := h.app (by omega) hl
      exact ⟨a1, by rw [a4]; simp, a5, a6⟩
  · split
    · obtain ⟨a1, _, a3, a4, a5, _⟩ := h.syncA (by omega)
      exact ⟨a1, by rw [a3]; omega, a4, a5⟩
    · split
      · obtain ⟨j', e, a1, a2, a3, a4, _⟩ := h.rewr (by omega) (stayP d.per)
        rw [e]
        exact ⟨a1, by rw [a2, List.length_map]; omega, a3, a4⟩
      · exact ⟨h, by omega, rfl, rfl⟩
end
def Jl.deeds (j : Jl) (ds : List Dj) : Jl := ds.foldl Jl.deed j
theorem Jl.deeds_snoc (j : Jl) (ds : List Dj) (d : Dj) : j.deeds (ds ++ [d]) = (j.deeds ds).deed d := by simp [Jl.deeds]
theorem sumL_take (ds : List Dj) (k : Nat) : sumL (ds.take k) ≤ sumL ds := by
  have h : ds = ds.take k ++ ds.drop k := (List.take_append_drop k ds).symm
  have e : sumL ds = sumL (ds.take k) + sumL (ds.drop k) := by
    unfold sumL; rw [← List.sum_append, ← List.map_append, List.take_append_drop]
  omega
theorem Jl.Good.deeds {j : Jl} (h : j.Good) (he : j.es = []) : ∀ ds : List Dj, sumL ds < 100 → (j.deeds ds).Good ∧ (j.deeds ds).es.length ≤ sumL ds ∧ (j.deeds ds).name = j.name ∧ (j.deeds ds).per = j.per := by
  intro ds
  have key : ∀ (ds : List Dj) (j' : Jl) (m : Nat), j'.Good → j'.es.length ≤ m → m + sumL ds < 100 → (j'.deeds ds).Good ∧ (j'.deeds ds).es.length ≤ m + sumL ds ∧ (j'.deeds ds).name = j'.name ∧ (j'.deeds ds).per = j'.per := by
    intro ds
    induction ds with
    | nil => intro j' m h1 h2 _; exact ⟨h1, by simp [Jl.deeds, sumL]; exact h2, rfl, rfl⟩
    | cons d ds ih =>
      intro j' m h1 h2 h3
      have hs : sumL (d :: ds) = d.l.length + sumL ds := by simp [sumL]
      obtain ⟨a1, a2, a3, a4⟩ := h1.deed d (by omega)
      obtain ⟨b1, b2, b3, b4⟩ := ih (j'.deed d) (m + d.l.length) a1 (by omega) (by omega)
      exact ⟨b1, by rw [hs]; have : (j'.deeds (d :: ds)) = (j'.deed d).deeds ds := rfl; rw [this]; omega, b3.trans a3, b4.trans a4⟩
  intro hs
  have := key ds j 0 h (by rw [he]; exact Nat.le_refl _) (by omega)
  simpa using this
/-! ### its files -/
theorem Jl.Good.names {j : Jl} (h : j.Good) : Rising (j.dk.files.map (·.1)) (fileNs j.name (nseg j.es.length j.per)) := by
  rw [← h.fc]
  refine ⟨(keys_rising (DInv.up h.inv)).1, fun x => ⟨fun hx => ?_, fun hx => ?_⟩⟩
  · obtain ⟨p, hp, rfl⟩ := List.mem_map.1 hx
    obtain ⟨k, hk, e⟩ := DInv.only h.inv p hp
    exact List.mem_map.2 ⟨k, List.mem_range.2 hk, e.symm⟩
  · obtain ⟨k, hk, rfl⟩ := List.mem_map.1 hx
    obtain ⟨st, hg, _⟩ := DInv.here h.inv k (List.mem_range.1 hk)
    exact List.mem_map.2 ⟨_, getB_mem hg, rfl⟩
theorem Jl.Good.data {j : Jl} (h : j.Good) (hn : j.es.length < 90) {k : Nat} (hk : k < nseg j.es.length j.per) : j.dk.found (segF j.name k) = 0 ∧ (j.dk.file (segF j.name k)).data = bytesL (segL j.per k j.es) := by
  rw [← h.fc] at hk
  obtain ⟨st, hg, _⟩ := DInv.here h.inv k hk
  have hfs := h.fine.small
  have hl := segF_len j.name (k := k) (by omega)
  have hnm := h.fine.nm
  have ha : j.dk.asked (segF j.name k) = 0 := Dk.asked_fine h.fine.up hl.1 (by omega)
  refine ⟨?_, ?_⟩
  · unfold Dk.found; rw [if_neg (by simp [ha]), hg]; simp
  · unfold Dk.file; rw [hg]; rfl
end Go.Proofs.YtejjfhhppjdcaaaGreatDoor
