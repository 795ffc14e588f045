/-
  Layer 5, plain: a journal on a disk with a fuse.
-/
import Derived.Test.YtejjfhhppjdcaaaGreatDoorOJGood
import Derived.Test.YtejjfhhppjdcaaaGreatDoorOJlRw1
namespace Go.Proofs.YtejjfhhppjdcaaaGreatDoor
open Go.RowKit Go.Maps Go.Sort

/-- the same disk without a fuse -/
def Dk.dim (d : Dk) : Dk := { d with lit := false, fuse := 0 }
def Dk.dead (d : Dk) : Dk := { d with down := true }
section
variable {d : Dk} {s b : List UInt8}
theorem Dk.step_dim (h : d.stepB = true) : d.step.dim = d.dim := by
  unfold Dk.step Dk.dim
  unfold Dk.stepB at h
  cases hl : d.lit
  · simp
  · rw [hl] at h
    simp at h
    simp [h]
theorem Dk.step_dead (h : d.stepB = false) : d.step = d.dead := by
  unfold Dk.step Dk.dead
  unfold Dk.stepB at h
  simp at h
  rw [if_pos h.1, if_pos h.2]
theorem Dk.dim_step (d : Dk) : d.dim.step = d.dim ∧ d.dim.stepB = true := ⟨rfl, rfl⟩
theorem Dk.dim_asked (d : Dk) (s : List UInt8) : d.dim.asked s = d.asked s := rfl
theorem Dk.dim_found (d : Dk) (s : List UInt8) : d.dim.found s = d.found s := rfl
theorem Dk.dim_full (d : Dk) (s : List UInt8) (m : Int) : d.dim.fullB s m = d.fullB s m := rfl
theorem Dk.put_dim (d : Dk) (s : List UInt8) (f : Fl) : (d.put s f).dim = d.dim.put s f := rfl
theorem Dk.put_dimU (d : Dk) (s : List UInt8) (f : Fl) (u : Int) : ({ d.put s f with used := u } : Dk).dim = { d.dim.put s f with used := u } := rfl
theorem Dk.step_put (d : Dk) (s : List UInt8) (f : Fl) : (d.step.put s f).files = putB s f d.files := by
  show putB s f d.step.files = _
  rw [d.step_files.1]
/-- Sync of a disk with a fuse -/
theorem Dk.sync_out (h : d.dim.syncE s = 0) : (d.syncE s = 0 ∧ (d.sync s).dim = d.dim.sync s) ∨ (d.syncE s = 8 ∧ d.sync s = d.dead) := by
  have hf : d.found s = 0 := by
    refine Decidable.byContradiction fun hc => ?_
    unfold Dk.syncE at h
    rw [Dk.dim_found, if_pos hc] at h; exact hc h
  cases hb : d.stepB
  · right
    refine ⟨?_, ?_⟩
    · unfold Dk.syncE
      rw [if_neg (fun hc => hc hf), hb]; rfl
    · unfold Dk.sync
      rw [if_neg (fun hc => hc hf), hb, Dk.step_dead hb]; rfl
  · left
    refine ⟨?_, ?_⟩
    · unfold Dk.syncE
      rw [if_neg (fun hc => hc hf), hb]; rfl
    · have e2 : d.sync s = d.step.put s { d.file s with lasts := (d.file s).data.length, stays := true } := by
        unfold Dk.sync; rw [if_neg (fun hc => hc hf), if_pos hb]
      have e3 : d.dim.sync s = d.dim.put s { d.file s with lasts := (d.file s).data.length, stays := true } := by
        unfold Dk.sync; rw [if_neg (fun hc => hc hf), if_pos (d.dim_step).2]; rfl
      rw [e2, e3, Dk.put_dim, Dk.step_dim hb]
theorem Dk.append_out (h : d.dim.appendE s b = 0) : (d.appendE s b = 0 ∧ (d.append s b).dim = d.dim.append s b) ∨ (d.appendE s b = 8 ∧ (d.append s b).files = (d.dim.append s b).files) := by
  have ha : d.asked s = 0 := by
    refine Decidable.byContradiction fun hc => ?_
    unfold Dk.appendE at h
    rw [Dk.dim_asked, if_pos hc] at h; exact hc h
  have hf : d.fullB s b.length = false := by
    refine Bool.eq_false_iff.2 fun hc => ?_
    unfold Dk.appendE at h
    rw [Dk.dim_asked, if_neg (by simp [ha]), Dk.dim_full, hc] at h; simp at h
  obtain ⟨e1, e2⟩ := Dk.append_yes ha hf
  obtain ⟨f1, f2⟩ := Dk.append_yes (d := d.dim) ha hf
  have hd : (d.dim.added s b).step = (d.added s b).dim := rfl
  rw [e1, e2, f1, hd]
  cases hb : (d.added s b).stepB
  · right
    rw [Dk.step_dead hb]; exact ⟨rfl, rfl⟩
  · left
    exact ⟨rfl, Dk.step_dim hb⟩
theorem Dk.replace_out (h : d.dim.replaceE s b = 0) : (d.replaceE s b = 0 ∧ (d.replace s b).dim = d.dim.replace s b) ∨ (d.replaceE s b = 8 ∧ d.replace s b = d.dead) := by
  have ha : d.asked s = 0 := by
    refine Decidable.byContradiction fun hc => ?_
    unfold Dk.replaceE at h
    rw [Dk.dim_asked, if_pos hc] at h; exact hc h
  have hf : d.fullB s (b.length - (d.file s).data.length) = false := by
    refine Bool.eq_false_iff.2 fun hc => ?_
    unfold Dk.replaceE at h
    rw [Dk.dim_asked, if_neg (by simp [ha]), Dk.dim_full, show d.dim.file s = d.file s from rfl, hc] at h; simp at h
  obtain ⟨e1, e2⟩ := Dk.repl_yes ha hf
  obtain ⟨f1, f2⟩ := Dk.repl_yes (d := d.dim) ha hf
  cases hb : d.stepB
  · right
    rw [hb] at e1 e2
    rw [e1, e2, Dk.step_dead hb]; exact ⟨rfl, rfl⟩
  · left
    rw [hb] at e1 e2
    rw [(d.dim_step).1, (d.dim_step).2] at f1
    refine ⟨by rw [e2]; rfl, ?_⟩
    rw [e1, f1]
    simp only [if_true]
    rw [Dk.put_dimU, Dk.step_dim hb]; rfl
end
def Jl.dim (j : Jl) : Jl := { j with dk := j.dk.dim }
def Jl.dead (j : Jl) : Jl := { j with dk := j.dk.dead, stuck := 8 }
section
variable {j : Jl}
theorem Jl.sync_out (h : j.dim.syncE = 0) : (j.syncE = 0 ∧ j.sync.dim = j.dim.sync) ∨ (j.syncE = 8 ∧ j.sync = j.dead) := by
  unfold Jl.syncE at h ⊢
  unfold Jl.sync
  by_cases h0 : j.files = 0
  · left
    have h0' : j.dim.files = 0 := h0
    simp only [if_pos h0, if_pos h0']
    exact ⟨trivial, trivial⟩
  · have h0' : j.dim.files ≠ 0 := h0
    simp only [if_neg h0, if_neg h0'] at h ⊢
    have hl : j.dim.last = j.last := rfl
    rw [hl] at h ⊢
    have h : j.dk.dim.syncE j.last = 0 := h
    rcases Dk.sync_out h with ⟨a, b⟩ | ⟨a, b⟩
    · left
      refine ⟨a, ?_⟩
      rw [if_neg (by simp [a]), if_neg (show ¬ j.dim.dk.syncE j.last ≠ 0 from fun hc => hc h)]
      show (⟨(j.dk.sync j.last).dim, _, _, _, _, _, _⟩ : Jl) = _
      rw [b]; rfl
    · right
      refine ⟨a, ?_⟩
      rw [if_pos (by simp [a]), a, b]; rfl
theorem Jl.pre_out (h : j.dim.preE = 0) : (j.preE = 0 ∧ j.pre.dim = j.dim.pre) ∨ (j.preE = 8 ∧ j.pre = j.dead) := by
  unfold Jl.preE at h ⊢
  unfold Jl.pre
  by_cases h0 : j.es.length % j.per = 0
  · have h0' : j.dim.es.length % j.dim.per = 0 := h0
    simp only [if_pos h0, if_pos h0'] at h ⊢
    exact Jl.sync_out h
  · have h0' : ¬ j.dim.es.length % j.dim.per = 0 := h0
    simp only [if_neg h0, if_neg h0'] at h ⊢
    exact .inl ⟨trivial, trivial⟩
/-- put on a disk with a fuse: as without, or the disk goes down, the entry being there or not -/
theorem Jl.put_out {x : Option Ev} (h : j.dim.putE x = 0) : (j.putE x = 0 ∧ (j.put x).dim = j.dim.put x) ∨
    (j.putE x = 8 ∧ (j.put x).stuck = 8 ∧ (j.put x).es = j.es ∧ (j.put x).name = j.name ∧ (j.put x).per = j.per ∧
      (((j.put x).dk.files = j.dk.files ∧ (j.put x).lasts = j.lasts) ∨ ((j.put x).dk.files = (j.dim.put x).dk.files ∧ (j.put x).lasts = (j.dim.put x).lasts))) := by
  have hp : j.dim.preE = 0 := by
    refine Decidable.byContradiction fun hc => ?_
    unfold Jl.putE at h; rw [if_pos hc] at h; exact hc h
  have ha : j.dim.pre.dk.appendE j.seg (sealE x) = 0 := by
    unfold Jl.putE at h; rw [if_neg (by simp [hp])] at h; exact h
  have hdim : j.dim.put x = { j.dim.pre with dk := j.dim.pre.dk.append j.seg (sealE x), files := j.es.length / j.per + 1, es := j.es ++ [x] } := by
    unfold Jl.put
    rw [if_neg (by simp [hp]), if_neg (show ¬ j.dim.pre.dk.appendE j.dim.seg (sealE x) ≠ 0 from fun hc => hc ha)]; rfl
  unfold Jl.putE
  rcases Jl.pre_out hp with ⟨a, b⟩ | ⟨a, b⟩
  · rw [if_neg (by simp [a])]
    rw [← b] at ha hdim
    rcases Dk.append_out (d := j.pre.dk) ha with ⟨c1, c2⟩ | ⟨c1, c2⟩
    · left
      refine ⟨c1, ?_⟩
      have e : j.put x = { j.pre with dk := j.pre.dk.append j.seg (sealE x), files := j.es.length / j.per + 1, es := j.es ++ [x] } := by
        unfold Jl.put
        rw [if_neg (by simp [a]), if_neg (by simp [c1])]
      rw [e, hdim]
      show (⟨(j.pre.dk.append j.seg (sealE x)).dim, _, _, _, _, _, _⟩ : Jl) = _
      rw [c2]; rfl
    · right
      have e : j.put x = { j.pre with dk := j.pre.dk.append j.seg (sealE x), stuck := j.pre.dk.appendE j.seg (sealE x) } := by
        unfold Jl.put
        rw [if_neg (by simp [a]), if_pos (by simp [c1])]
      have hs := j.pre_same
      refine ⟨c1, by rw [e]; exact c1, by rw [e]; exact hs.1, by rw [e]; exact hs.2.1, by rw [e]; exact hs.2.2.1, .inr ⟨?_, ?_⟩⟩
      · rw [e, hdim]; exact c2
      · rw [e, hdim]; rfl
  · right
    rw [if_pos (by simp [a])]
    have e : j.put x = j.pre := by unfold Jl.put; rw [if_pos (by simp [a])]
    rw [e, b]
    exact ⟨a, rfl, rfl, rfl, rfl, .inl ⟨rfl, rfl⟩⟩
theorem Jl.rew1_out {kb : Ev → Bool} {k : Nat} (h : j.dim.rew1E kb k = 0) : (j.rew1E kb k = 0 ∧ (j.rew1 kb k).dim = j.dim.rew1 kb k) ∨ (j.rew1E kb k = 8 ∧ j.rew1 kb k = j.dead) := by
  unfold Jl.rew1E at h ⊢
  unfold Jl.rew1
  by_cases h0 : cntE kb (segL j.per k j.es) = 0
  · have h0' : cntE kb (segL j.dim.per k j.dim.es) = 0 := h0
    simp only [if_pos h0, if_pos h0']
    exact .inl ⟨trivial, trivial⟩
  · have h0' : ¬ cntE kb (segL j.dim.per k j.dim.es) = 0 := h0
    simp only [if_neg h0, if_neg h0'] at h ⊢
    have h : j.dk.dim.replaceE (segF j.name k) (bytesL ((segL j.per k j.es).map (erE kb))) = 0 := h
    rcases Dk.replace_out h with ⟨a, b⟩ | ⟨a, b⟩
    · left
      refine ⟨a, ?_⟩
      rw [if_neg (by simp [a]), if_neg (show ¬ j.dim.dk.replaceE (segF j.dim.name k) (bytesL ((segL j.dim.per k j.dim.es).map (erE kb))) ≠ 0 from fun hc => hc h)]
      show (⟨(j.dk.replace _ _).dim, _, _, _, _, _, _⟩ : Jl) = _
      rw [b]; rfl
    · right
      refine ⟨a, ?_⟩
      rw [if_pos (by simp [a]), a, b]; rfl
end
/-! ### a journal whose disk may go down -/
/-- sent: what was appended; either nothing went wrong yet, or the disk is down, and has a beginning of it -/
structure Fz (j : Jl) (s : List UInt8) (per : Nat) (sent : List (Option Ev)) : Prop where
  ok : j.dk.Ok
  nm : j.name = s
  pr : j.per = per
  las : j.lasts ≤ j.es.length
  pre : j.es.length ≤ sent.length
  st : (j.stuck = 0 ∧ j.dim.Good ∧ j.es = sent) ∨ (j.stuck = 8 ∧ ∃ fc L, DInv j.dk.files s per fc L j.lasts ∧ L <+: sent)
theorem Fz.putX {j : Jl} {s : List UInt8} {per : Nat} {es : List (Option Ev)} (h : j.dim.Good) (hok : j.dk.Ok) (hs : j.name = s) (hp : j.per = per) (he : j.es = es) (hn : es.length < 100) (e : Ev) (hm : mayB e = true) :
    (j.putE (some e) = 0 ∧ (j.put (some e)).stuck = 0 ∧ (j.put (some e)).dim.Good ∧ (j.put (some e)).es = es ++ [some e] ∧ (j.put (some e)).name = s ∧ (j.put (some e)).per = per ∧ (j.put (some e)).dk.Ok) ∨
    (j.putE (some e) = 8 ∧ ∀ r, Fz (j.put (some e)) s per (es ++ some e :: r)) := by
  subst hs; subst hp; subst he
  obtain ⟨g1, g2, g3, g4, g5, g6⟩ := h.put hn e hm
  rcases Jl.put_out g2 with ⟨a, b⟩ | ⟨a, b, c, f, g, k⟩
  · left
    rw [← b] at g1 g3 g4 g5
    exact ⟨a, g1.fine.free, g1, g3, g4, g5, Jl.put_ok hok _⟩
  · right
    have hm1 : j.lasts ≤ j.es.length := DInv.m1 h.inv
    refine ⟨a, fun r => ⟨Jl.put_ok hok _, f, g, ?_, by rw [c]; simp, .inr ⟨b, ?_⟩⟩⟩
    · rw [c]
      rcases k with ⟨_, k⟩ | ⟨_, k⟩
      · rw [k]; exact hm1
      · have : j.put (some e) = { j.pre with dk := j.pre.dk.append j.seg (sealE (some e)), stuck := j.pre.dk.appendE j.seg (sealE (some e)) } ∨ j.put (some e) = j.pre ∨ j.putE (some e) = 0 := by
          unfold Jl.put Jl.putE
          split
          · exact .inr (.inl rfl)
          · next hq =>
            split
            · exact .inl rfl
            · next hq2 => exact .inr (.inr (by simpa using hq2))
        have hpl : j.pre.lasts ≤ j.es.length := by
          unfold Jl.pre Jl.sync
          split
          · split
            · exact hm1
            · split
              · exact hm1
              · exact Nat.le_refl _
          · exact hm1
        rcases this with this | this | this
        · rw [this]; exact hpl
        · rw [this]; exact hpl
        · rw [a] at this; cases this
    · rcases k with ⟨k1, k2⟩ | ⟨k1, k2⟩
      · rw [k1, k2]
        exact ⟨j.files, j.es, h.inv, List.prefix_append _ _⟩
      · rw [k1, k2]
        have hi : DInv (j.dim.put (some e)).dk.files (j.dim.put (some e)).name (j.dim.put (some e)).per (j.dim.put (some e)).files (j.dim.put (some e)).es (j.dim.put (some e)).lasts := g1.inv
        rw [g3, g4, g5] at hi
        exact ⟨_, _, hi, ⟨r, by rw [show j.dim.es = j.es from rfl]; simp⟩⟩
theorem Fz.puts {s : List UInt8} {per : Nat} : ∀ (l : List Ev) {j : Jl} {es : List (Option Ev)}, j.dim.Good → j.stuck = 0 → j.dk.Ok → j.name = s → j.per = per → j.es = es → es.length + l.length ≤ 100 → (∀ e ∈ l, mayB e = true) →
    (j.putsE l = 0 ∨ j.putsE l = 8) ∧ Fz (j.puts l) s per (es ++ l.map some) ∧ (j.putsE l = (j.puts l).stuck)
  | [], j, es, h, h0, hok, hs, hp, he, _, _ => by
    have hl : j.lasts ≤ j.es.length := DInv.m1 h.inv
    refine ⟨.inl rfl, ⟨hok, hs, hp, hl, by simp [Jl.puts, he], .inl ⟨h0, h, by simp [Jl.puts, he]⟩⟩, h0.symm⟩
  | e :: l, j, es, h, h0, hok, hs, hp, he, hn, hm => by
    simp only [List.length_cons] at hn
    rcases Fz.putX h hok hs hp he (by omega) e (hm e (by simp)) with ⟨a, b, c, d, f, g, k⟩ | ⟨a, b⟩
    · unfold Jl.putsE Jl.puts
      rw [if_neg (by simp [a]), if_neg (by simp [a])]
      have := Fz.puts l c b k f g d (by simp; omega) (fun x hx => hm x (by simp [hx]))
      simpa using this
    · unfold Jl.putsE Jl.puts
      rw [if_pos (by simp [a]), if_pos (by simp [a])]
      have hb := b (l.map some)
      refine ⟨.inr a, by simpa using hb, ?_⟩
      rcases hb.st with ⟨h1, h2, h3⟩ | ⟨h1, _⟩
      · exfalso
        have := congrArg List.length h3
        have hpl := j.put_len (some e)
        have h4 : (j.put (some e)).es = j.es := by
          rcases Jl.put_out ((h.put (by rw [show j.dim.es = j.es from rfl, he]; omega) e (hm e (by simp))).2.1) with ⟨q, _⟩ | ⟨_, q, _⟩
          · rw [a] at q; cases q
          · rw [h1] at q; cases q
        rw [h4, he] at this; simp at this
      · rw [a, h1]
/-- Append at such a journal -/
theorem Fz.app {j : Jl} {s : List UInt8} {per : Nat} {sent : List (Option Ev)} (h : Fz j s per sent) (l : List Ev) (hn : sent.length + l.length ≤ 100) (hm : l.all mayB = true) :
    (j.appE l = 0 ∨ j.appE l = 8) ∧ (j.stuck ≠ 0 → j.appE l = 8 ∧ j.app l = j) ∧ (j.stuck = 0 → Fz (j.app l) s per (sent ++ l.map some)) ∧ (j.appE l = (j.app l).stuck) ∧ (j.stuck = 0 ∨ j.stuck = 8) := by
  unfold Jl.appE Jl.app
  rcases h.st with ⟨h1, h2, h3⟩ | ⟨h1, h2⟩
  · simp only [h1, ne_eq, not_true_eq_false, if_false, hm, if_true]
    have := Fz.puts l h2 h1 h.ok h.nm h.pr h3 hn (fun e he => List.all_eq_true.1 hm e he)
    exact ⟨this.1, fun hc => hc.elim, fun _ => this.2.1, this.2.2, .inl trivial⟩
  · simp only [h1, ne_eq, show ¬ (8 : Int) = 0 by omega, not_false_eq_true, if_true]
    exact ⟨.inr trivial, fun _ => ⟨trivial, trivial⟩, fun hc => hc.elim, trivial, .inr trivial⟩
theorem Fz.sync {j : Jl} {s : List UInt8} {per : Nat} {sent : List (Option Ev)} (h : Fz j s per sent) (hn : sent.length < 100) :
    (j.syncAE = 0 ∨ j.syncAE = 8) ∧ (j.stuck ≠ 0 → j.syncAE = 8 ∧ j.syncA = j) ∧ Fz j.syncA s per sent ∧ (j.syncAE = j.syncA.stuck) := by
  unfold Jl.syncAE Jl.syncA
  rcases h.st with ⟨h1, h2, h3⟩ | ⟨h1, h2⟩
  · simp only [h1, ne_eq, not_true_eq_false, if_false]
    obtain ⟨g1, g2, g3, g4, g5, g6⟩ := h2.sync (by rw [show j.dim.es = j.es from rfl, h3]; exact hn)
    rcases Jl.sync_out g2 with ⟨a, b⟩ | ⟨a, b⟩
    · rw [← b] at g1 g3 g4 g5 g6
      have hst : j.sync.stuck = 0 := g1.fine.free
      refine ⟨.inl a, fun hc => hc.elim, ⟨Jl.sync_ok h.ok, g4.trans h.nm, g5.trans h.pr, DInv.m1 g1.inv, by rw [show j.sync.es = j.es from g3, h3]; exact Nat.le_refl _, .inl ⟨hst, g1, g3.trans h3⟩⟩, by rw [a, hst]⟩
    · refine ⟨.inr a, fun hc => hc.elim, ?_, by rw [a, b]; rfl⟩
      rw [b]
      have hok : j.dead.dk.Ok := ⟨h.ok.up, h.ok.used, h.ok.max, h.ok.fuse0, h.ok.fuse1, h.ok.num, h.ok.las⟩
      have hi : DInv j.dk.files j.name j.per j.files j.es j.lasts := h2.inv
      rw [h.nm, h.pr, h3] at hi
      exact ⟨hok, h.nm, h.pr, h.las, h.pre, .inr ⟨rfl, _, _, hi, List.prefix_refl _⟩⟩
  · simp only [h1, ne_eq, show ¬ (8 : Int) = 0 by omega, not_false_eq_true, if_true]
    exact ⟨.inr trivial, fun _ => ⟨trivial, trivial⟩, h, trivial⟩
end Go.Proofs.YtejjfhhppjdcaaaGreatDoor
