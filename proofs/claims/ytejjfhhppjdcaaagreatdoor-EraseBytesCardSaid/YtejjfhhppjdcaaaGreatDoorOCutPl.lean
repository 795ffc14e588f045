/-
  Layer 5, plain: an erasing that a fuse cuts off.
-/
import Derived.Test.YtejjfhhppjdcaaaGreatDoorOFuse0
import Derived.Test.YtejjfhhppjdcaaaGreatDoorOOpGood
namespace Go.Proofs.YtejjfhhppjdcaaaGreatDoor
open Go.RowKit Go.Maps Go.Sort

/-- entries of which those ahead of a place are erased -/
def erRow (kb : Ev → Bool) (L : List (Option Ev)) (P : Nat) : List (Option Ev) := (L.take P).map (erE kb) ++ L.drop P
theorem erRow_len (kb : Ev → Bool) (L : List (Option Ev)) (P : Nat) : (erRow kb L P).length = L.length := by
  unfold erRow; simp only [List.length_append, List.length_map, List.length_take, List.length_drop]; omega
theorem erRow_all (kb : Ev → Bool) {L : List (Option Ev)} {P : Nat} (h : L.length ≤ P) : erRow kb L P = L.map (erE kb) := by
  unfold erRow; rw [List.take_of_length_le h, List.drop_eq_nil_of_le h, List.append_nil]
theorem erRow_may {kb : Ev → Bool} {L : List (Option Ev)} {P : Nat} (h : ∀ e, some e ∈ L → mayB e = true) : ∀ e, some e ∈ erRow kb L P → mayB e = true := fun e he => by
  unfold erRow at he
  rcases List.mem_append.1 he with he | he
  · exact h e (List.mem_of_mem_take (erE_map_may he))
  · exact h e (List.mem_of_mem_drop he)
theorem erSeg_row (kb : Ev → Bool) (per k : Nat) (L : List (Option Ev)) (h : k * per ≤ L.length) :
    erSeg kb per k (erRow kb L (k * per)) = erRow kb L ((k + 1) * per) ∧ segL per k (erRow kb L (k * per)) = segL per k L := by
  have hl : ((L.take (k * per)).map (erE kb)).length = k * per := by rw [List.length_map, List.length_take]; omega
  have ht : (erRow kb L (k * per)).take (k * per) = (L.take (k * per)).map (erE kb) := by unfold erRow; rw [List.take_left' hl]
  have hd : (erRow kb L (k * per)).drop (k * per) = L.drop (k * per) := by unfold erRow; rw [List.drop_left' hl]
  have hs : segL per k (erRow kb L (k * per)) = segL per k L := by unfold segL; rw [hd]
  have hd2 : (erRow kb L (k * per)).drop ((k + 1) * per) = L.drop ((k + 1) * per) := by
    rw [Nat.succ_mul, ← List.drop_drop, hd, List.drop_drop]
  refine ⟨?_, hs⟩
  unfold erSeg
  rw [ht, hs, hd2, ← List.map_append, OpIn.take]; rfl
/-- a journal as it stands on a disk of which all is known -/
theorem good_of_dinv {d : Dk} {s : List UInt8} {per fc m : Nat} {L : List (Option Ev)} (h : DInv d.files s per fc L m) (hok : d.Ok) (hl : d.lit = false) (hd : d.down = false) (hs : s.length ≤ 24) (hfc : fc = nseg L.length per) (hmay : ∀ e, some e ∈ L → mayB e = true) : (⟨d, s, per, fc, L, m, 0⟩ : Jl).Good := by
  have ht := h.total
  have hb := bytesL_max hmay
  have hfl := h.files_len
  have hhi := h.hi
  have hdv : L.length / per ≤ L.length := Nat.div_le_self _ _
  have hu := hok.used
  refine ⟨⟨hl, hd, rfl, h.per1, hs, hok.used0, ?_, ?_, fun h0 => ?_, ?_⟩, h, hfc, hok, hmay⟩
  · show d.used ≤ 1300 * (L.length : Int)
    rw [hu, ht]; omega
  · show d.files.length ≤ L.length + 1
    omega
  · show (getB d.files (segF s (fc - 1))).isSome = true
    have h0 : fc ≠ 0 := h0
    obtain ⟨st, hg, _⟩ := h.here (fc - 1) (by omega)
    rw [hg]; rfl
  · show fc ≤ L.length + 1
    omega
/-- files of which all lasts are as they were behind a crash -/
theorem DInv.still {fs : Row Fl} {s : List UInt8} {per fc : Nat} {L : List (Option Ev)} (h : DInv fs s per fc L L.length) (hfc : fc = nseg L.length per) : ∀ p ∈ fs, p.2.lasts = p.2.data.length ∧ p.2.stays = true := fun p hp => by
  obtain ⟨k, hk, e⟩ := h.only p hp
  obtain ⟨st, hg, hst⟩ := h.here k hk
  have hpg : getB fs p.1 = some p.2 := getB_of_mem h.up hp
  rw [e, hg] at hpg
  injection hpg with hpg
  rw [← hpg, List.take_length]
  refine ⟨rfl, hst.resolve_right ?_⟩
  rintro ⟨h1, h2⟩
  have hp1 := h.per1
  have h3 : nseg L.length per < k + 1 := by
    unfold nseg
    refine (Nat.div_lt_iff_lt_mul (by omega)).2 ?_
    rw [Nat.succ_mul]; omega
  omega
theorem crash_still {d : Dk} {s : List UInt8} {per fc : Nat} {L : List (Option Ev)} (h : DInv d.files s per fc L L.length) (hok : d.Ok) (hs : s.length ≤ 24) (hfc : fc = nseg L.length per) (hmay : ∀ e, some e ∈ L → mayB e = true) (ks : List Int) : (⟨d.crash ks, s, per, fc, L, L.length, 0⟩ : Jl).Good := by
  have hf : (d.crash ks).files = d.files := crashR_still ks (h.still hfc)
  exact good_of_dinv (by rw [hf]; exact h) (hok.crash ks) rfl rfl hs hfc hmay
theorem cntE_append (kb : Ev → Bool) (a b : List (Option Ev)) : cntE kb (a ++ b) = cntE kb a + cntE kb b := by unfold cntE; rw [List.filter_append, List.length_append]
/-- what a cut-off erasing leaves -/
structure CutOut (kb : Ev → Bool) (L : List (Option Ev)) (s : List UInt8) (per fc : Nat) (r : Jl × Nat × Int) (P : Nat) : Prop where
  n : r.2.1 = cntE kb (L.take P)
  e : r.2.2 = 0 ∨ r.2.2 = 8
  all : r.2.2 = 0 → L.length ≤ P
  ok : r.1.dk.Ok
  inv : DInv r.1.dk.files s per fc (erRow kb L P) L.length
  nm : r.1.name = s
  pr : r.1.per = per
theorem Jl.rewF_cut (kb : Ev → Bool) (L : List (Option Ev)) (hL : L.length < 100) : ∀ (f : Nat) (j : Jl) (k : Nat), j.dim.Good → j.dk.Ok → j.es = erRow kb L (k * j.per) → j.lasts = L.length → k + f = j.files →
    ∃ P, CutOut kb L j.name j.per j.files (Jl.rewF kb f j k (cntE kb (L.take (k * j.per)))) P
  | 0, j, k, h, hok, he, hl, hk => by
    have hi : DInv j.dk.files j.name j.per j.files j.es j.lasts := h.inv
    have hlast := hi.last
    rw [he, erRow_len] at hlast
    refine ⟨k * j.per, rfl, .inl rfl, fun _ => ?_, hok, ?_, rfl, rfl⟩
    · rw [show k = j.files by omega]; exact hlast
    · rw [he, hl] at hi; exact hi
  | f + 1, j, k, h, hok, he, hl, hk => by
    have hi : DInv j.dk.files j.name j.per j.files j.es j.lasts := h.inv
    have hlen : j.dim.es.length = L.length := by rw [show j.dim.es = j.es from rfl, he, erRow_len]
    have hsl : k * j.per ≤ L.length := by
      have := h.segle (k := k) (show k < j.files by omega)
      rw [hlen] at this; exact this
    obtain ⟨a1, a2, a3, a4⟩ := h.rew1 (by rw [hlen]; exact hL) kb (k := k) (show k < j.files by omega)
    have hsame := Jl.rew1_same j kb k
    obtain ⟨r1, r2⟩ := erSeg_row kb j.per k L hsl
    unfold Jl.rewF
    rcases Jl.rew1_out a1 with ⟨b1, b2⟩ | ⟨b1, b2⟩
    · rw [if_neg (by simp [b1])]
      rw [← b2] at a2 a3 a4
      have e1 : (j.rew1 kb k).es = erRow kb L ((k + 1) * (j.rew1 kb k).per) := by
        rw [hsame.2.1]
        have : (j.rew1 kb k).es = erSeg kb j.per k j.es := a3
        rw [this, he, r1]
      have e2 : (j.rew1 kb k).lasts = L.length := by
        have : (j.rew1 kb k).lasts = _ := a4
        rw [this]
        split
        · exact hlen
        · exact hl
      have e3 : cntE kb (L.take (k * j.per)) + cntE kb (segL j.per k j.es) = cntE kb (L.take ((k + 1) * (j.rew1 kb k).per)) := by
        rw [hsame.2.1, he, r2, ← cntE_append, OpIn.take]
      have hok2 : (j.rew1 kb k).dk.Ok := by
        unfold Jl.rew1
        split
        · exact hok
        · split <;> exact hok.replace _ _
      rw [e3]
      have := Jl.rewF_cut kb L hL f (j.rew1 kb k) (k + 1) a2 hok2 e1 e2 (by rw [hsame.2.2.1]; omega)
      rw [hsame.1, hsame.2.2.1] at this
      rw [hsame.2.1] at this ⊢
      exact this
    · rw [if_pos (by simp [b1]), b1, b2]
      refine ⟨k * j.per, rfl, .inr rfl, fun hc => by simp at hc, ⟨hok.up, hok.used, hok.max, hok.fuse0, hok.fuse1, hok.num, hok.las⟩, ?_, rfl, rfl⟩
      rw [he, hl] at hi; exact hi
/-- a fuse is lit -/
def Dk.arm (d : Dk) (n : Int) : Dk := { d with lit := decide (0 ≤ n), fuse := max n 0 }
theorem Dk.Ok.arm {d : Dk} (h : d.Ok) {n : Int} (hn : n ≤ 1000) : (d.arm n).Ok := ⟨h.up, h.used, h.max, by show 0 ≤ Max.max n 0; omega, by show Max.max n 0 ≤ 1000; omega, h.num, h.las⟩
theorem Jl.Good.arm {j : Jl} (h : j.Good) (n : Int) : ({ j with dk := j.dk.arm n } : Jl).dim.Good :=
  ⟨⟨rfl, h.fine.up, h.fine.free, h.fine.per1, h.fine.nm, h.fine.used0, h.fine.used, h.fine.fl, h.fine.here, h.fine.small⟩, h.inv, h.fc, ⟨h.ok.up, h.ok.used, h.ok.max, Int.le_refl _, by show (0 : Int) ≤ 1000; omega, h.ok.num, h.ok.las⟩, h.sm⟩
/-- Rewrite on a disk with a fuse -/
theorem Jl.Good.cut {j : Jl} (h : j.Good) (hl : j.lasts = j.es.length) (hn : j.es.length < 100) (n : Int) (hn2 : n ≤ 1000) (kb : Ev → Bool) :
    ∃ P, CutOut kb j.es j.name j.per j.files (({ j with dk := j.dk.arm n } : Jl).rewr kb) P := by
  have hg := h.arm n
  obtain ⟨j', hj'⟩ : ∃ j', j' = ({ j with dk := j.dk.arm n } : Jl) := ⟨_, rfl⟩
  have e1 : j'.es = j.es := by rw [hj']
  have e2 : j'.lasts = j.lasts := by rw [hj']
  have e3 : j'.name = j.name := by rw [hj']
  have e4 : j'.per = j.per := by rw [hj']
  have e5 : j'.files = j.files := by rw [hj']
  have e6 : j'.stuck = 0 := by rw [hj']; exact h.fine.free
  have hok : j'.dk.Ok := by rw [hj']; exact h.ok.arm hn2
  rw [← hj'] at hg ⊢
  unfold Jl.rewr
  rw [if_neg (by simp [e6])]
  have := Jl.rewF_cut kb j.es hn (nseg j'.es.length j'.per) j' 0 hg hok (by rw [e1]; simp [erRow]) (by rw [e2, hl]) (by rw [e1, e4, e5, h.fc]; omega)
  rw [e3, e4, e5] at this
  rw [e4]
  simpa [cntE] using this
end Go.Proofs.YtejjfhhppjdcaaaGreatDoor
