/-
  Layer 5, plain: what Open finds on a disk, and what it leaves.
  Layer 5, plain: a journal that is opened again, or crashed when all lasts.
-/
import Derived.Test.YtejjfhhppjdcaaaGreatDoorOJGood
import Derived.Test.YtejjfhhppjdcaaaGreatDoorORJl9
import Derived.Test.YtejjfhhppjdcaaaGreatDoorODk7
import Derived.Test.YtejjfhhppjdcaaaGreatDoorODk9
namespace Go.Proofs.YtejjfhhppjdcaaaGreatDoor
open Go.RowKit Go.Maps Go.Sort

theorem bytesL_cat (l : List (Option Ev)) : bytesL l = Frm.catB (l.map bytesE) := by
  induction l with
  | nil => rfl
  | cons x l ih => unfold bytesL at ih ⊢; simp only [List.flatMap_cons, List.map_cons, Frm.catB, ih]; rfl
/-- the disk's files are the segments of the entries L; the last one may have a tail t behind them, that is no whole frame -/
structure OpIn (d : Dk) (s : List UInt8) (per fc : Nat) (L : List (Option Ev)) (t : List UInt8) : Prop where
  ok : d.Ok
  dark : d.lit = false
  up : d.down = false
  nms : Rising (d.files.map (·.1)) (fileNs s fc)
  nm : s.length ≤ 24
  per1 : 1 ≤ per
  per2 : per ≤ 4096
  fc9 : fc ≤ 90
  num : L.length ≤ 1000
  may : ∀ e, some e ∈ L → mayB e = true
  seg : ∀ k, k < fc → (d.file (segF s k)).data = bytesL (segL per k L) ++ (if k + 1 = fc then t else [])
  all : ∀ k, k < fc → Frm.allB (bytesL (segL per k L) ++ (if k + 1 = fc then t else [])) = ((segL per k L).map bytesE, ((bytesL (segL per k L)).length, if k + 1 = fc ∧ t ≠ [] then 1 else 0))
  full : ∀ k, k + 1 < fc → (k + 1) * per ≤ L.length
  last : L.length ≤ fc * per
  hi : fc ≤ L.length / per + 1
  sz : ∀ k, k < fc → (bytesL (segL per k L) ++ (if k + 1 = fc then t else [])).length ≤ 1000000
/-- the disk behind Open -/
def Dk.opened (d : Dk) (s : List UInt8) (per fc : Nat) (L : List (Option Ev)) (t : List UInt8) : Dk :=
  if fc = 0 then d else if t = [] then d.sync (segF s (fc - 1)) else d.replace (segF s (fc - 1)) (bytesL (segL per (fc - 1) L))
def Jl.opened (d : Dk) (s : List UInt8) (per fc : Nat) (L : List (Option Ev)) (t : List UInt8) : Jl := ⟨d.opened s per fc L t, s, per, fc, L, L.length, 0⟩
section
variable {d : Dk} {s : List UInt8} {per fc : Nat} {L : List (Option Ev)} {t : List UInt8}
theorem OpIn.there (h : OpIn d s per fc L t) {k : Nat} (hk : k < fc) : (getB d.files (segF s k)).isSome = true := by
  have h1 : segF s k ∈ d.files.map (·.1) := (h.nms.2 _).2 (List.mem_map.2 ⟨k, List.mem_range.2 hk, rfl⟩)
  obtain ⟨p, hp, e⟩ := List.mem_map.1 h1
  rw [← e, getB_of_mem h.ok.up hp]; rfl
theorem OpIn.asked (h : OpIn d s per fc L t) {k : Nat} (hk : k < fc) : d.asked (segF s k) = 0 := by
  have h9 := h.fc9
  have h2 := segF_len s (k := k) (by omega)
  have := h.nm
  exact Dk.asked_fine h.up h2.1 (by omega)
theorem OpIn.found (h : OpIn d s per fc L t) {k : Nat} (hk : k < fc) : d.found (segF s k) = 0 := by
  unfold Dk.found
  rw [h.asked hk, if_neg (by simp)]
  have := h.there hk
  rw [if_neg (by cases hg : getB d.files (segF s k) with | none => rw [hg] at this; cases this | some _ => simp)]
theorem OpIn.read (h : OpIn d s per fc L t) {k : Nat} (hk : k < fc) : d.read (segF s k) = bytesL (segL per k L) ++ (if k + 1 = fc then t else []) := by
  unfold Dk.read
  rw [if_pos (h.found hk), h.seg k hk]
theorem OpIn.take (L : List (Option Ev)) (per k : Nat) : L.take (k * per) ++ segL per k L = L.take ((k + 1) * per) := by
  unfold segL
  rw [Nat.succ_mul, List.take_add]
theorem OpIn.segs (h : OpIn d s per fc L t) {k : Nat} (hk : k < fc) : k * per ≤ L.length := by
  cases k with
  | zero => omega
  | succ k => exact h.full k hk
theorem OpIn.syncE (h : OpIn d s per fc L t) {k : Nat} (hk : k < fc) : d.syncE (segF s k) = 0 := by
  unfold Dk.syncE
  rw [if_neg (by simp [h.found hk]), (Dk.step_dark h.dark).2]; rfl
theorem OpIn.fullN (h : OpIn d s per fc L t) (h0 : fc ≠ 0) : d.fullB (segF s (fc - 1)) ((bytesL (segL per (fc - 1) L)).length - (d.file (segF s (fc - 1))).data.length) = false := by
  unfold Dk.fullB
  rw [Bool.or_eq_false_iff]
  have hm := h.ok.max
  have hs := h.seg (fc - 1) (by omega)
  refine ⟨?_, ?_⟩
  · rw [decide_eq_false_iff_not, hs]
    simp only [List.length_append]; omega
  · have := h.there (k := fc - 1) (by omega)
    rw [Bool.and_eq_false_iff]; left
    cases hg : getB d.files (segF s (fc - 1)) with | none => rw [hg] at this; cases this | some _ => rfl
theorem OpIn.replE (h : OpIn d s per fc L t) (h0 : fc ≠ 0) : d.replaceE (segF s (fc - 1)) (bytesL (segL per (fc - 1) L)) = 0 := by
  rw [(Dk.repl_yes (h.asked (by omega)) (h.fullN h0)).2, (Dk.step_dark h.dark).2]; rfl
/-- the last file behind Open -/
theorem OpIn.files (h : OpIn d s per fc L t) (h0 : fc ≠ 0) : (d.opened s per fc L t).files = putB (segF s (fc - 1)) ⟨bytesL (segL per (fc - 1) L), (bytesL (segL per (fc - 1) L)).length, true⟩ d.files ∧ (d.opened s per fc L t).lit = false ∧ (d.opened s per fc L t).down = false ∧ (d.opened s per fc L t).Ok := by
  have ⟨s1, s2⟩ := Dk.step_dark h.dark
  unfold Dk.opened
  rw [if_neg h0]
  by_cases ht : t = []
  · rw [if_pos ht]
    have hd : d.sync (segF s (fc - 1)) = d.put (segF s (fc - 1)) { d.file (segF s (fc - 1)) with lasts := (d.file (segF s (fc - 1))).data.length, stays := true } := by
      unfold Dk.sync; rw [if_neg (by simp [h.found (k := fc - 1) (by omega)]), s2, s1]; rfl
    have hs := h.seg (fc - 1) (by omega)
    rw [if_pos (by omega), ht, List.append_nil] at hs
    refine ⟨?_, by rw [hd]; exact h.dark, by rw [hd]; exact h.up, h.ok.sync _⟩
    rw [hd]
    show putB (segF s (fc - 1)) ⟨(d.file (segF s (fc - 1))).data, ((d.file (segF s (fc - 1))).data.length : Int), true⟩ d.files = _
    rw [hs]
  · rw [if_neg ht]
    have hr := (Dk.repl_yes (h.asked (k := fc - 1) (by omega)) (h.fullN h0)).1
    rw [s2, s1] at hr
    simp only [if_true] at hr
    refine ⟨?_, by rw [hr]; exact h.dark, by rw [hr]; exact h.up, h.ok.replace _ _⟩
    rw [hr]; rfl
end
/-! ### bytes of all files -/
theorem getB_filter {α : Type} {m : Row α} {k x : List UInt8} (h : k ≠ x) : getB (m.filter fun p => !(p.1 == x)) k = getB m k := by
  induction m with
  | nil => rfl
  | cons y r ih =>
    rw [List.filter_cons, getB_cons]
    by_cases e : y.1 = x
    · rw [if_neg (by simp [e]), ih, if_neg (by rw [e]; exact fun e' => h e'.symm)]
    · rw [if_pos (by simp [e]), getB_cons, ih]
theorem total_keys : ∀ (ks : List (List UInt8)) {m : Row Fl}, RowUp m → ks.Nodup → (∀ p ∈ m, p.1 ∈ ks) → total m = (ks.map fun k => (((getB m k).getD Fl.none).data.length : Int)).sum
  | [], m, _, _, h => by
    cases m with
    | nil => rfl
    | cons y r => exact absurd (h y (by simp)) (by simp)
  | x :: ks, m, hu, hn, h => by
    obtain ⟨hx, hn'⟩ := List.nodup_cons.1 hn
    have hf := total_filter hu x
    have ih := total_keys ks (m := m.filter fun p => !(p.1 == x)) (hu.filter _) hn' (fun p hp => by
      obtain ⟨h1, h2⟩ := List.mem_filter.1 hp
      rcases List.mem_cons.1 (h p h1) with e | e
      · simp [e] at h2
      · exact e)
    rw [ih] at hf
    rw [← hf, List.map_cons, List.sum_cons]
    have : (ks.map fun k => (((getB (m.filter fun p => !(p.1 == x)) k).getD Fl.none).data.length : Int)) = ks.map fun k => (((getB m k).getD Fl.none).data.length : Int) :=
      List.map_congr_left fun k hk => by rw [getB_filter (fun (e : k = x) => hx (by rw [← e]; exact hk))]
    rw [this]; omega
theorem fileNs_nodup (s : List UInt8) (fc : Nat) : (fileNs s fc).Nodup := by
  unfold fileNs
  exact List.pairwise_map.2 (List.Pairwise.imp (S := fun a b => segF s a ≠ segF s b) (fun {a b} h e => h (segF_inj e)) List.nodup_range)
theorem sum_segs (per : Nat) (L : List (Option Ev)) : ∀ fc, ((List.range fc).map fun k => ((bytesL (segL per k L)).length : Int)).sum = ((bytesL (L.take (fc * per))).length : Int)
  | 0 => by simp [bytesL]
  | fc + 1 => by
    rw [List.range_succ, List.map_append, List.sum_append, sum_segs per L fc, ← OpIn.take, bytesL_append]
    simp
theorem DInv.total {fs : Row Fl} {s : List UInt8} {per fc m : Nat} {L : List (Option Ev)} (h : DInv fs s per fc L m) : total fs = (bytesL L).length := by
  rw [total_keys (fileNs s fc) h.up (fileNs_nodup s fc) (fun p hp => by
    obtain ⟨k, hk, e⟩ := h.only p hp
    exact List.mem_map.2 ⟨k, List.mem_range.2 hk, e.symm⟩)]
  have e : ((fileNs s fc).map fun k => (((getB fs k).getD Fl.none).data.length : Int)) = (List.range fc).map fun k => ((bytesL (segL per k L)).length : Int) := by
    unfold fileNs
    rw [List.map_map]
    refine List.map_congr_left fun k hk => ?_
    obtain ⟨st, hg, _⟩ := h.here k (List.mem_range.1 hk)
    simp only [Function.comp_apply]
    rw [hg]; rfl
  rw [e, sum_segs, List.take_of_length_le h.last]
theorem bytesL_max : ∀ {L : List (Option Ev)}, (∀ e, some e ∈ L → mayB e = true) → (bytesL L).length ≤ 1239 * L.length
  | [], _ => by simp [bytesL]
  | x :: L, h => by
    have ih := bytesL_max (L := L) (fun e he => h e (by simp [he]))
    unfold bytesL at ih ⊢
    simp only [List.flatMap_cons, List.length_append, List.length_cons]
    have : (sealE x).length ≤ 1239 := by
      unfold sealE; rw [Frm.sealB_length]
      cases x with
      | none => simp [bytesE]
      | some e => have := (mayB_fit (h e (by simp))).len; simp only [bytesE]; omega
    omega
theorem DInv.files_len {fs : Row Fl} {s : List UInt8} {per fc m : Nat} {L : List (Option Ev)} (h : DInv fs s per fc L m) : fs.length ≤ fc := by
  have h1 : (fs.map (·.1)).Nodup := List.pairwise_map.2 (List.Pairwise.imp (S := fun a b => a.1 ≠ b.1) (fun {a b} h e => by rw [e, bb_irrefl] at h; cases h) h.up)
  have h2 : (fs.map (·.1)) ⊆ fileNs s fc := fun x hx => by
    obtain ⟨p, hp, rfl⟩ := List.mem_map.1 hx
    obtain ⟨k, hk, e⟩ := h.only p hp
    exact List.mem_map.2 ⟨k, List.mem_range.2 hk, e.symm⟩
  have hp : (fs.map (·.1)).Perm ((fileNs s fc).filter fun x => decide (x ∈ fs.map (·.1))) := (List.perm_ext_iff_of_nodup h1 ((fileNs_nodup s fc).filter _)).2 fun x => by
    rw [List.mem_filter, decide_eq_true_eq]
    exact ⟨fun hx => ⟨h2 hx, hx⟩, fun hx => hx.2⟩
  have e := hp.length_eq
  have hle := List.length_filter_le (fun x => decide (x ∈ fs.map (·.1))) (fileNs s fc)
  have hl : (fileNs s fc).length = fc := by simp [fileNs]
  rw [List.length_map] at e
  omega
section
variable {d : Dk} {s : List UInt8} {per fc : Nat} {L : List (Option Ev)} {t : List UInt8}
/-- behind Open a journal is as one that nothing happened to -/
theorem OpIn.inv (h : OpIn d s per fc L t) (hst : ∀ k, k + 1 < fc → ((d.file (segF s k)).lasts = (d.file (segF s k)).data.length ∧ (d.file (segF s k)).stays = true)) : (Jl.opened d s per fc L t).Inv := by
  have hfile : ∀ k, k < fc → getB d.files (segF s k) = some (d.file (segF s k)) := fun k hk => by
    have := h.there hk
    obtain ⟨f, hf⟩ := Option.isSome_iff_exists.1 this
    unfold Dk.file; rw [hf]; rfl
  have honly : ∀ p ∈ d.files, ∃ k, k < fc ∧ p.1 = segF s k := fun p hp => by
    obtain ⟨k, hk, e⟩ := List.mem_map.1 ((h.nms.2 p.1).1 (List.mem_map.2 ⟨p, hp, rfl⟩))
    exact ⟨k, List.mem_range.1 hk, e.symm⟩
  show DInv (d.opened s per fc L t).files s per fc L L.length
  have hlo : nseg L.length per ≤ fc := by
    have h1 := h.last
    have hp := h.per1
    have : nseg L.length per < fc + 1 := by
      unfold nseg
      refine (Nat.div_lt_iff_lt_mul (by omega)).2 ?_
      rw [Nat.succ_mul]; omega
    omega
  have hm0 : (fc - 1) * per ≤ L.length := by
    by_cases h0 : fc = 0
    · subst h0; simp
    · exact h.segs (by omega)
  by_cases h0 : fc = 0
  · have hf : d.files = [] := by
      cases hd : d.files with
      | nil => rfl
      | cons y r =>
        obtain ⟨k, hk, _⟩ := honly y (by rw [hd]; simp)
        omega
    have : d.opened s per fc L t = d := by unfold Dk.opened; rw [if_pos h0]
    rw [this, hf]
    exact ⟨by simp [RowUp], fun k hk => by omega, by simp, hlo, h.hi, hm0, Nat.le_refl _, h.per1⟩
  · rw [(h.files h0).1]
    refine ⟨putB_rising h.ok.up _ _, fun k hk => ?_, fun p hp => ?_, hlo, h.hi, hm0, Nat.le_refl _, h.per1⟩
    · rw [List.take_length]
      by_cases e : k = fc - 1
      · subst e
        exact ⟨true, by rw [getB_put_same], .inl rfl⟩
      · obtain ⟨h1, h2⟩ := hst k (by omega)
        have h3 := h.seg k hk
        rw [if_neg (by omega), List.append_nil] at h3
        refine ⟨true, ?_, .inl rfl⟩
        rw [getB_put_other _ _ (fun e' => e (segF_inj e')), hfile k hk]
        rw [← h3, ← h1, ← h2]
    · rcases putB_mem.1 hp with rfl | ⟨hp, _⟩
      · exact ⟨fc - 1, by omega, rfl⟩
      · exact honly p hp
theorem OpIn.fine (h : OpIn d s per fc L t) (hst : ∀ k, k + 1 < fc → ((d.file (segF s k)).lasts = (d.file (segF s k)).data.length ∧ (d.file (segF s k)).stays = true)) : (Jl.opened d s per fc L t).Fine := by
  have hi := h.inv hst
  have hp := h.per1
  have hok : (d.opened s per fc L t).Ok ∧ (d.opened s per fc L t).lit = false ∧ (d.opened s per fc L t).down = false := by
    by_cases h0 : fc = 0
    · have : d.opened s per fc L t = d := by unfold Dk.opened; rw [if_pos h0]
      rw [this]; exact ⟨h.ok, h.dark, h.up⟩
    · have := h.files h0; exact ⟨this.2.2.2, this.2.1, this.2.2.1⟩
  have hu := hok.1.used
  have ht : total (d.opened s per fc L t).files = (bytesL L).length := DInv.total hi
  have hb := bytesL_max h.may
  have hfl : (d.opened s per fc L t).files.length ≤ fc := DInv.files_len hi
  have hfc := h.hi
  have hdv : L.length / per ≤ L.length := Nat.div_le_self _ _
  refine ⟨hok.2.1, hok.2.2, rfl, hp, h.nm, hok.1.used0, ?_, ?_, fun h0 => ?_, ?_⟩
  · show (d.opened s per fc L t).used ≤ 1300 * (L.length : Int)
    rw [hu, ht]; omega
  · show (d.opened s per fc L t).files.length ≤ L.length + 1
    omega
  · show (getB (d.opened s per fc L t).files (segF s (fc - 1))).isSome = true
    have h0 : fc ≠ 0 := h0
    rw [(h.files h0).1, getB_put_same]; rfl
  · show fc ≤ L.length + 1
    omega
/-- a journal at which nothing goes wrong is opened as it is -/
theorem Jl.Good.opIn {j : Jl} (h : j.Good) (hn : j.es.length ≤ 80) (hp2 : j.per ≤ 4096) : OpIn j.dk j.name j.per j.files j.es [] := by
  have hi : DInv j.dk.files j.name j.per j.files j.es j.lasts := h.inv
  have hsm : j.files ≤ j.es.length + 1 := h.fine.small
  have hnm := h.names
  rw [← h.fc] at hnm
  have hm0 := hi.m0
  have hm1 := hi.m1
  refine ⟨h.ok, h.fine.dark, h.fine.up, hnm, h.fine.nm, h.fine.per1, hp2, by omega, by omega, h.sm, fun k hk => ?_, fun k hk => ?_, fun k hk => ?_, hi.last, hi.hi, fun k hk => ?_⟩
  · obtain ⟨st, hg, _⟩ := hi.here k hk
    unfold Dk.file; rw [hg]; simp
  · have hb : ∀ p ∈ (segL j.per k j.es).map bytesE, p.length ≤ 65536 := fun p hp => by
      obtain ⟨x, hx, rfl⟩ := List.mem_map.1 hp
      cases x with
      | none => simp [bytesE]
      | some e =>
        have := (mayB_fit (h.sm e (List.mem_of_mem_drop (List.mem_of_mem_take hx)))).len
        simp only [bytesE]; omega
    have hr := Frm.allB_rows ((segL j.per k j.es).map bytesE) hb (bytesL (segL j.per k j.es)).length _ (Nat.le_refl _)
    have he : Frm.endB ((segL j.per k j.es).map bytesE) ((segL j.per k j.es).map bytesE).length = (bytesL (segL j.per k j.es)).length := by
      unfold Frm.endB; rw [List.take_length, ← bytesL_cat]
    rw [he] at hr
    have hr := hr (Nat.le_refl _) (fun h => absurd h (Nat.lt_irrefl _)) (Nat.le_refl _)
    rw [← bytesL_cat, List.take_length, List.take_length, if_pos rfl] at hr
    rw [show (if k + 1 = j.files then ([] : List UInt8) else []) = [] by split <;> rfl, List.append_nil, hr]
    simp
  · have h1 : (k + 1) * j.per ≤ (j.files - 1) * j.per := Nat.mul_le_mul_right _ (by omega)
    omega
  · have h1 := bytesL_max (L := segL j.per k j.es) (fun e he => h.sm e (List.mem_of_mem_drop (List.mem_of_mem_take he)))
    have h2 : (segL j.per k j.es).length ≤ j.es.length := by rw [segL_length]; omega
    rw [show (if k + 1 = j.files then ([] : List UInt8) else []) = [] by split <;> rfl, List.append_nil]
    omega
end
end Go.Proofs.YtejjfhhppjdcaaaGreatDoor
namespace Go.Proofs.YtejjfhhppjdcaaaGreatDoor
open Go.RowKit Go.Maps Go.Sort

section
variable {j : Jl}
theorem Jl.Good.still (h : j.Good) (hl : j.lasts = j.es.length) : ∀ p ∈ j.dk.files, p.2.lasts = p.2.data.length ∧ p.2.stays = true := fun p hp => by
  obtain ⟨k, hk, e⟩ := DInv.only h.inv p hp
  obtain ⟨st, hg, hst⟩ := DInv.here h.inv k hk
  have hpg : getB j.dk.files p.1 = some p.2 := getB_of_mem h.ok.up hp
  rw [e, hg] at hpg
  injection hpg with hpg
  rw [← hpg, hl, List.take_length]
  refine ⟨rfl, hst.resolve_right ?_⟩
  rintro ⟨h1, h2⟩
  have hp1 := h.fine.per1
  have hfc := h.fc
  have h3 : nseg j.es.length j.per < k + 1 := by
    unfold nseg
    refine (Nat.div_lt_iff_lt_mul (by omega)).2 ?_
    rw [Nat.succ_mul]; rw [hl] at h2; omega
  omega
/-- a crash of a disk whose bytes all last -/
theorem Jl.Good.crashed (h : j.Good) (hl : j.lasts = j.es.length) (ks : List Int) : ({ j with dk := j.dk.crash ks } : Jl).Good := by
  have hf : (j.dk.crash ks).files = j.dk.files := crashR_still ks (h.still hl)
  have hu : (j.dk.crash ks).used = j.dk.used := by
    show total (j.dk.crash ks).files = _
    rw [hf, h.ok.used]
  have hfi := h.fine
  refine ⟨⟨rfl, rfl, hfi.free, hfi.per1, hfi.nm, by show 0 ≤ (j.dk.crash ks).used; rw [hu]; exact hfi.used0, by show (j.dk.crash ks).used ≤ _; rw [hu]; exact hfi.used, by show (j.dk.crash ks).files.length ≤ _; rw [hf]; exact hfi.fl, ?_, hfi.small⟩, ?_, h.fc, h.ok.crash ks, h.sm⟩
  · show j.files ≠ 0 → (getB (j.dk.crash ks).files j.last).isSome = true
    rw [hf]; exact hfi.here
  · show DInv (j.dk.crash ks).files j.name j.per j.files j.es j.lasts
    rw [hf]; exact h.inv
theorem Jl.Good.stays (h : j.Good) : ∀ k, k + 1 < j.files → ((j.dk.file (segF j.name k)).lasts = (j.dk.file (segF j.name k)).data.length ∧ (j.dk.file (segF j.name k)).stays = true) := fun k hk => by
  obtain ⟨st, hg, hst⟩ := DInv.here h.inv k (by omega)
  unfold Dk.file
  rw [hg]
  have := DInv.below h.inv hk
  exact ⟨by rw [segL_take j.es this]; rfl, hst.resolve_right (by omega)⟩
/-- opened again -/
def Jl.again (j : Jl) : Jl := Jl.opened j.dk j.name j.per j.files j.es []
theorem Jl.Good.again (h : j.Good) (hn : j.es.length ≤ 80) (hp2 : j.per ≤ 4096) : j.again.Good := by
  have ho := h.opIn hn hp2
  refine ⟨ho.fine h.stays, ho.inv h.stays, h.fc, ?_, h.sm⟩
  show (j.dk.opened j.name j.per j.files j.es []).Ok
  by_cases h0 : j.files = 0
  · unfold Dk.opened; rw [if_pos h0]; exact h.ok
  · exact (ho.files h0).2.2.2
end
end Go.Proofs.YtejjfhhppjdcaaaGreatDoor
