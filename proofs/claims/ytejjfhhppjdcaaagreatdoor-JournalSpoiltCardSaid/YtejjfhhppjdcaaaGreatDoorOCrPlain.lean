/-
  Layer 5, plain: a journal's files behind a crash.
-/
import Derived.Test.YtejjfhhppjdcaaaGreatDoorOOpGood
namespace Go.Proofs.YtejjfhhppjdcaaaGreatDoor
open Go.RowKit Go.Maps Go.Sort

/-- how many entries are whole in so many bytes -/
def wholeB : List (Option Ev) → Nat → Nat
  | [], _ => 0
  | x :: l, n => if n < (sealE x).length then 0 else wholeB l (n - (sealE x).length) + 1
theorem wholeB_le : ∀ (l : List (Option Ev)) (n : Nat), wholeB l n ≤ l.length
  | [], _ => Nat.le_refl _
  | x :: l, n => by
    unfold wholeB
    split
    · exact Nat.zero_le _
    · have := wholeB_le l (n - (sealE x).length); simp; omega
theorem bytesL_cons (x : Option Ev) (l : List (Option Ev)) : (bytesL (x :: l)).length = (sealE x).length + (bytesL l).length := by simp [bytesL]
theorem wholeB_lo : ∀ (l : List (Option Ev)) (n : Nat), (bytesL (l.take (wholeB l n))).length ≤ n
  | [], _ => by simp [bytesL]
  | x :: l, n => by
    unfold wholeB
    split
    · simp [bytesL]
    · have := wholeB_lo l (n - (sealE x).length)
      rw [List.take_succ_cons, bytesL_cons]; omega
theorem wholeB_hi : ∀ (l : List (Option Ev)) (n : Nat), wholeB l n < l.length → n < (bytesL (l.take (wholeB l n + 1))).length
  | [], _, h => by simp [wholeB] at h
  | x :: l, n, h => by
    unfold wholeB at h ⊢
    split
    · next h1 => rw [List.take_succ_cons, bytesL_cons]; omega
    · next h1 =>
      rw [if_neg h1] at h
      have := wholeB_hi l (n - (sealE x).length) (by simp at h; omega)
      rw [List.take_succ_cons, bytesL_cons]; omega
/-- entries whose bytes are there are whole -/
theorem wholeB_ge : ∀ (l : List (Option Ev)) (n q : Nat), q ≤ l.length → (bytesL (l.take q)).length ≤ n → q ≤ wholeB l n
  | [], _, q, hq, _ => by simp at hq; omega
  | x :: l, n, 0, _, _ => Nat.zero_le _
  | x :: l, n, q + 1, hq, h => by
    rw [List.take_succ_cons, bytesL_cons] at h
    unfold wholeB
    rw [if_neg (by omega)]
    have := wholeB_ge l (n - (sealE x).length) q (by simpa using hq) (by omega)
    omega
theorem wholeB_zero (l : List (Option Ev)) : wholeB l 0 = 0 := by
  cases l with
  | nil => rfl
  | cons x l => unfold wholeB; rw [if_pos (by unfold sealE; rw [Frm.sealB_length]; omega)]
theorem bytesL_take_le (l : List (Option Ev)) (q : Nat) : (bytesL (l.take q)).length ≤ (bytesL l).length := by
  have : bytesL l = bytesL (l.take q) ++ bytesL (l.drop q) := by rw [← bytesL_append, List.take_append_drop]
  rw [this]; simp
/-- bytes of entries that are cut -/
theorem bytesL_cut (l : List (Option Ev)) (hl : ∀ e, some e ∈ l → mayB e = true) (n : Nat) (hn : n ≤ (bytesL l).length) :
    ∃ t, (bytesL l).take n = bytesL (l.take (wholeB l n)) ++ t ∧ Frm.allB ((bytesL l).take n) = ((l.take (wholeB l n)).map bytesE, ((bytesL (l.take (wholeB l n))).length, if t ≠ [] then 1 else 0)) := by
  have hlo := wholeB_lo l n
  have hb : ∀ p ∈ l.map bytesE, p.length ≤ 65536 := fun p hp => by
    obtain ⟨x, hx, rfl⟩ := List.mem_map.1 hp
    cases x with
    | none => simp [bytesE]
    | some e => have := (mayB_fit (hl e hx)).len; simp only [bytesE]; omega
  have he : ∀ q, Frm.endB (l.map bytesE) q = (bytesL (l.take q)).length := fun q => by unfold Frm.endB; rw [bytesL_cat, List.map_take]
  have hr := Frm.allB_rows (l.map bytesE) hb n (wholeB l n) (by rw [List.length_map]; exact wholeB_le l n) (by rw [he]; exact hlo) (fun h => by rw [he]; exact wholeB_hi l n (by simpa using h)) (by rw [he, List.length_map, List.take_length]; exact hn)
  rw [← bytesL_cat, he, ← List.map_take] at hr
  have hsp : bytesL l = bytesL (l.take (wholeB l n)) ++ bytesL (l.drop (wholeB l n)) := by rw [← bytesL_append, List.take_append_drop]
  refine ⟨(bytesL (l.drop (wholeB l n))).take (n - (bytesL (l.take (wholeB l n))).length), ?_, ?_⟩
  · conv => lhs; rw [hsp]
    rw [List.take_append, List.take_of_length_le hlo]
  · rw [hr]
    have hlen : ((bytesL (l.drop (wholeB l n))).take (n - (bytesL (l.take (wholeB l n))).length)).length = n - (bytesL (l.take (wholeB l n))).length := by
      have := congrArg List.length hsp
      rw [List.length_append] at this
      rw [List.length_take]; omega
    by_cases e : (bytesL (l.take (wholeB l n))).length = n
    · rw [if_pos e, if_neg]
      rw [Decidable.not_not]
      exact List.eq_nil_of_length_eq_zero (by rw [hlen]; omega)
    · rw [if_neg e, if_pos]
      intro h
      rw [h] at hlen; simp at hlen; omega
/-- how many bytes of the last file a crash leaves -/
def keptB (fs : Row Fl) (s : List UInt8) (per fc m : Nat) (L : List (Option Ev)) (ks : List Int) : Nat :=
  (Fl.kept ⟨bytesL (segL per (fc - 1) L), (bytesL (segL per (fc - 1) (L.take m))).length, false⟩ (kOf fs ks (segF s (fc - 1)))).toNat
def leftN (fs : Row Fl) (s : List UInt8) (per fc m : Nat) (L : List (Option Ev)) (ks : List Int) : Nat :=
  if fc = 0 then 0 else (fc - 1) * per + wholeB (segL per (fc - 1) L) (keptB fs s per fc m L ks)
structure CrOut (d : Dk) (s : List UInt8) (per m : Nat) (L : List (Option Ev)) (n : Nat) : Prop where
  lo : m ≤ n
  hi : n ≤ L.length
  op : ∃ fc t, OpIn d s per fc (L.take n) t ∧ ∀ k, k + 1 < fc → ((d.file (segF s k)).lasts = (d.file (segF s k)).data.length ∧ (d.file (segF s k)).stays = true)
theorem Dk.crash_file {d : Dk} (h : RowUp d.files) (ks : List Int) (s : List UInt8) : getB (d.crash ks).files s = (getB d.files s).bind fun f => if f.gone (kOf d.files ks s) then none else some (f.crash (kOf d.files ks s)) := getB_crash ks s h
theorem rising_of {m : Row Fl} (h : RowUp m) {ks : List (List UInt8)} (hk : ∀ s, (getB m s).isSome = true ↔ s ∈ ks) : Rising (m.map (·.1)) ks := by
  refine ⟨(keys_rising h).1, fun s => ?_⟩
  rw [← hk]
  constructor
  · intro hs
    obtain ⟨p, hp, rfl⟩ := List.mem_map.1 hs
    rw [getB_of_mem h hp]; rfl
  · intro hs
    obtain ⟨f, hf⟩ := Option.isSome_iff_exists.1 hs
    exact List.mem_map.2 ⟨_, getB_mem hf, rfl⟩
theorem crash_open {d : Dk} {s : List UInt8} {per fc m : Nat} {L : List (Option Ev)} (h : DInv d.files s per fc L m) (hok : d.Ok) (hs : s.length ≤ 24) (hp2 : per ≤ 4096) (hL : L.length ≤ 80) (hmay : ∀ e, some e ∈ L → mayB e = true) (ks : List Int) :
    CrOut (d.crash ks) s per m L (leftN d.files s per fc m L ks) := by
  have hp := h.per1
  have hm1 := h.m1
  have hm0 := h.m0
  have hfc := h.hi
  have hdv : L.length / per ≤ L.length := Nat.div_le_self _ _
  have hokc := hok.crash ks
  have hall : ∀ (P : Nat) (k : Nat), Frm.allB (bytesL (segL per k (L.take P))) = ((segL per k (L.take P)).map bytesE, ((bytesL (segL per k (L.take P))).length, 0)) := fun P k => by
    have hm : ∀ e, some e ∈ segL per k (L.take P) → mayB e = true := fun e he => hmay e (List.mem_of_mem_take (List.mem_of_mem_drop (List.mem_of_mem_take he)))
    obtain ⟨t, e1, e2⟩ := bytesL_cut (segL per k (L.take P)) hm _ (Nat.le_refl _)
    have hw : wholeB (segL per k (L.take P)) (bytesL (segL per k (L.take P))).length = (segL per k (L.take P)).length := by
      have h1 := wholeB_ge (segL per k (L.take P)) (bytesL (segL per k (L.take P))).length _ (Nat.le_refl _) (by rw [List.take_length]; exact Nat.le_refl _)
      have h2 := wholeB_le (segL per k (L.take P)) (bytesL (segL per k (L.take P))).length
      omega
    rw [hw, List.take_length, List.take_length] at e1 e2
    have ht : t = [] := by
      have := congrArg List.length e1
      rw [List.length_append] at this
      exact List.eq_nil_of_length_eq_zero (by omega)
    rw [e2, ht]; simp
  have hsmall : ∀ (P k : Nat), (bytesL (segL per k (L.take P))).length ≤ 100000 := fun P k => by
    have h1 := bytesL_max (L := segL per k (L.take P)) (fun e he => hmay e (List.mem_of_mem_take (List.mem_of_mem_drop (List.mem_of_mem_take he))))
    have h2 : (segL per k (L.take P)).length ≤ L.length := by rw [segL_length, List.length_take]; omega
    omega
  by_cases h0 : fc = 0
  · have hl0 : L.length = 0 := by have := h.last; rw [h0] at this; omega
    have hL0 : L = [] := List.eq_nil_of_length_eq_zero hl0
    have hf : d.files = [] := by
      cases hd : d.files with
      | nil => rfl
      | cons y r => obtain ⟨k, hk, _⟩ := h.only y (by rw [hd]; simp); omega
    have hfc : (d.crash ks).files = [] := by show crashR d.files ks = []; rw [hf]; rfl
    refine ⟨by omega, by unfold leftN; rw [if_pos h0]; omega, 0, [], ⟨hokc, rfl, rfl, ?_, hs, hp, hp2, by omega, by simp [hL0], by simp [hL0], fun k hk => by omega, fun k hk => by omega, fun k hk => by omega, by simp [hL0], Nat.zero_le _, fun k hk => by omega⟩, fun k hk => by omega⟩
    rw [hfc]; exact ⟨by simp, by simp [fileNs]⟩
  -- the last file
  obtain ⟨b, hb⟩ : ∃ b, b = (fc - 1) * per := ⟨_, rfl⟩
  have hlast := h.last
  have hfcs : fc * per = b + per := by rw [hb, ← Nat.succ_mul]; congr 1; omega
  obtain ⟨st, hg, hst⟩ := h.here (fc - 1) (by omega)
  obtain ⟨kv, hkv⟩ : ∃ kv, kv = kOf d.files ks (segF s (fc - 1)) := ⟨_, rfl⟩
  obtain ⟨A, hA⟩ : ∃ A, A = segL per (fc - 1) L := ⟨_, rfl⟩
  have hAl : A.length = L.length - b := by rw [hA, segL_length, ← hb]; omega
  have hAd : A = L.drop b := by rw [hA, segL_last L (by rw [show fc - 1 + 1 = fc by omega]; exact hlast), hb]
  have hAm : ∀ e, some e ∈ A → mayB e = true := fun e he => hmay e (by rw [hAd] at he; exact List.mem_of_mem_drop he)
  have hAt : segL per (fc - 1) (L.take m) = A.take (m - b) := by rw [segL_takeM, ← hA, ← hb]
  rw [hAt, ← hA] at hg
  have hsure : (bytesL (A.take (m - b))).length ≤ (bytesL A).length := bytesL_take_le _ _
  obtain ⟨q, hq⟩ : ∃ q, q = keptB d.files s per fc m L ks := ⟨_, rfl⟩
  have hqi : ((q : Nat) : Int) = (bytesL (A.take (m - b))).length + min (max kv 0) ((bytesL A).length - (bytesL (A.take (m - b))).length) := by
    rw [hq]; unfold keptB
    rw [hAt, ← hA, ← hkv]
    unfold Fl.kept
    simp only; omega
  have hq1 : (bytesL (A.take (m - b))).length ≤ q := by omega
  have hq2 : q ≤ (bytesL A).length := by omega
  have hN : leftN d.files s per fc m L ks = b + wholeB A q := by unfold leftN; rw [if_neg h0, ← hb, ← hA, ← hq]
  obtain ⟨W, hW⟩ : ∃ W, W = wholeB A q := ⟨_, rfl⟩
  have hWl : W ≤ A.length := by rw [hW]; exact wholeB_le _ _
  have hWm : m - b ≤ W := by rw [hW]; exact wholeB_ge A q _ (by omega) hq1
  have hmb : b ≤ m := by rw [hb]; exact hm0
  rw [hN, ← hW]
  have hcf : ∀ x, getB (d.crash ks).files x = _ := fun x => Dk.crash_file h.up ks x
  have hother : ∀ k, k + 1 < fc → getB (d.crash ks).files (segF s k) = some ⟨bytesL (segL per k L), (bytesL (segL per k L)).length, true⟩ := fun k hk => by
    obtain ⟨st', hg', hst'⟩ := h.here k (by omega)
    have ht : st' = true := hst'.resolve_right (by omega)
    rw [hcf, hg', segL_take L (h.below hk), ht]
    have hk' : ∀ z, Fl.kept ⟨bytesL (segL per k L), (bytesL (segL per k L)).length, true⟩ z = (bytesL (segL per k L)).length := fun z => by unfold Fl.kept; simp only; omega
    simp only [Option.bind_some]
    unfold Fl.gone Fl.crash
    rw [hk']
    simp
  have hfile : ∀ x f, getB (d.crash ks).files x = some f → (d.crash ks).file x = f := fun x f hf => by unfold Dk.file; rw [hf]; rfl
  have hlastc : getB (d.crash ks).files (segF s (fc - 1)) = if (!st && q == 0) = true then none else some ⟨(bytesL A).take q, q, true⟩ := by
    rw [hcf, hg]
    simp only [Option.bind_some]
    rw [← hkv]
    have hk' : Fl.kept ⟨bytesL A, (bytesL (A.take (m - b))).length, st⟩ kv = q := by rw [hqi]; rfl
    unfold Fl.gone Fl.crash
    rw [hk']
    simp
  have hnone : ∀ x, getB d.files x = none → getB (d.crash ks).files x = none := fun x hx => by rw [hcf, hx]; rfl
  have hkey : ∀ x, (∀ k, k < fc → x ≠ segF s k) → getB (d.crash ks).files x = none := fun x hx => hnone x (getB_none_of fun p hp e => by
    obtain ⟨k, hk, e'⟩ := h.only p hp
    exact hx k hk (e ▸ e'))
  have hbL : b ≤ L.length := by omega
  have hfull : ∀ P k, b ≤ P → k + 1 < fc → segL per k (L.take P) = segL per k L := fun P k hP hk => segL_take L (by
    have : (k + 1) * per ≤ (fc - 1) * per := Nat.mul_le_mul_right _ (by omega)
    omega)
  have hful2 : ∀ P k, b ≤ P → P ≤ L.length → k + 1 < fc → (k + 1) * per ≤ (L.take P).length := fun P k hP hP2 hk => by
    have : (k + 1) * per ≤ (fc - 1) * per := Nat.mul_le_mul_right _ (by omega)
    rw [List.length_take]; omega
  refine ⟨by omega, by omega, ?_⟩
  have hmayt : ∀ P e, some e ∈ L.take P → mayB e = true := fun P e he => hmay e (List.mem_of_mem_take he)
  by_cases hgone : (!st && q == 0) = true
  · -- the last file is gone
    rw [if_pos hgone] at hlastc
    simp at hgone
    have hW0 : W = 0 := by rw [hW, hgone.2]; exact wholeB_zero A
    rw [hW0, Nat.add_zero]
    have hlen : (L.take b).length = b := by rw [List.length_take]; omega
    refine ⟨fc - 1, [], ⟨hokc, rfl, rfl, rising_of hokc.up fun x => ?_, hs, hp, hp2, by omega, by omega, hmayt _, fun k hk => ?_, fun k hk => ?_, fun k hk => ?_, by rw [hlen, hb]; exact Nat.le_refl _, ?_, fun k hk => ?_⟩, fun k hk => ?_⟩
    · constructor
      · intro hx
        refine Decidable.byContradiction fun hc => ?_
        have : getB (d.crash ks).files x = none := by
          by_cases e : x = segF s (fc - 1)
          · rw [e]; exact hlastc
          · refine hkey x fun k hk e' => ?_
            by_cases e2 : k = fc - 1
            · subst e2; exact e e'
            · exact hc (List.mem_map.2 ⟨k, List.mem_range.2 (by omega), e'.symm⟩)
        rw [this] at hx; cases hx
      · intro hx
        obtain ⟨k, hk, rfl⟩ := List.mem_map.1 hx
        rw [hother k (by have := List.mem_range.1 hk; omega)]; rfl
    · rw [hfile _ _ (hother k (by omega)), hfull b k (Nat.le_refl _) (by omega)]; simp
    · rw [show (if k + 1 = fc - 1 then ([] : List UInt8) else []) = [] by split <;> rfl, List.append_nil, hall]
      simp
    · exact hful2 b k (Nat.le_refl _) hbL (by omega)
    · rw [hlen, hb, Nat.mul_div_cancel _ (by omega)]; omega
    · rw [show (if k + 1 = fc - 1 then ([] : List UInt8) else []) = [] by split <;> rfl, List.append_nil]
      have := hsmall b k; omega
    · rw [hfile _ _ (hother k (by omega))]; exact ⟨rfl, rfl⟩
  · rw [if_neg hgone] at hlastc
    have hlen : (L.take (b + W)).length = b + W := by rw [List.length_take]; omega
    have hsegl : segL per (fc - 1) (L.take (b + W)) = A.take W := by rw [segL_takeM, ← hA, ← hb, Nat.add_sub_cancel_left]
    obtain ⟨t, e1, e2⟩ := bytesL_cut A hAm q hq2
    rw [← hW] at e1 e2
    refine ⟨fc, t, ⟨hokc, rfl, rfl, rising_of hokc.up fun x => ?_, hs, hp, hp2, by omega, by omega, hmayt _, fun k hk => ?_, fun k hk => ?_, fun k hk => ?_, by omega, ?_, fun k hk => ?_⟩, fun k hk => ?_⟩
    · constructor
      · intro hx
        refine Decidable.byContradiction fun hc => ?_
        have : getB (d.crash ks).files x = none := hkey x fun k hk e' => hc (List.mem_map.2 ⟨k, List.mem_range.2 (by omega), e'.symm⟩)
        rw [this] at hx; cases hx
      · intro hx
        obtain ⟨k, hk, rfl⟩ := List.mem_map.1 hx
        have hk := List.mem_range.1 hk
        by_cases e : k = fc - 1
        · rw [e, hlastc]; rfl
        · rw [hother k (by omega)]; rfl
    · by_cases e : k = fc - 1
      · rw [if_pos (by omega), e, hfile _ _ hlastc, hsegl]; exact e1
      · rw [if_neg (by omega), hfile _ _ (hother k (by omega)), hfull _ k (by omega) (by omega)]; simp
    · by_cases e : k = fc - 1
      · rw [if_pos (by omega), e, hsegl, ← e1, e2]
        by_cases ht : t = []
        · simp [ht]
        · rw [if_pos ht, if_pos ⟨by omega, ht⟩]
      · rw [if_neg (by omega), List.append_nil, hall, if_neg (by omega)]
    · exact hful2 _ k (by omega) (by omega) hk
    · rw [hlen]
      have : fc - 1 ≤ (b + W) / per := by
        rw [Nat.le_div_iff_mul_le (by omega), ← hb]; omega
      omega
    · by_cases e : k = fc - 1
      · rw [if_pos (by omega), e, hsegl, ← e1, List.length_take]
        have h1 := bytesL_max hAm
        omega
      · rw [if_neg (by omega), List.append_nil]
        have := hsmall (b + W) k; omega
    · rw [hfile _ _ (hother k (by omega))]; exact ⟨rfl, rfl⟩
end Go.Proofs.YtejjfhhppjdcaaaGreatDoor
