/-
  Layer 5, plain: what is counted behind an erasing that was cut off.
-/
import Derived.Test.YtejjfhhppjdcaaaGreatDoorOCutPl
import Derived.Test.YtejjfhhppjdcaaaGreatDoorORJl1
namespace Go.Proofs.YtejjfhhppjdcaaaGreatDoor
open Go.RowKit Go.Maps Go.Sort

theorem erE_erE (kb : Ev → Bool) (x : Option Ev) : erE kb (erE kb x) = erE kb x := by
  cases x with
  | none => rfl
  | some e =>
    cases h : kb e
    · simp [erE, h]
    · simp [erE, h]
theorem goesB_erE (kb : Ev → Bool) (x : Option Ev) : goesB kb (erE kb x) = false := by
  cases x with
  | none => rfl
  | some e =>
    unfold erE
    simp only
    split
    · next h => simp [goesB, h]
    · rfl
theorem cntE_erased (kb : Ev → Bool) (l : List (Option Ev)) : cntE kb (l.map (erE kb)) = 0 := by
  unfold cntE
  rw [List.length_eq_zero_iff, List.filter_eq_nil_iff]
  intro x hx
  obtain ⟨y, _, rfl⟩ := List.mem_map.1 hx
  rw [goesB_erE]; simp
theorem cut_left (kb : Ev → Bool) (L : List (Option Ev)) (P : Nat) : cntE kb (erRow kb L P) = cntE kb (L.drop P) := by
  unfold erRow
  rw [cntE_append, cntE_erased, Nat.zero_add]
theorem cut_all (kb : Ev → Bool) (L : List (Option Ev)) (P : Nat) : cntE kb L = cntE kb (L.take P) + cntE kb (erRow kb L P) := by
  rw [cut_left, ← cntE_append, List.take_append_drop]
theorem cut_none {kb : Ev → Bool} {L : List (Option Ev)} {P : Nat} (h : L.length ≤ P) : cntE kb (erRow kb L P) = 0 := by
  rw [cut_left, List.drop_eq_nil_of_le h]; rfl
theorem erRow_er (kb : Ev → Bool) (L : List (Option Ev)) (P : Nat) : (erRow kb L P).map (erE kb) = L.map (erE kb) := by
  unfold erRow
  rw [List.map_append, List.map_map, show erE kb ∘ erE kb = erE kb from funext (erE_erE kb), ← List.map_append, List.take_append_drop]
theorem rdEv_er (kb : Ev → Bool) : ∀ ds : List Ev, rdEv ((ds.map some).map (erE kb)) = ds.filter kb
  | [] => rfl
  | e :: ds => by
    have ih := rdEv_er kb ds
    unfold rdEv at ih ⊢
    simp only [List.map_cons, List.filterMap_cons, List.filter_cons, erE]
    cases h : kb e
    · simp only [if_false, Bool.false_eq_true, id_eq]; exact ih
    · simp only [if_true, id_eq]; rw [ih]
theorem filter_cnt (kb : Ev → Bool) : ∀ ds : List Ev, (ds.filter kb).length + cntE kb (ds.map some) = ds.length
  | [] => rfl
  | e :: ds => by
    have ih := filter_cnt kb ds
    have e1 : cntE kb ((e :: ds).map some) = (if kb e then 0 else 1) + cntE kb (ds.map some) := by
      have : (e :: ds).map some = [some e] ++ ds.map some := rfl
      rw [this, cntE_append]
      unfold cntE
      cases h : kb e <;> simp [goesB, h]
    rw [e1, List.filter_cons]
    cases h : kb e
    · simp; omega
    · simp; omega
theorem cut_case (kb : Ev → Bool) (ds : List Ev) (P k : Nat) (hk : k < ds.length) (hk' : k < (erRow kb (ds.map some) P).length) :
    (kb ds[k] = true ∧ (erRow kb (ds.map some) P)[k] = some ds[k]) ∨ (kb ds[k] = false ∧ ((erRow kb (ds.map some) P)[k] = some ds[k] ∨ (erRow kb (ds.map some) P)[k] = none)) := by
  have h0 : (erRow kb (ds.map some) P)[k]? = some (if k < P then erE kb (some ds[k]) else some ds[k]) := by
    unfold erRow
    have hl : (((ds.map some).take P).map (erE kb)).length = min P ds.length := by simp
    have hk2 : (ds.map some)[k]? = some (some ds[k]) := by rw [List.getElem?_map, List.getElem?_eq_getElem hk]; rfl
    by_cases hkP : k < P
    · rw [if_pos hkP, List.getElem?_append_left (by rw [hl]; omega), List.getElem?_map, List.getElem?_take_of_lt hkP, hk2]; rfl
    · rw [if_neg hkP, List.getElem?_append_right (by rw [hl]; omega), List.getElem?_drop, hl, show P + (k - min P ds.length) = k by omega, hk2]
  have h1 : (erRow kb (ds.map some) P)[k] = if k < P then erE kb (some ds[k]) else some ds[k] := by
    rw [List.getElem?_eq_getElem hk'] at h0
    exact Option.some.inj h0
  rw [h1]
  cases hkb : kb ds[k]
  · right
    refine ⟨rfl, ?_⟩
    split
    · right; simp [erE, hkb]
    · left; rfl
  · left
    refine ⟨rfl, ?_⟩
    split
    · simp [erE, hkb]
    · rfl
theorem cntE_take {kb : Ev → Bool} {l : List (Option Ev)} {k : Nat} (hk : k < l.length) : cntE kb (l.take (k + 1)) = cntE kb (l.take k) + (if goesB kb l[k] then 1 else 0) := by
  rw [List.take_add_one, List.getElem?_eq_getElem hk, Option.toList_some, cntE_snoc]
end Go.Proofs.YtejjfhhppjdcaaaGreatDoor
