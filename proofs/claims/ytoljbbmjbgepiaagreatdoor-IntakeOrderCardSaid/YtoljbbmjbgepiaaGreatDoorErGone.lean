/-
  Layer 31: erase.Gone: who is gone, rising.
-/
import Derived.Test.YtoljbbmjbgepiaaGreatDoorErPplCln
import Derived.OwnWalkIn
namespace Go.Proofs.YtoljbbmjbgepiaaGreatDoor
open Go.RowKit Go.Maps Go.Sort Go.Shelf

/-- a rising row of texts that holds just these -/
def Rising (r ks : List (List UInt8)) : Prop := r.Pairwise (· < ·) ∧ ∀ x, x ∈ r ↔ x ∈ ks

theorem lt_irr (x : List UInt8) : ¬ x < x := List.lt_irrefl x
theorem lt_asy {x y : List UInt8} (h : x < y) (h' : y < x) : False := lt_irr x (List.lt_trans h h')

theorem rising_unique {r r' ks : List (List UInt8)} (h : Rising r ks) (h' : Rising r' ks) : r = r' := by
  have key : ∀ (r r' : List (List UInt8)), r.Pairwise (· < ·) → r'.Pairwise (· < ·) → (∀ x, x ∈ r ↔ x ∈ r') → r = r' := by
    intro r
    induction r with
    | nil => intro r' _ _ hm; cases r' with
      | nil => rfl
      | cons a l => exact absurd ((hm a).2 List.mem_cons_self) (by simp)
    | cons a l ih =>
      intro r' h1 h2 hm
      cases r' with
      | nil => exact absurd ((hm a).1 List.mem_cons_self) (by simp)
      | cons b l' =>
        have h1' := List.pairwise_cons.1 h1
        have h2' := List.pairwise_cons.1 h2
        have hab : a = b := by
          rcases List.mem_cons.1 ((hm a).1 List.mem_cons_self) with e | e
          · exact e
          · rcases List.mem_cons.1 ((hm b).2 List.mem_cons_self) with e' | e'
            · exact e'.symm
            · exact (lt_asy (h1'.1 b e') (h2'.1 a e)).elim
        subst hab
        congr 1
        refine ih l' h1'.2 h2'.2 fun x => ⟨fun hx => ?_, fun hx => ?_⟩
        · rcases List.mem_cons.1 ((hm x).1 (List.mem_cons_of_mem _ hx)) with e | e
          · subst e; exact (lt_irr x (h1'.1 x hx)).elim
          · exact e
        · rcases List.mem_cons.1 ((hm x).2 (List.mem_cons_of_mem _ hx)) with e | e
          · subst e; exact (lt_irr x (h2'.1 x hx)).elim
          · exact e
  exact key r r' h.1 h'.1 fun x => (h.2 x).trans (h'.2 x).symm

theorem rising_sort {ss ks : List (List UInt8)} (hnd : ss.Nodup) (hm : ∀ x, x ∈ ss ↔ x ∈ ks) : Rising (ss.mergeSort (fun x y => decide (x ≤ y))) ks := by
  have hp := List.mergeSort_perm ss (fun x y => decide (x ≤ y))
  have hs := List.pairwise_mergeSort (le := fun x y : List UInt8 => decide (x ≤ y)) (fun a b c h1 h2 => by simp at *; exact List.le_trans h1 h2) (fun a b => by simp; exact List.le_total a b) ss
  have hn : (ss.mergeSort (fun x y => decide (x ≤ y))).Nodup := hp.nodup_iff.2 hnd
  refine ⟨?_, fun x => hp.mem_iff.trans (hm x)⟩
  refine List.pairwise_iff_getElem.2 fun i j hi hj hij => ?_
  have h1 := List.pairwise_iff_getElem.1 hs i j hi hj hij
  have h2 := List.pairwise_iff_getElem.1 hn i j hi hj hij
  generalize (ss.mergeSort (fun x y => decide (x ≤ y)))[i] = a at *
  generalize (ss.mergeSort (fun x y => decide (x ≤ y)))[j] = b at *
  have h1' : a ≤ b := by simpa using h1
  rcases Decidable.em (a < b) with h | h
  · exact h
  · exact absurd (List.le_antisymm h1' (by exact List.not_lt.1 h)) h2

def GonePost (w : World) (ks : List (List UInt8)) (e : Ending) (w' : World) : Prop :=
  ∃ v r, e = .returned v ∧ Rising r ks ∧ w'.ownsRow w.heap.size 9 1 v r.length (r.map encStr) ∧ Below w.heap.size w w'

theorem nodup_dedup (ks : List (List UInt8)) : ∃ ss : List (List UInt8), ss.Nodup ∧ ∀ x, x ∈ ss ↔ x ∈ ks := by
  induction ks with
  | nil => exact ⟨[], List.nodup_nil, fun x => Iff.rfl⟩
  | cons k ks ih =>
    obtain ⟨ss, h1, h2⟩ := ih
    by_cases h : k ∈ ks
    · exact ⟨ss, h1, fun x => by rw [h2 x]; simp; intro e; subst e; exact h⟩
    · exact ⟨k :: ss, List.nodup_cons.2 ⟨fun hk => h ((h2 k).1 hk), h1⟩, fun x => by simp [h2 x]⟩

set_option maxHeartbeats 2000000 in
theorem gone_any (w : World) (A : Option Addr) (n c : Nat) (es : List Ev) (h : Evs w w.heap.size A n c es) (hn : n ≤ 1000) (hsm : ∀ e ∈ es, e.small) :
    Calls Tryz.prog 49 #[.slice A n c] w (GonePost w (goneL es)) := by
  have HH := Lib.hid h; clear h
  have HSM := Lib.hid hsm; clear hsm
  refine (callsIn_wide (n := 6)).1 ?_
  have hfP : Fence.wide.fn 62 := trivial
  have hfK : Fence.wide.fn 48 := trivial
  have hfS : Fence.wide.fn 47 := trivial
  refine callsIn_of_wp Tryz.func49 rfl trivial ?_ rfl
  simp only [Tryz.ntmps49, List.size_toArray, List.length_cons, List.length_nil, Nat.reduceAdd, Nat.reduceSub, Array.replicate_succ, Array.replicate_zero, List.push_toArray, List.append_toArray, List.nil_append, List.cons_append]
  gi_wp2_with fail
  refine (callsIn_wide.2 (people_any w A n c es HH.out hn HSM.out)).mono ?_
  rintro e w1 ⟨b, m, rfl, hset, hb, hm, hbel⟩
  obtain ⟨D, hD1, hD2, hD3⟩ := hset
  have HD := Lib.hid hD1
  have hDs : Maps.size D ≤ m := hD1.size_le
  have hle : m ≤ 1000 := by rw [HH.out.len] at hm; omega
  gi_wp2_with fail
  refine (Tryz.maps_Keys_48 _ _).mono ?_
  rintro e w2 ⟨rfl, rfl⟩
  gi_wp2_with fail
  refine (Tryz.slices_Sorted_keys_47_48 b m D _ w1 HD.out (by unfold maxLen; omega) (by omega)).mono ?_
  rintro e w3 ⟨v, ss, rfl, hS, hrow, hnil, hb3⟩
  gi_wp2_with fail
  go_ret
  obtain ⟨ks, hk1, hk2⟩ := nodup_dedup (goneL es)
  have hp : ks.Perm (strKeys D) := SetB.perm HD.out (fun k => (hD3 k).2) hk1 hk2
  have hpp : ss.Perm ks := hS.trans hp.symm
  have hnd : ss.Nodup := hpp.nodup_iff.2 hk1
  have hr := rising_sort hnd (fun x => hpp.mem_iff.trans (hk2 x))
  have hlen : (ss.mergeSort (fun x y => decide (x ≤ y))).length = ss.length := List.length_mergeSort _
  have hs1 := hbel.size
  refine ⟨v, ss.mergeSort (fun x y => decide (x ≤ y)), rfl, hr, ?_, ?_⟩
  · rw [hlen]
    refine ⟨hrow.1, ?_⟩
    rcases hrow.2 with ⟨e, hl⟩ | ⟨g, cap, cur, e, hb', hg, hrr⟩
    · exact .inl ⟨e, hl⟩
    · exact .inr ⟨g, cap, cur, e, by simp at hb'; omega, hg, hrr⟩
  · exact (hbel.alloc hs1 _).trans (hb3.mono (by simp; omega))
end Go.Proofs.YtoljbbmjbgepiaaGreatDoor
