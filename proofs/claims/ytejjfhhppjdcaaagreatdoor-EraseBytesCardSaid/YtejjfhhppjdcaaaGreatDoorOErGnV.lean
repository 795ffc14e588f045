/-
  Layer 31: erase.Gone: who is gone, rising.
  Slices of events, as values.
-/
import Derived.Test.YtejjfhhppjdcaaaGreatDoorOErPplCln
import Derived.Test.YtejjfhhppjdcaaaGreatDoorODk7
import Derived.OwnWalkIn
import Derived.Test.YtejjfhhppjdcaaaGreatDoorORef02
namespace Go.Proofs.YtejjfhhppjdcaaaGreatDoor
open Go.RowKit Go.Maps Go.Sort Go.Shelf

def GonePost (w : World) (ks : List (List UInt8)) (e : Ending) (w' : World) : Prop :=
  ∃ v r, e = .returned v ∧ Rising r ks ∧ w'.ownsRow w.heap.size 9 1 v r.length (r.map encStr) ∧ Below w.heap.size w w'

theorem nodup_dedup (ks : List (List UInt8)) : ∃ ss : List (List UInt8), ss.Nodup ∧ ∀ x, x ∈ ss ↔ x ∈ ks := by
  induction ks with
  | nil => exact ⟨[], List.nodup_nil, fun x => Iff.rfl⟩
  | cons k ks ih =>
    obtain ⟨ss, h1, h2⟩ := ih
    by_cases h : k ∈ ks
    · exact ⟨ss, h1, fun x => by rw [h2 x]; simp; intro e; subst e; exact h⟩
    · exact ⟨k :: ss, List.nodup_cons.2 ⟨fun hk => h ((h2 k).1 hk), h1⟩, fun x => by simp [h2 x]⟩

set_option maxHeartbeats 2000000 in
theorem gone_any (w : World) (A : Option Addr) (n c : Nat) (es : List Ev) (h : Evs w w.heap.size A n c es) (hn : n ≤ 1000) (hsm : ∀ e ∈ es, e.small) :
    Calls Tryz.prog 86 #[.slice A n c] w (GonePost w (goneL es)) := by
  have HH := Lib.hid h; clear h
  have HSM := Lib.hid hsm; clear hsm
  refine (callsIn_wide (n := 6)).1 ?_
  have hfP : Fence.wide.fn 89 := trivial
  have hfK : Fence.wide.fn 115 := trivial
  have hfS : Fence.wide.fn 69 := trivial
  refine callsIn_of_wp Tryz.func86 rfl trivial ?_ rfl
  simp only [Tryz.ntmps86, List.size_toArray, List.length_cons, List.length_nil, Nat.reduceAdd, Nat.reduceSub, Array.replicate_succ, Array.replicate_zero, List.push_toArray, List.append_toArray, List.nil_append, List.cons_append]
  gi_wp2_with fail
  refine (callsIn_wide.2 (people_any w A n c es HH.out hn HSM.out)).mono ?_
  rintro e w1 ⟨b, m, rfl, hset, hb, hm, hbel⟩
  obtain ⟨D, hD1, hD2, hD3⟩ := hset
  have HD := Lib.hid hD1
  have hDs : Maps.size D ≤ m := hD1.size_le
  have hle : m ≤ 1000 := by rw [HH.out.len] at hm; omega
  gi_wp2_with fail
  refine (Tryz.maps_Keys_115 _ _).mono ?_
  rintro e w2 ⟨rfl, rfl⟩
  gi_wp2_with fail
  refine (Tryz.slices_Sorted_keys_69_115 b m D _ w1 HD.out (by unfold maxLen; omega) (by omega)).mono ?_
  rintro e w3 ⟨v, ss, rfl, hS, hrow, hnil, hb3⟩
  gi_wp2_with fail
  go_ret
  obtain ⟨ks, hk1, hk2⟩ := nodup_dedup (goneL es)
  have hp : ks.Perm (strKeys D) := SetB.perm HD.out (fun k => (hD3 k).2) hk1 hk2
  have hpp : ss.Perm ks := hS.trans hp.symm
  have hnd : ss.Nodup := hpp.nodup_iff.2 hk1
  have hr := rising_sort hnd (fun x => hpp.mem_iff.trans (hk2 x))
  have hlen : (ss.mergeSort (fun x y => decide (x ≤ y))).length = ss.length := List.length_mergeSort _
  have hs1 := hbel.size
  refine ⟨v, ss.mergeSort (fun x y => decide (x ≤ y)), rfl, hr, ?_, ?_⟩
  · rw [hlen]
    refine ⟨hrow.1, ?_⟩
    rcases hrow.2 with ⟨e, hl⟩ | ⟨g, cap, cur, e, hb', hg, hrr⟩
    · exact .inl ⟨e, hl⟩
    · exact .inr ⟨g, cap, cur, e, by simp at hb'; omega, hg, hrr⟩
  · exact (hbel.alloc hs1 _).trans (hb3.mono (by simp; omega))
end Go.Proofs.YtejjfhhppjdcaaaGreatDoor
namespace Go.Proofs.YtejjfhhppjdcaaaGreatDoor
open Go.RowKit Go.Maps Go.Sort

def EvsV (w : World) (v : Value) (es : List Ev) : Prop := ∃ A c, v = .slice A es.length c ∧ Evs w w.heap.size A es.length c es
theorem EvsV.below {w w' : World} {v : Value} {es : List Ev} (h : EvsV w v es) (hb : Below w.heap.size w w') : EvsV w' v es := by
  obtain ⟨A, c, e, h1⟩ := h
  exact ⟨A, c, e, Cel.more (Cel.below h1 hb) hb.size⟩
theorem EvsV.of_own {w : World} {base : Nat} {v : Value} {es : List Ev} (h : OwnE w base v es) : EvsV w v es := by
  obtain ⟨A, c, e⟩ := ownsRow_form h
  subst e
  exact ⟨A, c, rfl, Cel.of_own h⟩


theorem rising_length {r ks : List (List UInt8)} (h : Rising r ks) : r.length ≤ ks.length := by
  have hnd : r.Nodup := List.pairwise_iff_getElem.2 fun i j hi hj hij e => by
    have := List.pairwise_iff_getElem.1 h.1 i j hi hj hij
    rw [e] at this
    exact lt_irr _ this
  have key : ∀ (r ks : List (List UInt8)), r.Nodup → (∀ x, x ∈ r → x ∈ ks) → r.length ≤ ks.length := by
    intro r
    induction r with
    | nil => intro ks _ _; simp
    | cons a l ih =>
      intro ks hnd hsub
      have hnd' := List.nodup_cons.1 hnd
      have ha : a ∈ ks := hsub a List.mem_cons_self
      have := ih (ks.erase a) hnd'.2 (fun x hx => by
        have hxa : x ≠ a := fun e => hnd'.1 (by rw [← e]; exact hx)
        exact (List.mem_erase_of_ne hxa).2 (hsub x (List.mem_cons_of_mem _ hx)))
      rw [List.length_erase_of_mem ha] at this
      have := List.length_pos_of_mem ha
      simp only [List.length_cons]
      omega
  exact key r ks hnd fun x hx => (h.2 x).1 hx

end Go.Proofs.YtejjfhhppjdcaaaGreatDoor
