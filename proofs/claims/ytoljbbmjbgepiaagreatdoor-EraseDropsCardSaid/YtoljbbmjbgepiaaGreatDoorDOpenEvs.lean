/-
  Layer 31: erase.Gone: who is gone, rising.
  Layer 31: the document's Same of events.
  Layer 31: the law's long.
  Layer 31: the chapter's example (awake).
  What a slice of bytes that came in reads as.
  What a slice of events that came in reads as, and how long its texts can be.
  A world for the witness: the settled one, where the two tables of unicode/utf8 hold what their initialisers lay.
-/
import Derived.Test.YtoljbbmjbgepiaaGreatDoorDErPplCln
import Derived.OwnWalkIn
import Derived.Test.YtoljbbmjbgepiaaGreatDoorDRef02
import Derived.StillTailTactics
import Derived.Test.YtoljbbmjbgepiaaGreatDoorDBase
import Derived.ProofKit
import Derived.OpenShut
import Derived.ShutString
import Derived.ChangeOld
import Derived.Deep.Slices
import Derived.SizedLaws
namespace Go.Proofs.YtoljbbmjbgepiaaGreatDoor
open Go.RowKit Go.Maps Go.Sort Go.Shelf

/-- a rising row of texts that holds just these -/
def Rising (r ks : List (List UInt8)) : Prop := r.Pairwise (· < ·) ∧ ∀ x, x ∈ r ↔ x ∈ ks

theorem lt_irr (x : List UInt8) : ¬ x < x := List.lt_irrefl x
theorem lt_asy {x y : List UInt8} (h : x < y) (h' : y < x) : False := lt_irr x (List.lt_trans h h')

theorem rising_unique {r r' ks : List (List UInt8)} (h : Rising r ks) (h' : Rising r' ks) : r = r' := by
  have key : ∀ (r r' : List (List UInt8)), r.Pairwise (· < ·) → r'.Pairwise (· < ·) → (∀ x, x ∈ r ↔ x ∈ r') → r = r' := by
    intro r
    induction r with
    | nil => intro r' _ _ hm; cases r' with
      | nil => rfl
      | cons a l => exact absurd ((hm a).2 List.mem_cons_self) (by simp)
    | cons a l ih =>
      intro r' h1 h2 hm
      cases r' with
      | nil => exact absurd ((hm a).1 List.mem_cons_self) (by simp)
      | cons b l' =>
        have h1' := List.pairwise_cons.1 h1
        have h2' := List.pairwise_cons.1 h2
        have hab : a = b := by
          rcases List.mem_cons.1 ((hm a).1 List.mem_cons_self) with e | e
          · exact e
          · rcases List.mem_cons.1 ((hm b).2 List.mem_cons_self) with e' | e'
            · exact e'.symm
            · exact (lt_asy (h1'.1 b e') (h2'.1 a e)).elim
        subst hab
        congr 1
        refine ih l' h1'.2 h2'.2 fun x => ⟨fun hx => ?_, fun hx => ?_⟩
        · rcases List.mem_cons.1 ((hm x).1 (List.mem_cons_of_mem _ hx)) with e | e
          · subst e; exact (lt_irr x (h1'.1 x hx)).elim
          · exact e
        · rcases List.mem_cons.1 ((hm x).2 (List.mem_cons_of_mem _ hx)) with e | e
          · subst e; exact (lt_irr x (h2'.1 x hx)).elim
          · exact e
  exact key r r' h.1 h'.1 fun x => (h.2 x).trans (h'.2 x).symm

theorem rising_sort {ss ks : List (List UInt8)} (hnd : ss.Nodup) (hm : ∀ x, x ∈ ss ↔ x ∈ ks) : Rising (ss.mergeSort (fun x y => decide (x ≤ y))) ks := by
  have hp := List.mergeSort_perm ss (fun x y => decide (x ≤ y))
  have hs := List.pairwise_mergeSort (le := fun x y : List UInt8 => decide (x ≤ y)) (fun a b c h1 h2 => by simp at *; exact List.le_trans h1 h2) (fun a b => by simp; exact List.le_total a b) ss
  have hn : (ss.mergeSort (fun x y => decide (x ≤ y))).Nodup := hp.nodup_iff.2 hnd
  refine ⟨?_, fun x => hp.mem_iff.trans (hm x)⟩
  refine List.pairwise_iff_getElem.2 fun i j hi hj hij => ?_
  have h1 := List.pairwise_iff_getElem.1 hs i j hi hj hij
  have h2 := List.pairwise_iff_getElem.1 hn i j hi hj hij
  generalize (ss.mergeSort (fun x y => decide (x ≤ y)))[i] = a at *
  generalize (ss.mergeSort (fun x y => decide (x ≤ y)))[j] = b at *
  have h1' : a ≤ b := by simpa using h1
  rcases Decidable.em (a < b) with h | h
  · exact h
  · exact absurd (List.le_antisymm h1' (by exact List.not_lt.1 h)) h2

def GonePost (w : World) (ks : List (List UInt8)) (e : Ending) (w' : World) : Prop :=
  ∃ v r, e = .returned v ∧ Rising r ks ∧ w'.ownsRow w.heap.size 9 1 v r.length (r.map encStr) ∧ Below w.heap.size w w'

theorem nodup_dedup (ks : List (List UInt8)) : ∃ ss : List (List UInt8), ss.Nodup ∧ ∀ x, x ∈ ss ↔ x ∈ ks := by
  induction ks with
  | nil => exact ⟨[], List.nodup_nil, fun x => Iff.rfl⟩
  | cons k ks ih =>
    obtain ⟨ss, h1, h2⟩ := ih
    by_cases h : k ∈ ks
    · exact ⟨ss, h1, fun x => by rw [h2 x]; simp; intro e; subst e; exact h⟩
    · exact ⟨k :: ss, List.nodup_cons.2 ⟨fun hk => h ((h2 k).1 hk), h1⟩, fun x => by simp [h2 x]⟩

set_option maxHeartbeats 2000000 in
theorem gone_any (w : World) (A : Option Addr) (n c : Nat) (es : List Ev) (h : Evs w w.heap.size A n c es) (hn : n ≤ 1000) (hsm : ∀ e ∈ es, e.small) :
    Calls Tryz.prog 49 #[.slice A n c] w (GonePost w (goneL es)) := by
  have HH := Lib.hid h; clear h
  have HSM := Lib.hid hsm; clear hsm
  refine (callsIn_wide (n := 6)).1 ?_
  have hfP : Fence.wide.fn 62 := trivial
  have hfK : Fence.wide.fn 48 := trivial
  have hfS : Fence.wide.fn 47 := trivial
  refine callsIn_of_wp Tryz.func49 rfl trivial ?_ rfl
  simp only [Tryz.ntmps49, List.size_toArray, List.length_cons, List.length_nil, Nat.reduceAdd, Nat.reduceSub, Array.replicate_succ, Array.replicate_zero, List.push_toArray, List.append_toArray, List.nil_append, List.cons_append]
  gi_wp2_with fail
  refine (callsIn_wide.2 (people_any w A n c es HH.out hn HSM.out)).mono ?_
  rintro e w1 ⟨b, m, rfl, hset, hb, hm, hbel⟩
  obtain ⟨D, hD1, hD2, hD3⟩ := hset
  have HD := Lib.hid hD1
  have hDs : Maps.size D ≤ m := hD1.size_le
  have hle : m ≤ 1000 := by rw [HH.out.len] at hm; omega
  gi_wp2_with fail
  refine (Tryz.maps_Keys_48 _ _).mono ?_
  rintro e w2 ⟨rfl, rfl⟩
  gi_wp2_with fail
  refine (Tryz.slices_Sorted_keys_47_48 b m D _ w1 HD.out (by unfold maxLen; omega) (by omega)).mono ?_
  rintro e w3 ⟨v, ss, rfl, hS, hrow, hnil, hb3⟩
  gi_wp2_with fail
  go_ret
  obtain ⟨ks, hk1, hk2⟩ := nodup_dedup (goneL es)
  have hp : ks.Perm (strKeys D) := SetB.perm HD.out (fun k => (hD3 k).2) hk1 hk2
  have hpp : ss.Perm ks := hS.trans hp.symm
  have hnd : ss.Nodup := hpp.nodup_iff.2 hk1
  have hr := rising_sort hnd (fun x => hpp.mem_iff.trans (hk2 x))
  have hlen : (ss.mergeSort (fun x y => decide (x ≤ y))).length = ss.length := List.length_mergeSort _
  have hs1 := hbel.size
  refine ⟨v, ss.mergeSort (fun x y => decide (x ≤ y)), rfl, hr, ?_, ?_⟩
  · rw [hlen]
    refine ⟨hrow.1, ?_⟩
    rcases hrow.2 with ⟨e, hl⟩ | ⟨g, cap, cur, e, hb', hg, hrr⟩
    · exact .inl ⟨e, hl⟩
    · exact .inr ⟨g, cap, cur, e, by simp at hb'; omega, hg, hrr⟩
  · exact (hbel.alloc hs1 _).trans (hb3.mono (by simp; omega))
end Go.Proofs.YtoljbbmjbgepiaaGreatDoor
namespace Go.Proofs.YtoljbbmjbgepiaaGreatDoor
open Go.RowKit Go.Maps Go.Sort

set_option maxRecDepth 100000 in
set_option maxHeartbeats 2000000 in
theorem same31_any (w : World) (B B' : Nat) (A A' : Option Addr) (n c c' : Nat) (es : List Ev) (h : Evs w B A n c es) (h' : Evs w B' A' n c' es) (hn : n ≤ 100000) :
    Calls Tryz.prog 23 #[.slice A n c, .slice A' n c'] w fun e w' => e = .returned (.bool true) ∧ ∃ k, w' = w.drewN k := by
  have HH := Lib.hid h; clear h
  have HH' := Lib.hid h'; clear h'
  have hnn : ((n : Int) != (n : Int)) = false := by simp
  go_enter Tryz.func23, Tryz.ntmps23
  go_wp2
  clear hnn
  go_loopw [5] (fun i wr => ∃ k q : Nat, i = .int .i64 k ∧ k ≤ n ∧ wr = w.drewN q) (fun i _ => n - (intOf i).toNat)
  case atStart => exact ⟨0, 0, rfl, Nat.zero_le _, rfl⟩
  case round =>
    obtain ⟨k, q, rfl, hk, rfl⟩ := hrel
    by_cases hkn : k < n
    · have hkl : k < es.length := by rw [HH.out.len]; exact hkn
      obtain ⟨b, off, rfl, hb, hc⟩ := HH.out.ev k hkl
      obtain ⟨b', off', rfl, hb', hc'⟩ := HH'.out.ev k hkl
      obtain ⟨e0, e1, e2, e3, e4, e5, e6, e7⟩ := hc
      obtain ⟨f0, f1, f2, f3, f4, f5, f6, f7⟩ := hc'
      have t1 : (k : Int) < n := by omega
      generalize es[k] = x at *
      go_wp2
      go_quiet (fail)
      go_wp2
      go_roundw
      case rel => exact ⟨k + 1, q + nq, by go_num, by omega, by first | rfl | exact World.drewN_drewN ..⟩
      case measure => simp [intOf]; omega
    · go_wp2
      go_ret
      exact ⟨rfl, _, rfl⟩

def EvsV (w : World) (v : Value) (es : List Ev) : Prop := ∃ A c, v = .slice A es.length c ∧ Evs w w.heap.size A es.length c es
theorem EvsV.below {w w' : World} {v : Value} {es : List Ev} (h : EvsV w v es) (hb : Below w.heap.size w w') : EvsV w' v es := by
  obtain ⟨A, c, e, h1⟩ := h
  exact ⟨A, c, e, Cel.more (Cel.below h1 hb) hb.size⟩
theorem EvsV.of_own {w : World} {base : Nat} {v : Value} {es : List Ev} (h : OwnE w base v es) : EvsV w v es := by
  obtain ⟨A, c, e⟩ := ownsRow_form h
  subst e
  exact ⟨A, c, rfl, Cel.of_own h⟩


theorem rising_length {r ks : List (List UInt8)} (h : Rising r ks) : r.length ≤ ks.length := by
  have hnd : r.Nodup := List.pairwise_iff_getElem.2 fun i j hi hj hij e => by
    have := List.pairwise_iff_getElem.1 h.1 i j hi hj hij
    rw [e] at this
    exact lt_irr _ this
  have key : ∀ (r ks : List (List UInt8)), r.Nodup → (∀ x, x ∈ r → x ∈ ks) → r.length ≤ ks.length := by
    intro r
    induction r with
    | nil => intro ks _ _; simp
    | cons a l ih =>
      intro ks hnd hsub
      have hnd' := List.nodup_cons.1 hnd
      have ha : a ∈ ks := hsub a List.mem_cons_self
      have := ih (ks.erase a) hnd'.2 (fun x hx => by
        have hxa : x ≠ a := fun e => hnd'.1 (by rw [← e]; exact hx)
        exact (List.mem_erase_of_ne hxa).2 (hsub x (List.mem_cons_of_mem _ hx)))
      rw [List.length_erase_of_mem ha] at this
      have := List.length_pos_of_mem ha
      simp only [List.length_cons]
      omega
  exact key r ks hnd fun x hx => (h.2 x).1 hx

end Go.Proofs.YtoljbbmjbgepiaaGreatDoor
namespace Go.Proofs.YtoljbbmjbgepiaaGreatDoor
open Go.RowKit Go.Maps Go.Sort

def Ev.bulk (e : Ev) : Nat := e.src.length + e.per.length + e.item.length + e.text.length
/-- no text is longer than memory -/
def Ev.fit (e : Ev) : Prop := e.src.length ≤ 140737488355328 ∧ e.per.length ≤ 140737488355328 ∧ e.item.length ≤ 140737488355328 ∧ e.text.length ≤ 140737488355328
def longB (es : List Ev) : Bool := es.any (fun e => decide (400 < e.bulk)) || decide (40 < es.length)

set_option maxRecDepth 100000 in
set_option maxHeartbeats 2000000 in
theorem long_any (w : World) (A : Option Addr) (n c : Nat) (es : List Ev) (h : Evs w w.heap.size A n c es) (hn : n ≤ 140737488355328) (hfit : ∀ e ∈ es, e.fit) :
    Calls Tryz.prog 18 #[.slice A n c] w (Says (longB es) w) := by
  have HH := Lib.hid h; clear h
  have HF := Lib.hid hfit; clear hfit
  have hl := HH.out.len
  have HL := Lib.hid hl; clear hl
  go_enter Tryz.func18, Tryz.ntmps18
  go_wp2
  go_loopw [7] (fun i wr => ∃ k : Nat, i = .int .i64 k ∧ k ≤ n ∧ Below w.heap.size w wr ∧ Hid (∀ j (hj : j < es.length), j < k → es[j].bulk ≤ 400)) (fun i _ => n - (intOf i).toNat)
  case atStart => exact ⟨0, rfl, Nat.zero_le _, Below.refl _ _, fun j _ h => by omega⟩
  case round =>
    obtain ⟨k, rfl, hk, hbel, HK⟩ := hrel
    by_cases hkn : k < n
    · have hkl : k < es.length := by rw [HL.out]; exact hkn
      obtain ⟨b, off, rfl, hb, hev⟩ := HH.out.ev k hkl
      obtain ⟨e0, e1, e2, e3, e4, e5, e6, e7⟩ := hev.below hbel hb
      obtain ⟨s1, s2, s3, s4⟩ := HF.out es[k] (List.getElem_mem hkl)
      have HBU := Lib.hid (show es[k].bulk = es[k].src.length + es[k].per.length + es[k].item.length + es[k].text.length from rfl)
      have HMEM := Lib.hid (List.getElem_mem hkl)
      have HKK := Lib.hid (show es[k].bulk ≤ 400 → ∀ j (hj : j < es.length), j < k + 1 → es[j].bulk ≤ 400 from fun h j hj hlt => by
        by_cases e : j = k
        · subst e; exact h
        · exact HK.out j hj (by omega))
      clear hev
      generalize es[k] = x at *
      have t1 : (k : Int) < n := by omega
      have hb1 : Below w.heap.size w (wr.alloc (evObj x)) := hbel.alloc hbel.size _
      by_cases hbig : 400 < x.src.length + x.per.length + x.item.length + x.text.length
      · have hlb : longB es = true := by
          unfold longB
          have : es.any (fun e => decide (400 < e.bulk)) = true := List.any_eq_true.2 ⟨x, HMEM.out, decide_eq_true (by rw [HBU.out]; exact hbig)⟩
          rw [this]; rfl
        have HLB := Lib.hid hlb; clear hlb
        go_wp2
        go_ret
        exact ⟨ret_bool HLB.out.symm, hb1⟩
      · have HK2 := Lib.hid (HKK.out (by rw [HBU.out]; omega))
        go_wp2
        go_roundw
        case rel => exact ⟨k + 1, by go_num, by omega, hb1, HK2.out⟩
        case measure => simp [intOf]; omega
    · have hany : es.any (fun e => decide (400 < e.bulk)) = false := by
        rw [List.any_eq_false]
        intro e he
        obtain ⟨j, hj, rfl⟩ := List.getElem_of_mem he
        have := HK.out j hj (by rw [HL.out] at hj; omega)
        simpa using this
      have HA := Lib.hid hany; clear hany
      go_wp2
      go_ret
      refine ⟨ret_bool ?_, hbel⟩
      unfold longB
      rw [HA.out, Bool.false_or, HL.out]
      first | rfl | (rw [Bool.eq_iff_iff]; simp; omega)
end Go.Proofs.YtoljbbmjbgepiaaGreatDoor
namespace Go.Proofs.YtoljbbmjbgepiaaGreatDoor
open Go.RowKit Go.Maps Go.Sort

def ex1 : Ev := ⟨[115], 1, 0, 1, [112], [97], 0, []⟩
def ex2 : Ev := ⟨[115], 2, 0, 1, [113], [97], 0, []⟩
def ex3 : Ev := ⟨[115], 3, 0, 14, [112], [], 0, []⟩
def exL : List Ev := [ex1, ex2, ex3]
theorem ex_gone : goneL exL = [[112]] := by decide
theorem ex_clean : exL.filter (outB (goneL exL)) = [ex2, ex3] := by decide
theorem ex_left : (exL.filter (fun e => !ownB [112] e)).length = 2 := by decide
theorem ex_small : ∀ e ∈ exL, e.small := by
  intro e he
  simp only [exL, List.mem_cons, List.not_mem_nil, or_false] at he
  rcases he with rfl | rfl | rfl <;> exact ⟨by decide, by decide, by decide, by decide⟩
theorem rising_one {r : List (List UInt8)} {s : List UInt8} (h : Rising r [s]) : r = [s] :=
  rising_unique h ⟨List.pairwise_singleton _ _, fun _ => Iff.rfl⟩

abbrev exObj : Obj := .cells #[Value.string { data := #[115] }, Value.int IntKind.i64 1, Value.int IntKind.i64 0, Value.int IntKind.i64 1, Value.string { data := #[112] }, Value.string { data := #[97] }, Value.int IntKind.i64 0, Value.string { data := #[] }, Value.string { data := #[115] }, Value.int IntKind.i64 2, Value.int IntKind.i64 0, Value.int IntKind.i64 1, Value.string { data := #[113] }, Value.string { data := #[97] }, Value.int IntKind.i64 0, Value.string { data := #[] }, Value.string { data := #[115] }, Value.int IntKind.i64 3, Value.int IntKind.i64 0, Value.int IntKind.i64 14, Value.string { data := #[112] }, Value.string { data := #[] }, Value.int IntKind.i64 0, Value.string { data := #[] }] 28
theorem ex_evs (w : World) : Evs (w.alloc exObj) (w.alloc exObj).heap.size (some ⟨w.heap.size, 0, none⟩) 3 3 exL :=
  Cel.more (Cel.new (n := 3) (size := 8) w _ _ (by unfold maxLen; omega) rfl) (by simp)

set_option maxRecDepth 100000 in
set_option maxHeartbeats 4000000 in
theorem awake_any (w : World) : Calls Tryz.prog 19 #[] w (Says true w) := by
  go_enter Tryz.func19, Tryz.ntmps19
  go_wp2_with fail
  have hev := ex_evs w
  have hb0 : Below w.heap.size w (w.alloc exObj) := (Below.refl _ _).alloc (Nat.le_refl _) _
  have hs0 : w.heap.size < (w.alloc exObj).heap.size := by simp
  generalize w.alloc exObj = w0 at *
  have HE := Lib.hid hev; clear hev
  refine (gone_any w0 _ 3 3 exL HE.out (by omega) ex_small).mono ?_
  rintro e w1 ⟨v1, r, rfl, hri, hrow, hb1⟩
  rw [ex_gone] at hri
  have hr := rising_one hri
  subst hr
  obtain ⟨A1, c1, hv1⟩ := ownsRow_form hrow
  subst hv1
  have HS1 := Lib.hid (Cel.of_own hrow); clear hri hrow
  go_wp2_with fail
  refine (clean_any w1 _ 3 3 exL (Cel.more (Cel.below HE.out hb1) hb1.size) (by omega) ex_small).mono ?_
  rintro e w2 ⟨v2, rfl, hown2, hb2⟩
  rw [ex_clean] at hown2
  obtain ⟨A2, c2, hv2⟩ := ownsRow_form hown2
  subst hv2
  have hE2 : Evs w2 w2.heap.size A2 2 c2 [ex2, ex3] := Cel.of_own hown2
  have hS2 : Strs w2 w1.heap.size A1 1 c1 [[112]] := Cel.below HS1.out hb2
  have hb02 : Below w0.heap.size w0 w2 := hb1.trans (hb2.mono hb1.size)
  have hL2 : Evs w2 w0.heap.size (some ⟨w.heap.size, 0, none⟩) 3 3 exL := Cel.below HE.out hb02
  obtain ⟨b1, o1, e1, _, g0⟩ := hS2.at_ 0 (by decide)
  subst e1
  obtain ⟨b2, o2, e2, _, hx⟩ := hE2.ev 0 (by decide)
  subst e2
  obtain ⟨f0, f1, f2, f3, f4, f5, f6, f7⟩ := hx
  obtain ⟨b3, o3, e3, _, hy⟩ := hL2.ev 1 (by decide)
  simp only [Option.some.injEq, Addr.mk.injEq, and_true] at e3
  obtain ⟨rfl, rfl⟩ := e3
  obtain ⟨k0, k1, k2, k3, k4, k5, k6, k7⟩ := hy
  have hbw2 : Below w.heap.size w w2 := hb0.trans (hb02.mono hb0.size)
  have HT := Lib.hid (fun q => traces_any (w2.drewN q) [112] _ 3 3 exL (Cel.more (Cel.drewN (Cel.below HE.out hb02) q) hb02.size) (by omega) (by decide))
  clear hown2 hb1 hb2 hb02 hE2 hS2 hL2 HS1 hb0 hs0
  simp only [exL, ex1, ex2, ex3, List.getElem_cons_zero, List.getElem_cons_succ, Nat.add_zero, Nat.zero_mul, Nat.one_mul, Nat.zero_add, Nat.reduceAdd] at g0 f0 f1 f2 f3 f4 f5 f6 f7 k0 k1 k2 k3 k4 k5 k6 k7
  go_wp2
  go_still_tail 25, (by kernel_rfl)
  have HT1 := Lib.hid (HT.out 1)
  have hbq : Below w.heap.size w (w2.drewN 1) := below_drewN hbw2 1
  change wpList _ _ _ _ _ (w2.drewN 1)
  generalize w2.drewN 1 = w3 at *
  clear g0 f0 f1 f2 f3 f4 f5 f6 f7 k0 k1 k2 k3 k4 k5 k6 k7
  go_wp2_with fail
  refine HT1.out.mono ?_
  rintro e w4 ⟨rfl, hb4⟩
  rw [ex_left, show exL.length - 2 = 1 from rfl]
  go_wp2
  go_ret
  exact ⟨rfl, hbq.trans (hb4.mono hbq.size)⟩
end Go.Proofs.YtoljbbmjbgepiaaGreatDoor
namespace Go.Proofs.YtoljbbmjbgepiaaGreatDoor
open Go.RowKit Go.ChangeShapes Go.WideShapes Go.ChangeAt

theorem own : ownKnob Tryz.prog.godebug = none := by kernel_rfl
theorem laidOut : laidOutB Tryz.prog = true := by kernel_rfl

theorem byt_of_trod {H : Type} {enc : TypeId × Value → H} {W : World} {T E : TypeId} (hT : Tryz.prog.underlying T = some (.slice E)) (hE : Tryz.prog.underlying E = some (.int .u8)) (hc : Tryz.prog.cellsOf E = 1)
    {A : Option Addr} {n c : Nat} {x : DataW H × List MemPlace}
    (h : ∃ fuel, DataW.trod enc Tryz.prog W 0 (fun _ => true) true fuel T (Value.slice A n c).cells.toList = some x) : ∃ l, Byt W W.heap.size A n c l := by
  obtain ⟨fuel, hf⟩ := h
  rcases open_ints hT hE hc hf with ⟨hcs, _⟩ | ⟨x, l, c', zs, hcs, _, hl, hm, hz, _, hcell, hwz⟩
  · simp [Value.cells] at hcs
    obtain ⟨rfl, rfl, rfl⟩ := hcs
    exact ⟨[], Byt.nil _ _ _ _ (by unfold maxLen; omega)⟩
  · simp [Value.cells] at hcs
    obtain ⟨rfl, rfl, rfl⟩ := hcs
    have hz' : zs.length = c := by simpa using hz
    have hw8 : ∀ i, 0 ≤ zs.getD i 0 ∧ zs.getD i 0 < 256 := fun i => by
      by_cases hi : i < zs.length
      · have := hwz (zs[i]) (List.getElem_mem hi)
        have e : zs.getD i 0 = zs[i] := by simp [List.getD, hi]
        rw [e]
        have hb := this
        simp [Lit.wf, IntKind.min, IntKind.max, IntKind.signed, IntKind.bits] at hb
        omega
      · have e : zs.getD i 0 = 0 := by simp [List.getD, List.getElem?_eq_none (Nat.le_of_not_lt hi)]
        rw [e]; decide
    refine ⟨(zs.take n).map fun z => UInt8.ofNat z.toNat, by simp; omega, hl, hm, fun h0 => ?_⟩
    obtain ⟨b, off, spot⟩ := x
    have hc0 := hcell 0 (by omega)
    have hspot : spot = none := by simpa [Addr.add] using World.cell?_spot hc0
    subst hspot
    refine ⟨b, off, rfl, World.block_lt_of_cell? W ⟨b, off, none⟩ (by simpa [Addr.add] using hc0), fun i hi => ?_⟩
    have hi' : i < n := by simp at hi; omega
    have := hcell i (by omega)
    have hadd : (⟨b, off, none⟩ : Addr).add i = ⟨b, off + i, none⟩ := by unfold Addr.add; split <;> simp_all
    rw [hadd] at this
    rw [this]
    have h8 := hw8 i
    have e : zs.getD i 0 = zs[i]'(by omega) := by simp [List.getD, List.getElem?_eq_getElem (show i < zs.length by omega)]
    rw [e] at h8 ⊢
    simp
    omega
end Go.Proofs.YtoljbbmjbgepiaaGreatDoor
namespace Go.Proofs.YtoljbbmjbgepiaaGreatDoor
open Go.RowKit Go.ChangeShapes Go.WideShapes Go.ChangeAt

/-- an event as the statements' data -/
def Ev.dat {H : Type} (e : Ev) : DataW H :=
  .agg [.lit (.string e.src), .lit (.int .i64 e.num), .lit (.int .i64 e.at_), .lit (.int .i64 e.kind), .lit (.string e.per), .lit (.string e.item), .lit (.int .i64 e.val), .lit (.string e.text)]

theorem ev_cells : Tryz.prog.cellsOf 28 = 8 := by kernel_rfl
theorem ev_cstr : Tryz.prog.cellsOf 9 = 1 := by kernel_rfl
theorem ev_cint : Tryz.prog.cellsOf 3 = 1 := by kernel_rfl
theorem ev_ckind : Tryz.prog.cellsOf 26 = 1 := by kernel_rfl

instance : Inhabited Ev := ⟨⟨[], 0, 0, 0, [], [], 0, []⟩⟩

set_option maxRecDepth 100000 in
theorem ev_of_trod {H : Type} {enc : TypeId × Value → H} {W : World} {base fuel : Nat} {sp : Nat → Bool} {held : Bool} {cs : List Value} {d : DataW H} {ps : List MemPlace}
    (h : DataW.trod enc Tryz.prog W base sp held fuel 28 cs = some (d, ps)) : ∃ e : Ev, cs = e.cells ∧ d = e.dat := by
  obtain ⟨xs, n, _, hx, hl, hlen, hf⟩ := DataW.trod_struct Tryz.underlying28 h
  rw [ev_cells] at hl
  match cs, hl with
  | [c0, c1, c2, c3, c4, c5, c6, c7], _ =>
  match xs, hlen with
  | [x0, x1, x2, x3, x4, x5, x6, x7], _ =>
  have h0 := hf 0 _ rfl
  have h1 := hf 1 _ rfl
  have h2 := hf 2 _ rfl
  have h3 := hf 3 _ rfl
  have h4 := hf 4 _ rfl
  have h5 := hf 5 _ rfl
  have h6 := hf 6 _ rfl
  have h7 := hf 7 _ rfl
  set_option linter.unusedSimpArgs false in
  simp only [ev_cstr, ev_cint, ev_ckind, List.drop_succ_cons, List.drop_zero, List.take_succ_cons, List.take_zero, List.getElem?_cons_zero, List.getElem?_cons_succ] at h0 h1 h2 h3 h4 h5 h6 h7
  obtain ⟨s0, e0, rfl, _⟩ := DataW.trod_string Tryz.underlying9 h0
  obtain ⟨n1, e1, rfl, _⟩ := DataW.trod_int Tryz.underlying3 h1
  obtain ⟨n2, e2, rfl, _⟩ := DataW.trod_int Tryz.underlying3 h2
  obtain ⟨n3, e3, rfl, _⟩ := DataW.trod_int Tryz.underlying26 h3
  obtain ⟨s4, e4, rfl, _⟩ := DataW.trod_string Tryz.underlying9 h4
  obtain ⟨s5, e5, rfl, _⟩ := DataW.trod_string Tryz.underlying9 h5
  obtain ⟨n6, e6, rfl, _⟩ := DataW.trod_int Tryz.underlying3 h6
  obtain ⟨s7, e7, rfl, _⟩ := DataW.trod_string Tryz.underlying9 h7
  injection e0 with e0; injection e1 with e1; injection e2 with e2; injection e3 with e3; injection e4 with e4; injection e5 with e5; injection e6 with e6; injection e7 with e7
  subst e0 e1 e2 e3 e4 e5 e6 e7
  refine ⟨⟨s0.data.toList, n1, n2, n3, s4.data.toList, s5.data.toList, n6, s7.data.toList⟩, ?_, ?_⟩
  · simp [Ev.cells]
  · injection hx with hx _

theorem weightsAll_mem {H : Type} {P : Program} {e : TypeId} : ∀ {ds : List (DataW H)} {d : DataW H}, d ∈ ds → ∀ n ∈ d.weights P e, n ∈ DataW.weightsAll P e ds
  | d0 :: ds, d, hd, n, hn => by
    simp only [DataW.weightsAll, List.mem_append]
    rcases List.mem_cons.1 hd with rfl | h
    · exact Or.inl hn
    · exact Or.inr (weightsAll_mem h n hn)
  | [], _, hd, _, _ => by cases hd

theorem ev_weights {H : Type} (e : Ev) : (e.dat (H := H)).weights Tryz.prog 28 = [e.src.length, e.per.length, e.item.length, e.text.length] := by
  unfold Ev.dat
  rw [DataW.weights, Tryz.underlying28]
  simp [DataW.weightsEach, DataW.weights]

theorem add_none (b o i : Nat) : (⟨b, o, none⟩ : Addr).add i = ⟨b, o + i, none⟩ := by unfold Addr.add; split <;> simp_all

/-- the events of a slice that came in; and what the form's reach says of them -/
theorem evs_of_trod {H : Type} {enc : TypeId × Value → H} {W : World} {A : Option Addr} {n c : Nat} {d : DataW H} {ps : List MemPlace}
    (h : DataW.Trod enc Tryz.prog W 0 (fun _ => true) true 22 (Value.slice A n c) d ps) (hz : ∀ m ∈ d.weights Tryz.prog 22, m ≤ reachBytes) :
    ∃ es, Evs W W.heap.size A n c es ∧ n ≤ 140737488355328 ∧ ∀ e ∈ es, e.fit := by
  obtain ⟨fuel, hf⟩ := h
  have hr : reachBytes ≤ 140737488355328 := by decide
  rcases Deep.open_slice Tryz.underlying22 hf with ⟨hcs, _⟩ | ⟨a, len, cap, m, fl, D, Pl, hcs, _, hl, hm, hmm, hx, hV⟩
  · simp [Value.cells] at hcs
    obtain ⟨rfl, rfl, rfl⟩ := hcs
    exact ⟨[], Cel.nil _ _ _ _ _ (by unfold maxLen; omega), by omega, fun e he => by cases he⟩
  · simp [Value.cells] at hcs
    obtain ⟨rfl, rfl, rfl⟩ := hcs
    have hmc : m = c := by simpa using hmm
    subst hmc
    injection hx with hd _
    rw [ev_cells] at hV
    have key : ∀ i, i < n → ∃ e : Ev, (∀ j, j < 8 → W.cell? ((a.add (i * 8)).add j) = e.cells[j]?) ∧ D i = e.dat := fun i hi => by
      obtain ⟨cs, h1, h2⟩ := hV i (by omega)
      obtain ⟨_, _, h3⟩ := World.cells?_some h1
      obtain ⟨e, rfl, he⟩ := ev_of_trod h2
      exact ⟨e, h3, he⟩
    obtain ⟨f, hfk⟩ := Deep.choose_lt (α := Ev) (p := fun i e => (∀ j, j < 8 → W.cell? ((a.add (i * 8)).add j) = e.cells[j]?) ∧ D i = e.dat) key
    have hwt : ∀ i, i < n → (f i).fit := fun i hi => by
      have hmem : (f i).dat ∈ (List.range n).map D := List.mem_map.2 ⟨i, by simpa using hi, (hfk i hi).2⟩
      have hw : ∀ k ∈ (f i).dat.weights (H := H) Tryz.prog 28, k ≤ reachBytes := fun k hk => hz k (by
        rw [hd, DataW.weights, Tryz.underlying22]
        simp only [List.mem_cons, List.mem_append]
        exact Or.inr (Or.inl (weightsAll_mem hmem k hk)))
      rw [ev_weights] at hw
      exact ⟨Nat.le_trans (hw _ (by simp)) hr, Nat.le_trans (hw _ (by simp)) hr, Nat.le_trans (hw _ (by simp)) hr, Nat.le_trans (hw _ (by simp)) hr⟩
    have hnn : n ≤ 140737488355328 := by
      have := hz ((((List.range n).map D).length + ((List.range (m - n)).map fun j => D (n + j)).length) * Tryz.prog.bytesOf 28) (by
        rw [hd, DataW.weights, Tryz.underlying22]
        exact List.mem_cons_self ..)
      have hb : Tryz.prog.bytesOf 28 = 96 := by kernel_rfl
      rw [hb] at this
      simp at this
      omega
    refine ⟨(List.range n).map f, ⟨by rw [evCells_length]; simp, hl, hm, fun h0 => ?_⟩, hnn, fun e he => ?_⟩
    · obtain ⟨b, off, spot⟩ := a
      have hc0 := (hfk 0 h0).1 0 (by omega)
      have hspot : spot = none := by
        have := World.cell?_spot (hc0.trans (show (f 0).cells[0]? = some _ from rfl))
        simpa [Addr.add] using this
      subst hspot
      refine ⟨b, off, rfl, World.block_lt_of_cell? W ⟨b, off, none⟩ (u := .string ⟨(f 0).src.toArray⟩) ?_, fun i u hi => ?_⟩
      · simpa [add_none] using hc0.trans (show (f 0).cells[0]? = some _ from rfl)
      · have hil : i < n * 8 := by
          have := (List.getElem?_eq_some_iff.1 hi).1
          rw [evCells_length] at this; simpa using this
        have e1 : i = (i / 8) * 8 + i % 8 := by omega
        have hq : i / 8 < ((List.range n).map f).length := by simp; omega
        rw [e1, evCells_get _ (i / 8) (i % 8) hq (by omega)] at hi
        have hq' : i / 8 < n := by omega
        have := (hfk (i / 8) hq').1 (i % 8) (by omega)
        rw [add_none, add_none] at this
        have e2 : off + i = off + i / 8 * 8 + i % 8 := by omega
        rw [e2, this]
        simpa using hi
    · obtain ⟨i, hi, rfl⟩ := List.mem_map.1 he
      exact hwt i (by simpa using hi)
end Go.Proofs.YtoljbbmjbgepiaaGreatDoor
namespace Go.Proofs.YtoljbbmjbgepiaaGreatDoor
open Go.RowKit

def firstInts : List Int := List.replicate 128 240 ++ List.replicate 66 241 ++ List.replicate 30 2 ++ [19] ++ List.replicate 12 3 ++ [35, 3, 3, 52, 4, 4, 4, 68] ++ List.replicate 11 241
def rangeInts : List Int := [128, 191, 160, 191, 128, 159, 144, 191, 128, 143] ++ List.replicate 22 0
def layInts (l : List Int) : Obj → Obj
  | .cells _ t frozen => .cells (l.map (Value.int .u8)).toArray t frozen
  | o => o

noncomputable def laidWorld (os : Os) : World :=
  { World.holding Tryz.prog os ⟨#[], #[], []⟩ with
    heap := ((World.holding Tryz.prog os ⟨#[], #[], []⟩).heap.modify 1 (layInts firstInts)).modify 2 (layInts rangeInts) }
end Go.Proofs.YtoljbbmjbgepiaaGreatDoor
