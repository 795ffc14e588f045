/-
  Plain: how long the texts of an event that may be are.
  Layer 8, plain: what the laws say of an intake behind any deeds.
  Layer 8: an intake's own parts, put together again.
  Layer 8, plain: what any deeds leave may be taken apart and put together.
  Layer 8, plain: parts that aren't an intake's.
  Layer 8: parts in memory of which one row is changed.
-/
import Derived.Test.YtdjoaboalknlkaaGreatDoorLEvMay
import Derived.Test.YtdjoaboalknlkaaGreatDoorLByBox
import Derived.Test.YtdjoaboalknlkaaGreatDoorLGrPlain
import Derived.Test.YtdjoaboalknlkaaGreatDoorLOf
namespace Go.Proofs.YtdjoaboalknlkaaGreatDoor
open Go.RowKit

theorem nameB_len {l : List UInt8} (h : nameB l = true) : 1 ≤ l.length ∧ l.length ≤ 24 := by
  unfold nameB at h
  simp only [Bool.and_eq_true, decide_eq_true_eq] at h
  exact ⟨h.1.1, h.1.2⟩
theorem splitB_len (c : UInt8) : ∀ (k : Nat) (s : ByteArray), (∀ t ∈ Lib.splitB ⟨#[c]⟩ 0 k s, t.size ≤ 24) → s.size + 1 ≤ 25 * (Lib.splitB ⟨#[c]⟩ 0 k s).length
  | 0, s, h => by
    rw [Lib.splitB_zero] at h ⊢
    have := h s (by simp)
    simp; omega
  | k + 1, s, h => by
    rcases Lib.indexB_cases s ⟨#[c]⟩ with hi | ⟨i, hi, hle⟩
    · rw [Lib.splitB_miss _ _ _ _ hi] at h ⊢
      have := h s (by simp)
      simp; omega
    · rw [Lib.splitB_hit _ _ _ _ _ hi] at h ⊢
      have h1 := h _ (List.mem_cons_self ..)
      have ih := splitB_len c k (s.extract (i + (⟨#[c]⟩ : ByteArray).size) s.size) (fun t ht => h t (List.mem_cons_of_mem _ ht))
      have hc : (⟨#[c]⟩ : ByteArray).size = 1 := rfl
      rw [hc] at hle ih h ⊢
      simp only [ByteArray.size_extract, List.length_cons] at h1 ih ⊢
      omega
theorem listing_len {s : List UInt8} (h : listingB s = true) : s.length ≤ 224 := by
  unfold listingB at h
  simp only [Bool.and_eq_true, decide_eq_true_eq] at h
  obtain ⟨⟨⟨h1, h2⟩, h3⟩, h4⟩ := h
  have hm := (nameB_len h2).2
  unfold Lib.cut at h1 hm
  by_cases hi : 0 ≤ Lib.index s [59]
  · rw [if_pos hi] at hm
    change (s.take _).length ≤ 24 at hm
    have hlen : s.length ≤ (s.take (Lib.index s [59]).toNat).length + 1 + (restL s).length := by
      unfold restL Lib.cut
      rw [if_pos hi]; simp; omega
    have hr : (restL s).length ≤ 199 := by
      unfold tagsL at h3 h4
      by_cases he : (restL s).isEmpty
      · rw [List.isEmpty_iff.1 he]; simp
      · rw [if_neg he] at h3 h4
        have key := splitB_len 44 (Lib.countB ⟨(restL s).toArray⟩ ⟨#[44]⟩) ⟨(restL s).toArray⟩ (fun t ht => by
          obtain ⟨k, hk, e⟩ := List.getElem_of_mem ht
          unfold tagsB at h4
          rw [List.all_eq_true] at h4
          have := h4 k (by simpa using hk)
          unfold tagB at this
          have h5 : nameB ((List.map (fun b : ByteArray => b.data.toList) (Lib.splitB ⟨#[44]⟩ 0 (Lib.countB ⟨(restL s).toArray⟩ ⟨#[44]⟩) ⟨(restL s).toArray⟩)).getD k []) = true := by
            simp only [Bool.and_eq_true] at this; exact this.1
          have h6 := (nameB_len h5).2
          simp only [List.getD, List.getElem?_map, List.getElem?_eq_getElem hk, Option.map_some, Option.getD_some, e] at h6
          show t.data.size ≤ 24
          rw [← Array.length_toList]; exact h6)
        have hs : (⟨(restL s).toArray⟩ : ByteArray).size = (restL s).length := by simp [ByteArray.size]
        rw [hs] at key
        simp only [List.length_map] at h3
        omega
    omega
  · rw [if_neg hi] at h1; simp at h1
structure Ev.Fit (e : Ev) : Prop where
  src : e.src.length ≤ 24
  per : e.per.length ≤ 24
  item : e.item.length ≤ 24
  text : e.text.length ≤ 224
  num0 : 1 ≤ e.num
  num1 : e.num ≤ 1099511627776
  at0 : 0 ≤ e.at_
  at1 : e.at_ ≤ 1099511627776
  val0 : 0 ≤ e.val
  val1 : e.val ≤ 1048576
  kind0 : 0 ≤ e.kind
  kind1 : e.kind ≤ 14
theorem mayB_fit {e : Ev} (h : mayB e = true) : e.Fit := by
  unfold mayB at h
  rw [Bool.and_eq_true] at h
  obtain ⟨hh, ht⟩ := h
  unfold headB at hh
  simp only [Bool.and_eq_true, decide_eq_true_eq] at hh
  obtain ⟨⟨⟨⟨a1, a2⟩, a3⟩, a4⟩, a5⟩ := hh
  have hs := (nameB_len a1).2
  have key : e.per.length ≤ 24 ∧ e.item.length ≤ 24 ∧ e.text.length ≤ 224 ∧ 0 ≤ e.val ∧ e.val ≤ 1048576 ∧ 0 ≤ e.kind ∧ e.kind ≤ 14 := by
    unfold tailB at ht
    have hk : e.kind = 0 ∨ e.kind = 1 ∨ e.kind = 2 ∨ e.kind = 3 ∨ e.kind = 4 ∨ e.kind = 5 ∨ e.kind = 6 ∨ e.kind = 7 ∨ e.kind = 8 ∨ e.kind = 9 ∨ e.kind = 10 ∨ e.kind = 11 ∨ e.kind = 12 ∨ e.kind = 13 ∨ e.kind = 14 ∨ ¬ (0 ≤ e.kind ∧ e.kind ≤ 14) := by omega
    have n1 := fun h : nameB e.per = true => (nameB_len h).2
    have n2 := fun h : nameB e.item = true => (nameB_len h).2
    have n3 := fun h : nameB e.text = true => (nameB_len h).2
    have n4 := fun h : listingB e.text = true => listing_len h
    rcases hk with k | k | k | k | k | k | k | k | k | k | k | k | k | k | k | k
    case inr.inr.inr.inr.inr.inr.inr.inr.inr.inr.inr.inr.inr.inr.inr =>
      rw [if_neg (by omega), if_neg (by omega), if_neg (by omega), if_neg (by omega), if_neg (by omega), if_neg (by omega), if_neg (by omega), if_neg (by omega), if_neg (by omega), if_neg (by omega), if_neg (by omega), if_neg (by omega), if_neg (by omega), if_neg (by omega), if_neg (by omega)] at ht
      cases ht
    all_goals (
      simp [k] at ht
      simp only [ht, forall_const, List.length_nil] at n1 n2 n3 n4
      simp only [ht, k, List.length_nil]
      first | omega | (simp; omega) | (simp_all; omega))
  exact ⟨hs, key.1, key.2.1, key.2.2.1, a2, a3, a4, a5, key.2.2.2.1, key.2.2.2.2.1, key.2.2.2.2.2.1, key.2.2.2.2.2.2⟩
theorem Ev.Fit.small {e : Ev} (h : e.Fit) : e.small := ⟨by have := h.src; omega, by have := h.per; omega, by have := h.item; omega, by have := h.text; omega⟩
theorem Ev.Fit.len {e : Ev} (h : e.Fit) : (encE e).length ≤ 1229 := encE_len (by have := h.src; omega) (by have := h.per; omega) (by have := h.item; omega) (by have := h.text; omega) h.num1 h.at1 (by have := h.val1; omega)
end Go.Proofs.YtdjoaboalknlkaaGreatDoor
namespace Go.Proofs.YtdjoaboalknlkaaGreatDoor
open Go.RowKit Go.Maps Go.Sort

end Go.Proofs.YtdjoaboalknlkaaGreatDoor
namespace Go.Proofs.YtdjoaboalknlkaaGreatDoor
open Go.RowKit Go.Maps Go.Sort Go.Shelf

theorem mayB_smallO {e : Ev} (h : mayB e = true) : e.small := by
  have := mayB_fit h
  exact ⟨by have := this.src; omega, by have := this.per; omega, by have := this.item; omega, by have := this.text; omega⟩
theorem rising_lenO {r ks : List (List UInt8)} (h : Rising r ks) : r.length ≤ ks.length := by
  have hnd : r.Nodup := List.pairwise_iff_getElem.2 fun i j hi hj hij e => by
    have := List.pairwise_iff_getElem.1 h.1 i j hi hj hij
    rw [e] at this
    exact lt_irr _ this
  have key : ∀ (r ks : List (List UInt8)), r.Nodup → (∀ x, x ∈ r → x ∈ ks) → r.length ≤ ks.length := by
    intro r
    induction r with
    | nil => intro ks _ _; simp
    | cons a l ih =>
      intro ks hnd hsub
      have hnd' := List.nodup_cons.1 hnd
      have ha : a ∈ ks := hsub a List.mem_cons_self
      have := ih (ks.erase a) hnd'.2 (fun x hx => by
        have hxa : x ≠ a := fun e => hnd'.1 (by rw [← e]; exact hx)
        exact (List.mem_erase_of_ne hxa).2 (hsub x (List.mem_cons_of_mem _ hx)))
      rw [List.length_erase_of_mem ha] at this
      have := List.length_pos_of_mem ha
      simp only [List.length_cons]
      omega
  exact key r ks hnd fun x hx => (h.2 x).1 hx
/-- an intake of which all is known that deeds leave -/
structure PtGood (N : Nat) (x : Itk) : Prop where
  play : PlayInv x
  pt : PtInv x
  clk : ClkOk x.clk
  ok : ItkOk N x
  gone : x.gone.length ≤ N
theorem PtGood.encC_len {N : Nat} {x : Itk} (h : PtGood N x) : (encC x.clk).length ≤ 100 + 69 * N := by
  have h1 := h.clk
  have h2 := srcB_len h1 x.clk.src.length
  rw [List.take_length] at h2
  have h3 := h.ok.src
  have k1 := h1.slack; have k2 := h1.idle; have k3 := h1.now; have k4 := h1.mark
  have h4 := lineB_len [99, 108, 111, 99, 107] [x.clk.slack, x.clk.idle, x.clk.now, x.clk.mark] (by intro v hv; simp at hv; rcases hv with rfl | rfl | rfl | rfl <;> omega)
  simp only [List.length_cons, List.length_nil] at h4
  unfold encC; rw [List.length_append]; omega
theorem PtGood.dc {N : Nat} {x : Itk} (h : PtGood N x) : decC (encC x.clk) = some x.clk := decC_enc h.clk h.play.risen
theorem PtGood.dh {N : Nat} {x : Itk} (h : PtGood N x) (hN : N ≤ 600) : decH (encH x.had) = .ok x.had [] :=
  decH_enc h.play.ok (by have := h.ok.had; omega) (fun p hp => by have := h.ok.hadrow h.play.ok p hp; omega)
theorem PtGood.bd {N : Nat} {x : Itk} (h : PtGood N x) (hN : N ≤ 600) : PtBd N (encC x.clk) (encH x.had) :=
  ⟨fun c hc => by rw [h.dc] at hc; injection hc with hc; subst hc; exact h.ok.src, fun m r hm => by
    rw [h.dh hN] at hm; injection hm with hm _; subst hm; exact ⟨h.ok.had, h.ok.hadrow h.play.ok⟩⟩
theorem PtGood.parts {N : Nat} {x : Itk} (h : PtGood N x) (hN : N ≤ 600) {r : List (List UInt8)} (hr : Rising r x.gone) : PartsOk x.clk.slack x.clk.idle (encC x.clk) (encH x.had) r x.taken x.late x.clk x.had :=
  ⟨h.dc, ⟨[], h.dh hN⟩, rfl, rfl, gone_ok h.pt hr, (h.play.right h.pt (by have := h.ok.taken; omega)).congr fun p => (hr.2 p).symm⟩
theorem ItkAt.congrG {w : World} {F : Nat → Prop} {bi N : Nat} {x : Itk} {g : List (List UInt8)} (h : ItkAt w F bi N { x with gone := g }) (hg : ∀ p, p ∈ g ↔ p ∈ x.gone) : ItkAt w F bi N x := by
  obtain ⟨A, hM, hO, h3, h4, h5, h6⟩ := h
  exact ⟨A, ⟨hM.blk, hM.clk, hM.had, hM.taken, hM.late, hM.lates, hM.gone.congr hg, hM.ml, hM.mg, hM.lg, hM.gm, hM.gl, hM.gg, hM.tl⟩, ⟨hO.sorted, hO.may, hO.src, hO.had, hO.rows, hO.taken, hO.late⟩, h3, h4, h5, h6⟩
/-- an intake of one's own that has the same parts -/
def AgainPost (w : World) (N : Nat) (x : Itk) (e : Ending) (w' : World) : Prop := ∃ bi F, e = .returned (.tuple #[.pointer (some ⟨bi, 0, none⟩), .int .i64 0]) ∧ ItkAt w' F bi N x ∧ RowKit.Below w.heap.size w w' ∧ ∀ b, F b → w.heap.size ≤ b
end Go.Proofs.YtdjoaboalknlkaaGreatDoor
namespace Go.Proofs.YtdjoaboalknlkaaGreatDoor
open Go.RowKit Go.Maps Go.Sort Go.Shelf

theorem took_gone (x : Itk) (e : Ev) : (x.took e).gone.length ≤ x.gone.length + 1 := by
  unfold Itk.took
  split
  · show (e.per :: x.gone).length ≤ _; simp
  · exact Nat.le_succ _
theorem deed_gone (x : Itk) (d : Dd) : (x.deed d).gone.length ≤ x.gone.length + 1 := by
  unfold Itk.deed
  split
  · unfold Itk.offer
    split
    · exact Nat.le_succ _
    · split
      · exact took_gone _ _
      · unfold Itk.lates
        split
        · exact Nat.le_succ _
        · exact Nat.le_succ _
  split
  · unfold Itk.admits
    split
    · exact Nat.le_succ _
    · exact took_gone _ _
  split
  · exact Nat.le_succ _
  split
  · exact Nat.le_succ _
  · exact Nat.le_succ _
/-- deeds, one after the other -/
def deeds (x : Itk) (ds : List Dd) : Itk := ds.foldl Itk.deed x
theorem grown_gone (slack idle : Int) (ds : List Dd) : (Itk.grown slack idle ds).gone.length ≤ ds.length := by
  have key : ∀ (ds : List Dd) (x : Itk), (ds.foldl Itk.deed x).gone.length ≤ x.gone.length + ds.length := fun ds => by
    induction ds with
    | nil => exact fun x => Nat.le_refl _
    | cons d ds ih =>
      intro x
      have h1 := ih (x.deed d)
      have h2 := deed_gone x d
      simp only [List.foldl_cons, List.length_cons]
      omega
  have := key ds (Itk.new slack idle)
  have h0 : (Itk.new slack idle).gone.length = 0 := rfl
  unfold Itk.grown
  omega
theorem PtGood.grown {w : World} {F : Nat → Prop} {bi N : Nat} {slack idle : Int} {ds : List Dd} (h : ItkAt w F bi N (Itk.grown slack idle ds)) (hl : ds.length ≤ N) : PtGood N (Itk.grown slack idle ds) := by
  obtain ⟨A, hM, hO, _⟩ := h
  exact ⟨PlayInv.grown slack idle ds, PtInv.grown slack idle ds, hM.clk.ok, hO, Nat.le_trans (grown_gone slack idle ds) hl⟩
end Go.Proofs.YtdjoaboalknlkaaGreatDoor
namespace Go.Proofs.YtdjoaboalknlkaaGreatDoor
open Go.RowKit Go.Maps Go.Sort Go.Shelf

section
variable {a b : Int} {lc lh : List UInt8} {gs : List (List UInt8)} {ts ls : List Ev} {c : Clk} {m : Had} {e : Ev}
end
end Go.Proofs.YtdjoaboalknlkaaGreatDoor
namespace Go.Proofs.YtdjoaboalknlkaaGreatDoor
open Go.RowKit Go.Maps Go.Sort Go.Shelf

section
variable {w w' : World} {B : Nat} {vc vh vt vl vg v' : Value} {lc lh l' : List UInt8} {ts ls es' : List Ev} {gs gs' : List (List UInt8)}
theorem own_ne {e1 e2 : TypeId} {n1 n2 s1 s2 : Nat} {v1 v2 : Value} {x1 x2 : List Value} (h1 : w.ownsRow B e1 s1 v1 n1 x1) (h2 : w.ownsRow B e2 s2 v2 n2 x2) (hne : e1 ≠ e2) : ∀ b, v1.ownBlock = some b → some b ≠ v2.ownBlock := fun b h1' h2' => by
  obtain ⟨c1, k1⟩ := ownsRow_typ h1 h1'
  obtain ⟨c2, k2⟩ := ownsRow_typ h2 h2'.symm
  rw [k1] at k2; injection k2 with k2; injection k2 with _ k2; exact hne k2
theorem own_grow {e1 : TypeId} {n1 s1 : Nat} {v1 v2 : Value} {x1 : List Value} (h1 : w.ownsRow B e1 s1 v1 n1 x1) (hg : w.grownBy w' v2.ownBlock) (hne : ∀ b, v1.ownBlock = some b → some b ≠ v2.ownBlock) : w'.ownsRow B e1 s1 v1 n1 x1 :=
  ownsRow_keep h1 fun b hb => hg.block b (World.ownsRow.lt h1 b hb).2 (hne b hb)
end
end Go.Proofs.YtdjoaboalknlkaaGreatDoor
