/-
  Plain: how long the texts of an event that may be are.
  Layer 2: event.Encode of an event that may be.
-/
import Derived.Test.YtejjfhhppjdcaaaGreatDoorBEvMay
import Derived.Test.YtejjfhhppjdcaaaGreatDoorBEvBytes
import Derived.Test.YtejjfhhppjdcaaaGreatDoorBEvEnc1
import Derived.Deep.DeepCutAuto
namespace Go.Proofs.YtejjfhhppjdcaaaGreatDoor
open Go.RowKit

theorem nameB_len {l : List UInt8} (h : nameB l = true) : 1 ≤ l.length ∧ l.length ≤ 24 := by
  unfold nameB at h
  simp only [Bool.and_eq_true, decide_eq_true_eq] at h
  exact ⟨h.1.1, h.1.2⟩
theorem splitB_len (c : UInt8) : ∀ (k : Nat) (s : ByteArray), (∀ t ∈ Lib.splitB ⟨#[c]⟩ 0 k s, t.size ≤ 24) → s.size + 1 ≤ 25 * (Lib.splitB ⟨#[c]⟩ 0 k s).length
  | 0, s, h => by
    rw [Lib.splitB_zero] at h ⊢
    have := h s (by simp)
    simp; omega
  | k + 1, s, h => by
    rcases Lib.indexB_cases s ⟨#[c]⟩ with hi | ⟨i, hi, hle⟩
    · rw [Lib.splitB_miss _ _ _ _ hi] at h ⊢
      have := h s (by simp)
      simp; omega
    · rw [Lib.splitB_hit _ _ _ _ _ hi] at h ⊢
      have h1 := h _ (List.mem_cons_self ..)
      have ih := splitB_len c k (s.extract (i + (⟨#[c]⟩ : ByteArray).size) s.size) (fun t ht => h t (List.mem_cons_of_mem _ ht))
      have hc : (⟨#[c]⟩ : ByteArray).size = 1 := rfl
      rw [hc] at hle ih h ⊢
      simp only [ByteArray.size_extract, List.length_cons] at h1 ih ⊢
      omega
theorem listing_len {s : List UInt8} (h : listingB s = true) : s.length ≤ 224 := by
  unfold listingB at h
  simp only [Bool.and_eq_true, decide_eq_true_eq] at h
  obtain ⟨⟨⟨h1, h2⟩, h3⟩, h4⟩ := h
  have hm := (nameB_len h2).2
  unfold Lib.cut at h1 hm
  by_cases hi : 0 ≤ Lib.index s [59]
  · rw [if_pos hi] at hm
    change (s.take _).length ≤ 24 at hm
    have hlen : s.length ≤ (s.take (Lib.index s [59]).toNat).length + 1 + (restL s).length := by
      unfold restL Lib.cut
      rw [if_pos hi]; simp; omega
    have hr : (restL s).length ≤ 199 := by
      unfold tagsL at h3 h4
      by_cases he : (restL s).isEmpty
      · rw [List.isEmpty_iff.1 he]; simp
      · rw [if_neg he] at h3 h4
        have key := splitB_len 44 (Lib.countB ⟨(restL s).toArray⟩ ⟨#[44]⟩) ⟨(restL s).toArray⟩ (fun t ht => by
          obtain ⟨k, hk, e⟩ := List.getElem_of_mem ht
          unfold tagsB at h4
          rw [List.all_eq_true] at h4
          have := h4 k (by simpa using hk)
          unfold tagB at this
          have h5 : nameB ((List.map (fun b : ByteArray => b.data.toList) (Lib.splitB ⟨#[44]⟩ 0 (Lib.countB ⟨(restL s).toArray⟩ ⟨#[44]⟩) ⟨(restL s).toArray⟩)).getD k []) = true := by
            simp only [Bool.and_eq_true] at this; exact this.1
          have h6 := (nameB_len h5).2
          simp only [List.getD, List.getElem?_map, List.getElem?_eq_getElem hk, Option.map_some, Option.getD_some, e] at h6
          show t.data.size ≤ 24
          rw [← Array.length_toList]; exact h6)
        have hs : (⟨(restL s).toArray⟩ : ByteArray).size = (restL s).length := by simp [ByteArray.size]
        rw [hs] at key
        simp only [List.length_map] at h3
        omega
    omega
  · rw [if_neg hi] at h1; simp at h1
structure Ev.Fit (e : Ev) : Prop where
  src : e.src.length ≤ 24
  per : e.per.length ≤ 24
  item : e.item.length ≤ 24
  text : e.text.length ≤ 224
  num0 : 1 ≤ e.num
  num1 : e.num ≤ 1099511627776
  at0 : 0 ≤ e.at_
  at1 : e.at_ ≤ 1099511627776
  val0 : 0 ≤ e.val
  val1 : e.val ≤ 1048576
  kind0 : 0 ≤ e.kind
  kind1 : e.kind ≤ 14
theorem empty_len {l : List UInt8} (h : l.isEmpty = true) : l.length = 0 := by rw [List.isEmpty_iff.1 h]; rfl
theorem mayB_fit {e : Ev} (h : mayB e = true) : e.Fit := by
  unfold mayB at h
  rw [Bool.and_eq_true] at h
  obtain ⟨hh, ht⟩ := h
  unfold headB at hh
  simp only [Bool.and_eq_true, decide_eq_true_eq] at hh
  obtain ⟨⟨⟨⟨a1, a2⟩, a3⟩, a4⟩, a5⟩ := hh
  have hs := (nameB_len a1).2
  have key : e.per.length ≤ 24 ∧ e.item.length ≤ 24 ∧ e.text.length ≤ 224 ∧ 0 ≤ e.val ∧ e.val ≤ 1048576 ∧ 0 ≤ e.kind ∧ e.kind ≤ 14 := by
    unfold tailB at ht
    have hk : e.kind = 0 ∨ e.kind = 1 ∨ e.kind = 2 ∨ e.kind = 3 ∨ e.kind = 4 ∨ e.kind = 5 ∨ e.kind = 6 ∨ e.kind = 7 ∨ e.kind = 8 ∨ e.kind = 9 ∨ e.kind = 10 ∨ e.kind = 11 ∨ e.kind = 12 ∨ e.kind = 13 ∨ e.kind = 14 ∨ ¬ (0 ≤ e.kind ∧ e.kind ≤ 14) := by omega
    have n1 := fun h : nameB e.per = true => (nameB_len h).2
    have n2 := fun h : nameB e.item = true => (nameB_len h).2
    have n3 := fun h : nameB e.text = true => (nameB_len h).2
    have n4 := fun h : listingB e.text = true => listing_len h
    rcases hk with k | k | k | k | k | k | k | k | k | k | k | k | k | k | k | k
    case inr.inr.inr.inr.inr.inr.inr.inr.inr.inr.inr.inr.inr.inr.inr =>
      rw [if_neg (by omega), if_neg (by omega), if_neg (by omega), if_neg (by omega), if_neg (by omega), if_neg (by omega), if_neg (by omega), if_neg (by omega), if_neg (by omega), if_neg (by omega), if_neg (by omega), if_neg (by omega), if_neg (by omega), if_neg (by omega), if_neg (by omega)] at ht
      cases ht
    all_goals (
      simp [k] at ht
      simp only [ht, forall_const, List.length_nil] at n1 n2 n3 n4
      simp only [ht, k, List.length_nil]
      first | omega | (simp; omega) | (simp_all; omega))
  exact ⟨hs, key.1, key.2.1, key.2.2.1, a2, a3, a4, a5, key.2.2.2.1, key.2.2.2.2.1, key.2.2.2.2.2.1, key.2.2.2.2.2.2⟩
theorem Ev.Fit.small {e : Ev} (h : e.Fit) : e.small := ⟨by have := h.src; omega, by have := h.per; omega, by have := h.item; omega, by have := h.text; omega⟩
theorem Ev.Fit.len {e : Ev} (h : e.Fit) : (encE e).length ≤ 1229 := encE_len (by have := h.src; omega) (by have := h.per; omega) (by have := h.item; omega) (by have := h.text; omega) h.num1 h.at1 (by have := h.val1; omega)
end Go.Proofs.YtejjfhhppjdcaaaGreatDoor
namespace Go.Proofs.YtejjfhhppjdcaaaGreatDoor
open Go.RowKit Go.Maps Go.Sort

theorem EvIn.keepB {w w' : World} {b : Nat} {e : Ev} (h : EvIn w b e) (hb : w'.heap[b]? = w.heap[b]?) : EvIn w' b e := by
  obtain ⟨h0, h1, h2, h3, h4, h5, h6, h7⟩ := h
  have key : ∀ (o : Nat) u, w.cell? ⟨b, o, none⟩ = some u → w'.cell? ⟨b, o, none⟩ = some u := fun o u hu => (World.cell?_of_block (w := w) (a := ⟨b, o, none⟩) hb).trans hu
  exact ⟨key _ _ h0, key _ _ h1, key _ _ h2, key _ _ h3, key _ _ h4, key _ _ h5, key _ _ h6, key _ _ h7⟩
/-- a row of bytes of the call's own goes on beside an event -/
structure EnM (w : World) (be : Nat) (e : Ev) (v : Value) (l : List UInt8) (w' : World) : Prop where
  own : OwnB w' w.heap.size v l
  ne : ∀ b, v.ownBlock = some b → b ≠ be
  ev : EvIn w' be e
  bel : Below w.heap.size w w'
  lt : be < w'.heap.size
  ge : w.heap.size ≤ be
theorem EnM.next {w w' w2 : World} {be : Nat} {e : Ev} {v v2 : Value} {l l2 : List UInt8} (h : EnM w be e v l w') (h2 : PnM w' w.heap.size v l2 v2 w2) : EnM w be e v2 l2 w2 := by
  have hs := h2.keep.size
  have hs0 := h.bel.size
  refine ⟨h2.own, fun b hb e' => ?_, h.ev.keepB (h2.keep.block be h.lt (fun hb => h.ne _ hb rfl)), h.bel.trans (h2.keep.below hs0 (fun k hk hv => by have := h.own.lt k hv; omega)), by have := h.lt; omega, h.ge⟩
  rcases h2.blk b hb with h' | h'
  · exact h.ne b h' e'
  · have := h.lt; omega
def EncP (w : World) (l : List UInt8) (er : Int) (e : Ending) (w' : World) : Prop := ∃ v, e = .returned (.tuple #[v, .int .i64 er]) ∧ OwnB w' w.heap.size v l ∧ Below w.heap.size w w'
set_option maxRecDepth 100000 in
set_option maxHeartbeats 4000000 in
theorem evenc_any (w : World) (e : Ev) (hm : mayB e = true) (hmx : MaxAt w) : Calls Tryz.prog 133 #[e.agg] w (EncP w (encE e) 0) := by
  have hf := mayB_fit hm
  have HL := Lib.hid hf.len
  have hsm := hf.small
  obtain ⟨a1, a2, a3, a4, a5, a6, a7, a8, a9, a10, a11, a12⟩ := hf
  have hmay := may_any (w.alloc (evObj e)) e hsm (hmx.up ((Below.refl _ _).alloc (Nat.le_refl _) _))
  rw [hm] at hmay
  have hE : encE e = UInt8.ofNat e.kind.toNat :: (textB e.src ++ numB e.num.toNat ++ numB e.at_.toNat ++ textB e.per ++ textB e.item ++ numB e.val.toNat ++ textB e.text) := rfl
  have hin := EvIn.new w e
  have hb0 : Below w.heap.size w (w.alloc (evObj e)) := (Below.refl _ _).alloc (Nat.le_refl _) _
  clear hm hmx hsm
  have hagg : e.agg = .agg #[.string ⟨e.src.toArray⟩, .int .i64 e.num, .int .i64 e.at_, .int .i64 e.kind, .string ⟨e.per.toArray⟩, .string ⟨e.item.toArray⟩, .int .i64 e.val, .string ⟨e.text.toArray⟩] := rfl
  have HY := Lib.hid hmay
  clear hmay
  obtain ⟨src, num, at_, kind, per, item, val, text⟩ := e
  simp only at *
  obtain ⟨n, rfl⟩ := Int.eq_ofNat_of_zero_le (show 0 ≤ num by omega)
  obtain ⟨a, rfl⟩ := Int.eq_ofNat_of_zero_le a7
  obtain ⟨k, rfl⟩ := Int.eq_ofNat_of_zero_le a11
  obtain ⟨vl, rfl⟩ := Int.eq_ofNat_of_zero_le a9
  simp only [Int.toNat_natCast] at hE
  obtain ⟨L1, hL1⟩ : ∃ l, l = [UInt8.ofNat k] ++ textB src := ⟨_, rfl⟩
  obtain ⟨L2, hL2⟩ : ∃ l, l = L1 ++ numB n := ⟨_, rfl⟩
  obtain ⟨L3, hL3⟩ : ∃ l, l = L2 ++ numB a := ⟨_, rfl⟩
  obtain ⟨L4, hL4⟩ : ∃ l, l = L3 ++ textB per := ⟨_, rfl⟩
  obtain ⟨L5, hL5⟩ : ∃ l, l = L4 ++ textB item := ⟨_, rfl⟩
  obtain ⟨L6, hL6⟩ : ∃ l, l = L5 ++ numB vl := ⟨_, rfl⟩
  obtain ⟨L7, hL7⟩ : ∃ l, l = L6 ++ textB text := ⟨_, rfl⟩
  have hEL : encE ⟨src, n, a, k, per, item, vl, text⟩ = L7 := by rw [hE, hL7, hL6, hL5, hL4, hL3, hL2, hL1]; simp
  rw [hEL] at HL ⊢
  have hlen := HL.out
  have e7 : L6.length ≤ L7.length := by rw [hL7]; simp
  have e6 : L5.length ≤ L6.length := by rw [hL6]; simp
  have e5 : L4.length ≤ L5.length := by rw [hL5]; simp
  have e4 : L3.length ≤ L4.length := by rw [hL4]; simp
  have e3 : L2.length ≤ L3.length := by rw [hL3]; simp
  have e2 : L1.length ≤ L2.length := by rw [hL2]; simp
  have H1 := Lib.hid hL1; have H2 := Lib.hid hL2; have H3 := Lib.hid hL3; have H4 := Lib.hid hL4; have H5 := Lib.hid hL5; have H6 := Lib.hid hL6; have H7 := Lib.hid hL7
  clear hL1 hL2 hL3 hL4 hL5 hL6 hL7 hE hEL HL
  rw [hagg]
  clear hagg
  have HIN := Lib.hid hin; have HB0 := Lib.hid hb0
  clear hin hb0
  go_enter Tryz.func133, Tryz.ntmps133
  go_wp2_with fail
  refine HY.out.mono ?_
  rintro r w1 ⟨rfl, hb1⟩
  have hin1 := HIN.out.below hb1 (by simp)
  have hbw1 : Below w.heap.size w w1 := HB0.out.trans (hb1.mono HB0.out.size)
  have hs1 : w.heap.size + 1 ≤ w1.heap.size := by have := hb1.size; simpa using this
  have HIN1 := Lib.hid hin1
  have HBW1 := Lib.hid hbw1
  obtain ⟨f0, f1, f2, f3, f4, f5, f6, f7⟩ := hin1
  clear hb1 hbw1 HIN HB0 HY
  have hk : (k : Int) % 256 = (k : Int) := by omega
  have HM := Lib.hid (show EnM w w.heap.size ⟨src, n, a, k, per, item, vl, text⟩ (.slice (some ⟨w1.heap.size, 0, none⟩) 1 1) [UInt8.ofNat k] (w1.alloc (.cells #[.int .u8 k] 5)) from by
    refine ⟨?_, fun b hb e => ?_, HIN1.out.keepB (heap_alloc_old _ _ (by omega)), HBW1.out.alloc HBW1.out.size _, by simp; omega, Nat.le_refl _⟩
    · have := World.ownsRow_lit (base := w.heap.size) (e := 5) (size := 1) w1 #[.int .u8 k] 1 HBW1.out.size (by simp [maxLen]) rfl
      unfold OwnB
      have e : bvs [UInt8.ofNat k] = [.int .u8 k] := by simp [bvs]; omega
      rw [e]; exact this
    · simp [Value.ownBlock] at hb; omega)
  -- the calls
  obtain ⟨g0, _⟩ := HM.out.ev
  clear f0 f1 f2 f4 f5 f6 f7 HIN1 HBW1
  simp only at f3 g0
  go_upto_region 4 with fail
  clear f3
  generalize w1.alloc (.cells #[.int .u8 k] 5) = w2 at *
  clear hs1
  go_wp2_with fail
  with_reducible refine (evtext_any w2 w.heap.size (.slice (some ⟨w1.heap.size, 0, none⟩) 1 1) [UInt8.ofNat k] HM.out.own HM.out.bel.size src (by omega) (by first | omega | simp)).mono ?_
  rintro r w3 ⟨v3, rfl, hp⟩
  rw [← H1.out] at hp
  replace HM := Lib.hid (HM.out.next hp)
  clear hp g0
  obtain ⟨_, g1, _⟩ := HM.out.ev
  simp only at g1
  go_wp2_with fail
  with_reducible refine (evnum_any w3 w.heap.size v3 L1 HM.out.own HM.out.bel.size n (by omega) (by first | omega | simp)).mono ?_
  rintro r w4 ⟨v4, rfl, hp⟩
  rw [← H2.out] at hp
  replace HM := Lib.hid (HM.out.next hp)
  clear hp g1
  obtain ⟨_, _, g2, _⟩ := HM.out.ev
  simp only at g2
  go_wp2_with fail
  with_reducible refine (evnum_any w4 w.heap.size v4 L2 HM.out.own HM.out.bel.size a (by omega) (by first | omega | simp)).mono ?_
  rintro r w5 ⟨v5, rfl, hp⟩
  rw [← H3.out] at hp
  replace HM := Lib.hid (HM.out.next hp)
  clear hp g2
  obtain ⟨_, _, _, _, g4, _⟩ := HM.out.ev
  simp only at g4
  go_wp2_with fail
  with_reducible refine (evtext_any w5 w.heap.size v5 L3 HM.out.own HM.out.bel.size per (by omega) (by first | omega | simp)).mono ?_
  rintro r w6 ⟨v6, rfl, hp⟩
  rw [← H4.out] at hp
  replace HM := Lib.hid (HM.out.next hp)
  clear hp g4
  obtain ⟨_, _, _, _, _, g5, _⟩ := HM.out.ev
  simp only at g5
  go_wp2_with fail
  with_reducible refine (evtext_any w6 w.heap.size v6 L4 HM.out.own HM.out.bel.size item (by omega) (by first | omega | simp)).mono ?_
  rintro r w7 ⟨v7, rfl, hp⟩
  rw [← H5.out] at hp
  replace HM := Lib.hid (HM.out.next hp)
  clear hp g5
  obtain ⟨_, _, _, _, _, _, g6, _⟩ := HM.out.ev
  simp only at g6
  go_wp2_with fail
  with_reducible refine (evnum_any w7 w.heap.size v7 L5 HM.out.own HM.out.bel.size vl (by omega) (by first | omega | simp)).mono ?_
  rintro r w8 ⟨v8, rfl, hp⟩
  rw [← H6.out] at hp
  replace HM := Lib.hid (HM.out.next hp)
  clear hp g6
  obtain ⟨_, _, _, _, _, _, _, g7⟩ := HM.out.ev
  simp only at g7
  go_wp2_with fail
  with_reducible refine (evtext_any w8 w.heap.size v8 L6 HM.out.own HM.out.bel.size text (by omega) (by first | omega | simp)).mono ?_
  rintro r w9 ⟨v9, rfl, hp⟩
  rw [← H7.out] at hp
  replace HM := Lib.hid (HM.out.next hp)
  clear hp g7
  obtain ⟨A9, c9, hv9⟩ := HM.out.own.form
  subst hv9
  go_wp2
  go_ret2
  exact ⟨_, rfl, HM.out.own, HM.out.bel⟩
end Go.Proofs.YtejjfhhppjdcaaaGreatDoor
