/-
  Layer 31: taking two people away, in either order (ciceronelaw31.EraseApart).
-/
import Derived.Test.YtnnkhgllfhpdpaaDoorErAgain
namespace Go.Proofs.YtnnkhgllfhpdpaaDoor
open Go.RowKit Go.Maps Go.Sort

def keepB (p1 p2 : List UInt8) (e : Ev) : Bool := !ownB p1 e && !ownB p2 e

theorem keep_once (es : List Ev) (p1 p2 : List UInt8) : (es.filter (fun e => !ownB p1 e)).filter (fun e => !ownB p2 e) = es.filter (keepB p1 p2) := by
  rw [List.filter_filter]
  exact List.filter_congr fun e _ => Bool.and_comm _ _
theorem keep_other (es : List Ev) (p1 p2 : List UInt8) : (es.filter (fun e => !ownB p2 e)).filter (fun e => !ownB p1 e) = es.filter (keepB p1 p2) := by
  rw [List.filter_filter]
  exact List.filter_congr fun e _ => rfl
theorem keep_none1 (es : List Ev) (p1 p2 : List UInt8) : (es.filter (keepB p1 p2)).length - ((es.filter (keepB p1 p2)).filter (fun e => !ownB p1 e)).length = 0 := by
  rw [filter_not_length, List.length_eq_zero_iff, List.filter_eq_nil_iff]
  intro e he ho
  have := (List.mem_filter.1 he).2
  unfold keepB at this
  rw [ho] at this
  cases this
theorem keep_none2 (es : List Ev) (p1 p2 : List UInt8) : (es.filter (keepB p1 p2)).length - ((es.filter (keepB p1 p2)).filter (fun e => !ownB p2 e)).length = 0 := by
  rw [filter_not_length, List.length_eq_zero_iff, List.filter_eq_nil_iff]
  intro e he ho
  have := (List.mem_filter.1 he).2
  unfold keepB at this
  rw [ho, Bool.not_true, Bool.and_false] at this
  cases this
theorem filter_at (es : List Ev) (q : Ev → Bool) (k : Nat) (hk : k < es.length) (hq : q es[k] = true) :
    ((es.take k).filter q).length < (es.filter q).length ∧ (es.filter q)[((es.take k).filter q).length]? = some es[k] := by
  have e : es.filter q = (es.take k).filter q ++ (es[k] :: (es.drop (k + 1)).filter q) := by
    conv => lhs; rw [← List.take_append_drop k es, List.drop_eq_getElem_cons hk]
    rw [List.filter_append, List.filter_cons_of_pos hq]
  constructor
  · rw [e, List.length_append, List.length_cons]; omega
  · rw [e, List.getElem?_append_right (Nat.le_refl _), Nat.sub_self]; rfl

set_option maxRecDepth 100000 in
set_option maxHeartbeats 4000000 in
theorem apart_any (w : World) (A : Option Addr) (n c : Nat) (es : List Ev) (h : Evs w w.heap.size A n c es) (hn : n ≤ 140737488355328) (hfit : ∀ e ∈ es, e.fit) (p p2 : List UInt8) (hp : p.length ≤ 140737488355328) (hp2 : p2.length ≤ 140737488355328) :
    Calls Tryd.prog 6 #[.slice A n c, .string ⟨p.toArray⟩, .string ⟨p2.toArray⟩] w (Says true w) := by
  have HH := Lib.hid h; clear h
  have HF := Lib.hid hfit; clear hfit
  have HL := Lib.hid HH.out.len
  go_enter Tryd.func6, Tryd.ntmps6
  go_wp2_with fail
  refine (long_any w A n c es HH.out hn HF.out).mono ?_
  rintro q w1 ⟨rfl, hb1⟩
  cases hlo : longB es
  case true =>
    clear hlo
    go_wp2_with fail
    refine (awake_any w1).mono ?_
    rintro q w2 ⟨rfl, hb2⟩
    go_wp2
    go_ret
    exact ⟨rfl, hb1.trans (hb2.mono hb1.size)⟩
  obtain ⟨h40, hsm⟩ := long_not hlo
  rw [HL.out] at h40
  have HSM := Lib.hid hsm; clear hsm hlo
  by_cases hp60 : 60 < p.length
  · go_wp2_with fail
    refine (awake_any w1).mono ?_
    rintro q w2 ⟨rfl, hb2⟩
    go_wp2
    go_ret
    exact ⟨rfl, hb1.trans (hb2.mono hb1.size)⟩
  have d60 : decide (60 < (p.length : Int)) = false := decide_eq_false (by omega)
  by_cases hp61 : 60 < p2.length
  · have d61 : decide (60 < (p2.length : Int)) = true := decide_eq_true (by omega)
    go_wp2_with fail
    refine (awake_any w1).mono ?_
    rintro q w2 ⟨rfl, hb2⟩
    go_wp2
    go_ret
    exact ⟨rfl, hb1.trans (hb2.mono hb1.size)⟩
  have d61 : decide (60 < (p2.length : Int)) = false := decide_eq_false (by omega)
  have hf1 : (es.filter (fun e => !ownB p e)).length ≤ n := by have := List.length_filter_le (fun e => !ownB p e) es; rw [HL.out] at this; exact this
  have hf2 : (es.filter (fun e => !ownB p2 e)).length ≤ n := by have := List.length_filter_le (fun e => !ownB p2 e) es; rw [HL.out] at this; exact this
  have hf3 : (es.filter (keepB p p2)).length ≤ n := by have := List.length_filter_le (keepB p p2) es; rw [HL.out] at this; exact this
  have K1 := Lib.hid (keep_once es p p2)
  have K2 := Lib.hid (keep_other es p p2)
  have N1 := Lib.hid (keep_none1 es p p2)
  have N2 := Lib.hid (keep_none2 es p p2)
  go_wp2_with fail
  refine (without_any w1 p A n c es (HH.out.up hb1 (Nat.le_refl _)) (by omega) (by omega)).mono ?_
  intro q w2 hq
  obtain ⟨A2, c2, rfl, hE2, hb2⟩ := hq.open_
  have HE2 := Lib.hid hE2; clear hE2 hq
  have hbw2 : Below w.heap.size w w2 := hb1.trans (hb2.mono hb1.size)
  go_wp2_with fail
  refine (without_any w2 p2 A2 _ c2 _ HE2.out (by omega) (by omega)).mono ?_
  intro q w3 hq
  obtain ⟨A3, c3, rfl, hE3, hb3⟩ := hq.open_
  rw [K1.out] at hE3
  rw [K1.out]
  have HE3 := Lib.hid hE3; clear hE3 hq
  have hbw3 : Below w.heap.size w w3 := hbw2.trans (hb3.mono hbw2.size)
  clear HE2
  go_wp2_with fail
  refine (without_any w3 p2 A n c es (HH.out.up hbw3 (Nat.le_refl _)) (by omega) (by omega)).mono ?_
  intro q w4 hq
  obtain ⟨A4, c4, rfl, hE4, hb4⟩ := hq.open_
  have HE4 := Lib.hid hE4; clear hE4 hq
  have hbw4 : Below w.heap.size w w4 := hbw3.trans (hb4.mono hbw3.size)
  go_wp2_with fail
  refine (without_any w4 p A4 _ c4 _ HE4.out (by omega) (by omega)).mono ?_
  intro q w5 hq
  obtain ⟨A5, c5, rfl, hE5, hb5⟩ := hq.open_
  rw [K2.out] at hE5
  rw [K2.out]
  have HE5 := Lib.hid hE5; clear hE5 hq
  have hbw5 : Below w.heap.size w w5 := hbw4.trans (hb5.mono hbw4.size)
  have hb35 : Below w3.heap.size w3 w5 := hb4.trans (hb5.mono hb4.size)
  clear HE4 K1 K2 hf1 hf2
  go_wp2_with fail
  refine (same31_any w5 _ _ A3 A5 _ c3 c5 _ (HE3.out.up hb35 (Nat.le_refl _)) HE5.out (by omega)).mono ?_
  rintro q w6 ⟨rfl, k6, rfl⟩
  have hbw6 : Below w.heap.size w (w5.drewN k6) := below_drewN hbw5 k6
  have hb36 : Below w3.heap.size w3 (w5.drewN k6) := below_drewN hb35 k6
  generalize w5.drewN k6 = w6 at *
  clear HE5
  go_wp2_with fail
  refine (traces_any w6 p A3 _ c3 _ (HE3.out.up hb36 (Nat.le_refl _)) (by omega) (by omega)).mono ?_
  rintro q w7 ⟨rfl, hb7⟩
  rw [N1.out]
  have hbw7 : Below w.heap.size w w7 := hbw6.trans (hb7.mono hbw6.size)
  have hb37 : Below w3.heap.size w3 w7 := hb36.trans (hb7.mono hb36.size)
  go_wp2_with fail
  refine (traces_any w7 p2 A3 _ c3 _ (HE3.out.up hb37 (Nat.le_refl _)) (by omega) (by omega)).mono ?_
  rintro q w8 ⟨rfl, hb8⟩
  rw [N2.out]
  have hbw8 : Below w.heap.size w w8 := hbw7.trans (hb8.mono hbw7.size)
  have hb38 : Below w3.heap.size w3 w8 := hb37.trans (hb8.mono hb37.size)
  clear N1 N2
  go_wp2
  go_loopw [9, 51] (fun l i wr => ∃ k : Nat, i = .int .i64 k ∧ k ≤ n ∧ l = .int .i64 (((es.take k).filter (keepB p p2)).length : Nat) ∧ Below w8.heap.size w8 wr) (fun _ i _ => n - (intOf i).toNat)
  case atStart => exact ⟨0, rfl, Nat.zero_le _, by simp, Below.refl _ _⟩
  case round =>
    obtain ⟨k, rfl, hk, rfl, hbr⟩ := hrel
    have hb3r : Below w3.heap.size w3 wr := hb38.trans (hbr.mono hb38.size)
    have hbwr : Below w.heap.size w wr := hbw8.trans (hbr.mono hbw8.size)
    by_cases hkn : k < n
    · have hkl : k < es.length := by rw [HL.out]; exact hkn
      have t1 : (k : Int) < n := by omega
      obtain ⟨b, off, rfl, hb, hev⟩ := HH.out.ev k hkl
      obtain ⟨e0, e1, e2, e3, e4, e5, e6, e7⟩ := hev.below hbwr hb
      have HTK := Lib.hid (wfilter_take es (keepB p p2) k hkl)
      have HAT := Lib.hid (filter_at es (keepB p p2) k hkl)
      have hlen : ((es.take k).filter (keepB p p2)).length ≤ k := by
        have := List.length_filter_le (keepB p p2) (es.take k); rw [List.length_take] at this; omega
      clear hev
      generalize es[k] = x at *
      have hbA : Below w8.heap.size w8 (wr.alloc (evObj x)) := hbr.alloc hbr.size _
      go_wp2_with fail
      refine (rown_any _ p x (by omega)).mono ?_
      rintro r u1 ⟨rfl, hbu1⟩
      have hbW1 : Below w8.heap.size w8 u1 := hbA.trans (hbu1.mono hbA.size)
      obtain ⟨f0, f1, f2, f3, f4, f5, f6, f7⟩ := (EvIn.new wr x).below hbu1 (by simp)
      clear e0 e1 e2 e3 e4 e5 e6 e7
      cases ho : ownB p x
      · go_wp2_with fail
        refine (rown_any _ p2 x (by omega)).mono ?_
        rintro r u2 ⟨rfl, hbu2⟩
        have hbW2 : Below w8.heap.size w8 u2 := hbW1.trans (hbu2.mono hbW1.size)
        have hs1 : wr.heap.size < u1.heap.size := by have := hbu1.size; simp at this; omega
        obtain ⟨f0, f1, f2, f3, f4, f5, f6, f7⟩ := ((EvIn.new wr x).below hbu1 (by simp)).below hbu2 hs1
        cases ho2 : ownB p2 x
        · have hkeep : keepB p p2 x = true := by unfold keepB; rw [ho, ho2]; rfl
          obtain ⟨hlt, hat⟩ := HAT.out hkeep
          have HT : Hid ((es.take (k + 1)).filter (keepB p p2) = (es.take k).filter (keepB p p2) ++ [x]) := by have := HTK.out; rw [hkeep] at this; unfold Hid; simpa using this
          have hb3u : Below w3.heap.size w3 u2 := hb38.trans (hbW2.mono hb38.size)
          clear ho ho2 HTK HAT hkeep
          obtain ⟨b', off', rfl, hb', hev'⟩ := HE3.out.ev _ hlt
          have hx : (es.filter (keepB p p2))[((es.take k).filter (keepB p p2)).length] = x := by
            have := List.getElem?_eq_getElem hlt
            rw [this] at hat; injection hat
          rw [hx] at hev'
          obtain ⟨g0, g1, g2, g3, g4, g5, g6, g7⟩ := hev'.below hb3u hb'
          have HT2 : Hid (((es.take (k + 1)).filter (keepB p p2)).length = ((es.take k).filter (keepB p p2)).length + 1) := by unfold Hid; rw [HT.out]; simp
          clear hx hat hev' HT
          generalize ((es.take k).filter (keepB p p2)).length = j at *
          have t2 : (j : Int) < ((es.filter (keepB p p2)).length : Int) := by omega
          go_wp2
          go_quiet (fail)
          go_wp2
          go_roundw
          case rel => exact ⟨k + 1, by go_num, by omega, by rw [HT2.out]; go_num, below_drewN hbW2 _⟩
          case measure => simp [intOf]; omega
        · have hkeep : keepB p p2 x = false := by unfold keepB; rw [ho, ho2]; rfl
          have HT : Hid ((es.take (k + 1)).filter (keepB p p2) = (es.take k).filter (keepB p p2)) := by have := HTK.out; rw [hkeep] at this; unfold Hid; simpa using this
          clear ho ho2 HTK HAT hkeep
          go_wp2
          go_roundw
          case rel => exact ⟨k + 1, by go_num, by omega, by rw [HT.out], hbW2⟩
          case measure => simp [intOf]; omega
      · have hkeep : keepB p p2 x = false := by unfold keepB; rw [ho]; rfl
        have HT : Hid ((es.take (k + 1)).filter (keepB p p2) = (es.take k).filter (keepB p p2)) := by have := HTK.out; rw [hkeep] at this; unfold Hid; simpa using this
        clear ho HTK HAT hkeep
        go_wp2
        go_roundw
        case rel => exact ⟨k + 1, by go_num, by omega, by rw [HT.out], hbW1⟩
        case measure => simp [intOf]; omega
    · have hkk : es.take k = es := List.take_of_length_le (by rw [HL.out]; omega)
      rw [hkk]
      clear hkk
      go_wp2_with fail
      refine (awake_any wr).mono ?_
      rintro q wt ⟨rfl, hbt⟩
      go_wp2
      go_ret
      exact ⟨rfl, hbwr.trans (hbt.mono hbwr.size)⟩
end Go.Proofs.YtnnkhgllfhpdpaaDoor
