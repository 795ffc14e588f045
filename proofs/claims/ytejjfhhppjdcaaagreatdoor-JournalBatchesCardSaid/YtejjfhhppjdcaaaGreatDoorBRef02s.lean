/-
  Layer 2: the document's Same, Texts, Big, Some.
  Layer 2: the document's Some and Texts.
-/
import Derived.Test.YtejjfhhppjdcaaaGreatDoorBErWalk
import Derived.Test.YtejjfhhppjdcaaaGreatDoorBStrs
namespace Go.Proofs.YtejjfhhppjdcaaaGreatDoor
open Go.RowKit Go.Maps Go.Sort

set_option maxRecDepth 100000 in
set_option maxHeartbeats 2000000 in
theorem same02_any (w : World) (B B' : Nat) (A A' : Option Addr) (n c c' : Nat) (es : List Ev) (h : Evs w B A n c es) (h' : Evs w B' A' n c' es) (hn : n ≤ 100000) :
    Calls Tryz.prog 38 #[.slice A n c, .slice A' n c'] w fun e w' => e = .returned (.bool true) ∧ ∃ k, w' = w.drewN k := by
  have HH := Lib.hid h; clear h
  have HH' := Lib.hid h'; clear h'
  have hnn : ((n : Int) != (n : Int)) = false := by simp
  go_enter Tryz.func38, Tryz.ntmps38
  go_wp2
  clear hnn
  go_loopw [5] (fun i wr => ∃ k q : Nat, i = .int .i64 k ∧ k ≤ n ∧ wr = w.drewN q) (fun i _ => n - (intOf i).toNat)
  case atStart => exact ⟨0, 0, rfl, Nat.zero_le _, rfl⟩
  case round =>
    obtain ⟨k, q, rfl, hk, rfl⟩ := hrel
    by_cases hkn : k < n
    · have hkl : k < es.length := by rw [HH.out.len]; exact hkn
      obtain ⟨b, off, rfl, hb, hc⟩ := HH.out.ev k hkl
      obtain ⟨b', off', rfl, hb', hc'⟩ := HH'.out.ev k hkl
      obtain ⟨e0, e1, e2, e3, e4, e5, e6, e7⟩ := hc
      obtain ⟨f0, f1, f2, f3, f4, f5, f6, f7⟩ := hc'
      have t1 : (k : Int) < n := by omega
      generalize es[k] = x at *
      go_wp2
      go_quiet (fail)
      go_wp2
      go_roundw
      case rel => exact ⟨k + 1, q + nq, by go_num, by omega, by first | rfl | exact World.drewN_drewN ..⟩
      case measure => simp [intOf]; omega
    · go_wp2
      go_ret
      exact ⟨rfl, _, rfl⟩

def bigB (e : Ev) (m : Int) : Bool := decide (m < e.src.length) || decide (m < e.per.length) || decide (m < e.item.length) || decide (m < e.text.length)
theorem big_any (w : World) (e : Ev) (m : Int) : Calls Tryz.prog 45 #[e.agg, .int .i64 m] w (Says (bigB e m) w) := by
  have HB := Lib.hid (show bigB e m = (decide (m < e.src.length) || decide (m < e.per.length) || decide (m < e.item.length) || decide (m < e.text.length)) from rfl)
  have hb : Below w.heap.size w (w.alloc (evObj e)) := (Below.refl _ _).alloc (Nat.le_refl _) _
  unfold Ev.agg
  cases h1 : decide (m < (e.src.length : Int))
  · cases h2 : decide (m < (e.per.length : Int))
    · cases h3 : decide (m < (e.item.length : Int))
      · have HX := Lib.hid (show bigB e m = decide (m < e.text.length) by rw [HB.out, h1, h2, h3]; rfl)
        go_enter Tryz.func45, Tryz.ntmps45
        go_wp2
        go_ret
        exact ⟨ret_bool HX.out.symm, hb⟩
      · have HX := Lib.hid (show bigB e m = true by rw [HB.out, h1, h2, h3]; rfl)
        go_enter Tryz.func45, Tryz.ntmps45
        go_wp2
        go_ret
        exact ⟨ret_bool HX.out.symm, hb⟩
    · have HX := Lib.hid (show bigB e m = true by rw [HB.out, h1, h2]; rfl)
      go_enter Tryz.func45, Tryz.ntmps45
      go_wp2
      go_ret
      exact ⟨ret_bool HX.out.symm, hb⟩
  · have HX := Lib.hid (show bigB e m = true by rw [HB.out, h1]; rfl)
    go_enter Tryz.func45, Tryz.ntmps45
    go_wp2
    go_ret
    exact ⟨ret_bool HX.out.symm, hb⟩
end Go.Proofs.YtejjfhhppjdcaaaGreatDoor
namespace Go.Proofs.YtejjfhhppjdcaaaGreatDoor
open Go.RowKit Go.Maps Go.Sort

def SmRel (w : World) (es : List Ev) (m : Int) (i : Value) (wr : World) : Prop := ∃ k : Nat, i = .int .i64 k ∧ k ≤ es.length ∧ (∀ d ∈ es.take k, bigB d m = false) ∧ Below w.heap.size w wr
set_option maxRecDepth 100000 in
set_option maxHeartbeats 2000000 in
theorem some_any (w : World) (A : Option Addr) (n c : Nat) (ds : List Ev) (h : Evs w w.heap.size A n c ds) (hn : n ≤ 140737488355328) (m : Int) :
    Calls Tryz.prog 15 #[.slice A n c, .int .i64 m] w (Says (ds.any (fun d => bigB d m)) w) := by
  have HH := Lib.hid h; clear h
  have hl := HH.out.len
  have HL := Lib.hid hl; clear hl
  go_enter Tryz.func15, Tryz.ntmps15
  go_wp2
  go_loopw [5] (fun i wr => SmRel w ds m i wr) (fun i _ => n - (intOf i).toNat)
  case atStart => exact ⟨0, rfl, Nat.zero_le _, fun d hd => by simp at hd, Below.refl _ _⟩
  case round =>
    obtain ⟨k, rfl, hk, hno, hbel⟩ := hrel
    have HNO := Lib.hid hno; clear hno
    have hkL : k ≤ n := by rw [← HL.out]; exact hk
    by_cases hkn : k < n
    · have hkl : k < ds.length := by rw [HL.out]; exact hkn
      obtain ⟨b, off, rfl, hb, hd⟩ := HH.out.ev k hkl
      obtain ⟨e0, e1, e2, e3, e4, e5, e6, e7⟩ := hd.below hbel hb
      have HT := Lib.hid (show bigB ds[k] m = false → ∀ d ∈ ds.take (k + 1), bigB d m = false from fun h d hd => by
        rw [List.take_add_one, List.getElem?_eq_getElem hkl, Option.toList_some] at hd
        rcases List.mem_append.1 hd with hd | hd
        · exact HNO.out d hd
        · simp at hd; subst hd; exact h)
      have HY := Lib.hid (show bigB ds[k] m = true → ds.any (fun d => bigB d m) = true from fun h => List.any_eq_true.2 ⟨_, List.getElem_mem hkl, h⟩)
      generalize ds[k] = d at *
      have t1 : (k : Int) < n := by omega
      go_wp2_with fail
      refine (big_any wr d m).mono ?_
      rintro r w2 ⟨rfl, hb2⟩
      have hbw2 : Below w.heap.size w w2 := hbel.trans (hb2.mono hbel.size)
      clear hb2 e0 e1 e2 e3 e4 e5 e6 e7 hd
      cases hbg : bigB d m
      · have HT' := Lib.hid (HT.out hbg)
        clear hbg
        go_wp2
        go_roundw
        case rel => exact ⟨k + 1, by go_num, by omega, HT'.out, hbw2⟩
        case measure => simp [intOf]; omega
      · have HY' := Lib.hid (HY.out hbg)
        clear hbg
        go_wp2
        go_ret
        exact ⟨ret_bool (by rw [HY'.out]), hbw2⟩
    · have HZ := Lib.hid (show ds.any (fun d => bigB d m) = false by
        rw [List.any_eq_false]
        intro d hd
        have := HNO.out d (by rw [List.take_of_length_le (by rw [HL.out]; omega)]; exact hd)
        simp [this])
      have t1 : ¬ (k : Int) < n := by omega
      go_wp2
      go_ret
      exact ⟨ret_bool (by rw [HZ.out]), hbel⟩
set_option maxHeartbeats 1000000 in
theorem texts_any (w : World) (B B' : Nat) (A A' : Option Addr) (n c c' : Nat) (ss : List (List UInt8)) (h : Strs w B A n c ss) (h' : Strs w B' A' n c' ss) (hn : n ≤ 100000) :
    Calls Tryz.prog 21 #[.slice A n c, .slice A' n c'] w fun e w' => e = .returned (.bool true) ∧ ∃ k, w' = w.drewN k := by
  have HH := Lib.hid h; clear h
  have HH' := Lib.hid h'; clear h'
  have hnn : ((n : Int) != (n : Int)) = false := by simp
  go_enter Tryz.func21, Tryz.ntmps21
  go_wp2
  clear hnn
  go_loopw [5] (fun i wr => ∃ k q : Nat, i = .int .i64 k ∧ k ≤ n ∧ wr = w.drewN q) (fun i _ => n - (intOf i).toNat)
  case atStart => exact ⟨0, 0, rfl, Nat.zero_le _, rfl⟩
  case round =>
    obtain ⟨k, q, rfl, hk, rfl⟩ := hrel
    by_cases hkn : k < n
    · have hkl : k < ss.length := by rw [HH.out.len]; exact hkn
      obtain ⟨b, off, rfl, hb, hc⟩ := HH.out.at_ k hkl
      obtain ⟨b', off', rfl, hb', hc'⟩ := HH'.out.at_ k hkl
      have t1 : (k : Int) < n := by omega
      generalize ss[k] = x at *
      have t5 : (!(x == x)) = false := by simp
      go_wp2
      go_quiet (fail)
      go_wp2
      go_roundw
      case rel => exact ⟨k + 1, _, by go_num, by omega, rfl⟩
      case measure => simp [intOf]; omega
    · go_wp2
      go_ret
      exact ⟨rfl, _, rfl⟩
end Go.Proofs.YtejjfhhppjdcaaaGreatDoor
