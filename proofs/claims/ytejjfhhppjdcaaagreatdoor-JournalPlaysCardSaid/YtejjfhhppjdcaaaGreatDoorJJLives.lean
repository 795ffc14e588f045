/-
  Layer 2: the document's Some and Texts.
  Layer 2: the document's All.
  Layer 5: the laws' lives.
-/
import Derived.Test.YtejjfhhppjdcaaaGreatDoorJRef02
import Derived.Test.YtejjfhhppjdcaaaGreatDoorJRMay4
import Derived.Test.YtejjfhhppjdcaaaGreatDoorJJlNew
namespace Go.Proofs.YtejjfhhppjdcaaaGreatDoor
open Go.RowKit Go.Maps Go.Sort

def SmRel (w : World) (es : List Ev) (m : Int) (i : Value) (wr : World) : Prop := ∃ k : Nat, i = .int .i64 k ∧ k ≤ es.length ∧ (∀ d ∈ es.take k, bigB d m = false) ∧ Below w.heap.size w wr
set_option maxRecDepth 100000 in
set_option maxHeartbeats 2000000 in
theorem some_any (w : World) (A : Option Addr) (n c : Nat) (ds : List Ev) (h : Evs w w.heap.size A n c ds) (hn : n ≤ 140737488355328) (m : Int) :
    Calls Tryz.prog 15 #[.slice A n c, .int .i64 m] w (Says (ds.any (fun d => bigB d m)) w) := by
  have HH := Lib.hid h; clear h
  have hl := HH.out.len
  have HL := Lib.hid hl; clear hl
  go_enter Tryz.func15, Tryz.ntmps15
  go_wp2
  go_loopw [5] (fun i wr => SmRel w ds m i wr) (fun i _ => n - (intOf i).toNat)
  case atStart => exact ⟨0, rfl, Nat.zero_le _, fun d hd => by simp at hd, Below.refl _ _⟩
  case round =>
    obtain ⟨k, rfl, hk, hno, hbel⟩ := hrel
    have HNO := Lib.hid hno; clear hno
    have hkL : k ≤ n := by rw [← HL.out]; exact hk
    by_cases hkn : k < n
    · have hkl : k < ds.length := by rw [HL.out]; exact hkn
      obtain ⟨b, off, rfl, hb, hd⟩ := HH.out.ev k hkl
      obtain ⟨e0, e1, e2, e3, e4, e5, e6, e7⟩ := hd.below hbel hb
      have HT := Lib.hid (show bigB ds[k] m = false → ∀ d ∈ ds.take (k + 1), bigB d m = false from fun h d hd => by
        rw [List.take_add_one, List.getElem?_eq_getElem hkl, Option.toList_some] at hd
        rcases List.mem_append.1 hd with hd | hd
        · exact HNO.out d hd
        · simp at hd; subst hd; exact h)
      have HY := Lib.hid (show bigB ds[k] m = true → ds.any (fun d => bigB d m) = true from fun h => List.any_eq_true.2 ⟨_, List.getElem_mem hkl, h⟩)
      generalize ds[k] = d at *
      have t1 : (k : Int) < n := by omega
      go_wp2_with fail
      refine (big_any wr d m).mono ?_
      rintro r w2 ⟨rfl, hb2⟩
      have hbw2 : Below w.heap.size w w2 := hbel.trans (hb2.mono hbel.size)
      clear hb2 e0 e1 e2 e3 e4 e5 e6 e7 hd
      cases hbg : bigB d m
      · have HT' := Lib.hid (HT.out hbg)
        clear hbg
        go_wp2
        go_roundw
        case rel => exact ⟨k + 1, by go_num, by omega, HT'.out, hbw2⟩
        case measure => simp [intOf]; omega
      · have HY' := Lib.hid (HY.out hbg)
        clear hbg
        go_wp2
        go_ret
        exact ⟨ret_bool (by rw [HY'.out]), hbw2⟩
    · have HZ := Lib.hid (show ds.any (fun d => bigB d m) = false by
        rw [List.any_eq_false]
        intro d hd
        have := HNO.out d (by rw [List.take_of_length_le (by rw [HL.out]; omega)]; exact hd)
        simp [this])
      have t1 : ¬ (k : Int) < n := by omega
      go_wp2
      go_ret
      exact ⟨ret_bool (by rw [HZ.out]), hbel⟩
set_option maxHeartbeats 1000000 in
theorem texts_any (w : World) (B B' : Nat) (A A' : Option Addr) (n c c' : Nat) (ss : List (List UInt8)) (h : Strs w B A n c ss) (h' : Strs w B' A' n c' ss) (hn : n ≤ 100000) :
    Calls Tryz.prog 21 #[.slice A n c, .slice A' n c'] w fun e w' => e = .returned (.bool true) ∧ ∃ k, w' = w.drewN k := by
  have HH := Lib.hid h; clear h
  have HH' := Lib.hid h'; clear h'
  have hnn : ((n : Int) != (n : Int)) = false := by simp
  go_enter Tryz.func21, Tryz.ntmps21
  go_wp2
  clear hnn
  go_loopw [5] (fun i wr => ∃ k q : Nat, i = .int .i64 k ∧ k ≤ n ∧ wr = w.drewN q) (fun i _ => n - (intOf i).toNat)
  case atStart => exact ⟨0, 0, rfl, Nat.zero_le _, rfl⟩
  case round =>
    obtain ⟨k, q, rfl, hk, rfl⟩ := hrel
    by_cases hkn : k < n
    · have hkl : k < ss.length := by rw [HH.out.len]; exact hkn
      obtain ⟨b, off, rfl, hb, hc⟩ := HH.out.at_ k hkl
      obtain ⟨b', off', rfl, hb', hc'⟩ := HH'.out.at_ k hkl
      have t1 : (k : Int) < n := by omega
      generalize ss[k] = x at *
      have t5 : (!(x == x)) = false := by simp
      go_wp2
      go_quiet (fail)
      go_wp2
      go_roundw
      case rel => exact ⟨k + 1, _, by go_num, by omega, rfl⟩
      case measure => simp [intOf]; omega
    · go_wp2
      go_ret
      exact ⟨rfl, _, rfl⟩
end Go.Proofs.YtejjfhhppjdcaaaGreatDoor
namespace Go.Proofs.YtejjfhhppjdcaaaGreatDoor
open Go.RowKit Go.Maps Go.Sort

def AlRel (w : World) (es : List Ev) (i : Value) (wr : World) : Prop := ∃ k : Nat, i = .int .i64 k ∧ k ≤ es.length ∧ (∀ d ∈ es.take k, mayB d = true) ∧ Below w.heap.size w wr
set_option maxRecDepth 100000 in
set_option maxHeartbeats 2000000 in
theorem all02_any (w : World) (A : Option Addr) (n c : Nat) (ds : List Ev) (h : Evs w w.heap.size A n c ds) (hn : n ≤ 140737488355328) (hs : ∀ e ∈ ds, e.small) :
    Calls Tryz.prog 16 #[.slice A n c] w (Says (ds.all mayB) w) := by
  have HH := Lib.hid h; have HS := Lib.hid hs; clear h hs
  have hl := HH.out.len
  have HL := Lib.hid hl; clear hl
  go_enter Tryz.func16, Tryz.ntmps16
  go_wp2
  go_loopw [3] (fun i wr => AlRel w ds i wr) (fun i _ => n - (intOf i).toNat)
  case atStart => exact ⟨0, rfl, Nat.zero_le _, fun d hd => by simp at hd, Below.refl _ _⟩
  case round =>
    obtain ⟨k, rfl, hk, hno, hbel⟩ := hrel
    have HNO := Lib.hid hno; clear hno
    have hkL : k ≤ n := by rw [← HL.out]; exact hk
    by_cases hkn : k < n
    · have hkl : k < ds.length := by rw [HL.out]; exact hkn
      obtain ⟨b, off, rfl, hb, hd⟩ := HH.out.ev k hkl
      obtain ⟨e0, e1, e2, e3, e4, e5, e6, e7⟩ := hd.below hbel hb
      have HT := Lib.hid (show mayB ds[k] = true → ∀ d ∈ ds.take (k + 1), mayB d = true from fun h d hd => by
        rw [List.take_add_one, List.getElem?_eq_getElem hkl, Option.toList_some] at hd
        rcases List.mem_append.1 hd with hd | hd
        · exact HNO.out d hd
        · simp at hd; subst hd; exact h)
      have HY := Lib.hid (show mayB ds[k] = false → ds.all mayB = false from fun h => List.all_eq_false.2 ⟨_, List.getElem_mem hkl, by simp [h]⟩)
      have HSM := Lib.hid (HS.out _ (List.getElem_mem hkl))
      generalize ds[k] = d at *
      have t1 : (k : Int) < n := by omega
      go_wp2_with fail
      refine (rmay_any wr d HSM.out).mono ?_
      rintro r w2 ⟨rfl, hb2⟩
      have hbw2 : Below w.heap.size w w2 := hbel.trans (hb2.mono hbel.size)
      clear hb2 e0 e1 e2 e3 e4 e5 e6 e7 hd
      cases hbg : mayB d
      · have HY' := Lib.hid (HY.out hbg)
        clear hbg
        go_wp2
        go_ret
        exact ⟨ret_bool (by rw [HY'.out]), hbw2⟩
      · have HT' := Lib.hid (HT.out hbg)
        clear hbg
        go_wp2
        go_roundw
        case rel => exact ⟨k + 1, by go_num, by omega, HT'.out, hbw2⟩
        case measure => simp [intOf]; omega
    · have HZ := Lib.hid (show ds.all mayB = true by
        rw [List.all_eq_true]
        intro d hd
        exact HNO.out d (by rw [List.take_of_length_le (by rw [HL.out]; omega)]; exact hd))
      have t1 : ¬ (k : Int) < n := by omega
      go_wp2
      go_ret
      exact ⟨ret_bool (by rw [HZ.out]), hbel⟩
end Go.Proofs.YtejjfhhppjdcaaaGreatDoor
namespace Go.Proofs.YtejjfhhppjdcaaaGreatDoor
open Go.RowKit Go.Maps Go.Sort Go.Shelf

def exF : Ev := ⟨[115], 1, 0, 14, [112], [], 0, []⟩
def exN : Jl := Jl.new Dk.new [106] 2
theorem ex_app : exN.appN [exF, exF, exF] = 0 ∧ exN.appE [exF, exF, exF] = 0 ∧ (exN.app [exF, exF, exF]).es.length = 3 ∧ (exN.app [exF, exF, exF]).lasts = 2 ∧ (exN.app [exF, exF, exF]).dk.files.map (·.1) = [[106, 46, 48], [106, 46, 49]] := by decide +kernel
theorem exF_small : ∀ e ∈ [exF, exF, exF], e.small := fun e he => by
  simp only [List.mem_cons, List.not_mem_nil, or_false, or_self] at he
  subst he; exact ⟨by simp [exF], by simp [exF], by simp [exF], by simp [exF]⟩
set_option maxRecDepth 100000 in
set_option maxHeartbeats 2000000 in
theorem jlives_any (w : World) (hmx : MaxAt w) : Calls Tryz.prog 14 #[] w (Says true w) := by
  have HMX := Lib.hid hmx
  have hmlt := hmx.lt
  clear hmx
  go_enter Tryz.func14, Tryz.ntmps14
  go_wp2_with fail
  refine (dknew_any w).mono ?_
  rintro r w1 ⟨bd, G1, rfl, hd1, hG1, hb1⟩
  have HD1 := Lib.hid hd1; have HG1 := Lib.hid hG1; have HB1 := Lib.hid hb1
  clear hd1 hG1 hb1
  go_wp2_with fail
  refine (jlopen0_any w1 G1 bd Dk.new HD1.out rfl rfl [106] (by decide) 2 (by omega) (by omega)).mono ?_
  rintro r w2 ⟨bj, G2, F2, rfl, hj2, hG2, hF2, hk2⟩
  have hs1 := HB1.out.size
  have HJ2 := Lib.hid (show JlIn w2 G2 F2 bj bd exN from hj2)
  have HG2 := Lib.hid (show ∀ b, G2 b ∨ F2 b → w.heap.size ≤ b from fun b hb => by
    rcases hb with h | h
    · rcases hG2 b h with h | h
      · exact HG1.out b h
      · omega
    · have := hF2 b h; omega)
  have HB2 := Lib.hid (show Below w.heap.size w w2 from HB1.out.trans (hk2.below hs1 (fun k hk hg => by have := HG1.out k hg; omega)))
  clear hj2 hG2 hF2 hk2
  go_upto_region 6 with fail
  have HB3 := Lib.hid (HB2.out.alloc HB2.out.size (evObj exF))
  have HJ3 := Lib.hid (HJ2.out.up (show Below w2.heap.size w2 (w2.alloc (evObj exF)) from (Below.refl _ _).alloc (Nat.le_refl _) _))
  have HJ3' := Lib.hid (show exN.app [exF, exF, exF] = exN.app [exF, exF, exF] from rfl)
  have hin := EvIn.new w2 exF
  have hb3 : w2.heap.size < (w2.alloc (evObj exF)).heap.size := by simp
  have hmx3 := HMX.out.up HB3.out
  obtain ⟨w3, hw3⟩ : ∃ w3, w3 = w2.alloc (evObj exF) := ⟨_, rfl⟩
  rw [← hw3] at HB3 HJ3 hin hb3 hmx3
  rw [show w2.alloc (.cells #[.string ⟨#[115]⟩, .int .i64 1, .int .i64 0, .int .i64 14, .string ⟨#[112]⟩, .string ⟨#[]⟩, .int .i64 0, .string ⟨#[]⟩] 36) = w3 from hw3.symm]
  have HMX3 := Lib.hid hmx3
  obtain ⟨e0, e1, e2, e3, e4, e5, e6, e7⟩ := hin
  simp only [exF] at e0 e1 e2 e3 e4 e5 e6 e7
  have HEV := Lib.hid (show Evs (w3.alloc (.cells #[.string ⟨#[115]⟩, .int .i64 1, .int .i64 0, .int .i64 14, .string ⟨#[112]⟩, .string ⟨#[]⟩, .int .i64 0, .string ⟨#[]⟩, .string ⟨#[115]⟩, .int .i64 1, .int .i64 0, .int .i64 14, .string ⟨#[112]⟩, .string ⟨#[]⟩, .int .i64 0, .string ⟨#[]⟩, .string ⟨#[115]⟩, .int .i64 1, .int .i64 0, .int .i64 14, .string ⟨#[112]⟩, .string ⟨#[]⟩, .int .i64 0, .string ⟨#[]⟩] 36)) (w3.heap.size + 1) (some ⟨w3.heap.size, 0, none⟩) 3 3 [exF, exF, exF] from
    Cel.new (size := 8) (n := 3) w3 #[.string ⟨#[115]⟩, .int .i64 1, .int .i64 0, .int .i64 14, .string ⟨#[112]⟩, .string ⟨#[]⟩, .int .i64 0, .string ⟨#[]⟩, .string ⟨#[115]⟩, .int .i64 1, .int .i64 0, .int .i64 14, .string ⟨#[112]⟩, .string ⟨#[]⟩, .int .i64 0, .string ⟨#[]⟩, .string ⟨#[115]⟩, .int .i64 1, .int .i64 0, .int .i64 14, .string ⟨#[112]⟩, .string ⟨#[]⟩, .int .i64 0, .string ⟨#[]⟩] 36 (by unfold maxLen; omega) rfl)
  have HB4 := Lib.hid (show Below w3.heap.size w3 (w3.alloc (.cells #[.string ⟨#[115]⟩, .int .i64 1, .int .i64 0, .int .i64 14, .string ⟨#[112]⟩, .string ⟨#[]⟩, .int .i64 0, .string ⟨#[]⟩, .string ⟨#[115]⟩, .int .i64 1, .int .i64 0, .int .i64 14, .string ⟨#[112]⟩, .string ⟨#[]⟩, .int .i64 0, .string ⟨#[]⟩, .string ⟨#[115]⟩, .int .i64 1, .int .i64 0, .int .i64 14, .string ⟨#[112]⟩, .string ⟨#[]⟩, .int .i64 0, .string ⟨#[]⟩] 36)) from (Below.refl _ _).alloc (Nat.le_refl _) _)
  have HS4 := Lib.hid (show (w3.alloc (.cells #[.string ⟨#[115]⟩, .int .i64 1, .int .i64 0, .int .i64 14, .string ⟨#[112]⟩, .string ⟨#[]⟩, .int .i64 0, .string ⟨#[]⟩, .string ⟨#[115]⟩, .int .i64 1, .int .i64 0, .int .i64 14, .string ⟨#[112]⟩, .string ⟨#[]⟩, .int .i64 0, .string ⟨#[]⟩, .string ⟨#[115]⟩, .int .i64 1, .int .i64 0, .int .i64 14, .string ⟨#[112]⟩, .string ⟨#[]⟩, .int .i64 0, .string ⟨#[]⟩] 36)).heap.size = w3.heap.size + 1 by simp)
  clear hw3 hmx3
  go_wp2_with fail
  clear e0 e1 e2 e3 e4 e5 e6 e7
  generalize w3.alloc (.cells #[.string ⟨#[115]⟩, .int .i64 1, .int .i64 0, .int .i64 14, .string ⟨#[112]⟩, .string ⟨#[]⟩, .int .i64 0, .string ⟨#[]⟩, .string ⟨#[115]⟩, .int .i64 1, .int .i64 0, .int .i64 14, .string ⟨#[112]⟩, .string ⟨#[]⟩, .int .i64 0, .string ⟨#[]⟩, .string ⟨#[115]⟩, .int .i64 1, .int .i64 0, .int .i64 14, .string ⟨#[112]⟩, .string ⟨#[]⟩, .int .i64 0, .string ⟨#[]⟩] 36) = w4 at *
  have hlt3 := HJ3.out.lt
  refine (jlapp_any w4 G2 F2 bj bd exN (HJ3.out.up HB4.out) _ 3 3 [exF, exF, exF] (by have := HEV.out; rw [← HS4.out] at this; exact this) (fun b off e _ h => by injection e with e; injection e with e; have := hlt3 b h; omega) exF_small (by simp [exN, Jl.new]) (HMX3.out.up HB4.out) ⟨fun h => by have := HG2.out _ (.inl h); omega, fun h => by have := HG2.out _ (.inr h); omega⟩).mono ?_
  rintro r w5 ⟨rfl, hd5⟩
  rw [ex_app.1, ex_app.2.1]
  obtain ⟨G5, F5, hj5, hG5, hF5, hk5⟩ := hd5
  have hs4 := HB4.out.size
  have hs3 := HB3.out.size
  have HB5 := Lib.hid (show Below w.heap.size w w5 from (HB3.out.trans (HB4.out.mono hs3)).trans (hk5.below (by omega) (fun k hk hg => by have := HG2.out k hg; omega)))
  have HJ5 := Lib.hid hj5
  clear hG5 hF5 hk5 hj5 hlt3
  have HNM := Lib.hid (show Calls Tryz.prog 20 #[.pointer (some ⟨bd, 0, none⟩)] w5 (SrcPost w5 [[106, 46, 48], [106, 46, 49]]) from by
    have := dknames_any w5 G5 bd _ HJ5.out.dk
    rw [ex_app.2.2.2.2] at this; exact this)
  go_wp2_with fail
  refine HNM.out.mono ?_
  rintro r w6 ⟨v6, rfl, hrow6, hb6⟩
  obtain ⟨A6, c6, hv6⟩ := ownsRow_form hrow6
  subst hv6
  have HJ6 := Lib.hid (HJ5.out.up hb6)
  have HB6 := Lib.hid (HB5.out.trans (hb6.mono HB5.out.size))
  have hst6 : Strs w6 w6.heap.size A6 2 c6 [[106, 46, 48], [106, 46, 49]] := Cel.of_own hrow6
  have HST6 := Lib.hid hst6
  clear hrow6 hb6 hst6
  have HST7 := Lib.hid (show Strs (w6.alloc (.cells #[.string ⟨#[106, 46, 48]⟩, .string ⟨#[106, 46, 49]⟩] 9)) (w6.heap.size + 1) (some ⟨w6.heap.size, 0, none⟩) 2 2 [[106, 46, 48], [106, 46, 49]] from
    Cel.new (size := 1) (n := 2) w6 #[.string ⟨#[106, 46, 48]⟩, .string ⟨#[106, 46, 49]⟩] 9 (by unfold maxLen; omega) rfl)
  have HB7 := Lib.hid (show Below w6.heap.size w6 (w6.alloc (.cells #[.string ⟨#[106, 46, 48]⟩, .string ⟨#[106, 46, 49]⟩] 9)) from (Below.refl _ _).alloc (Nat.le_refl _) _)
  go_wp2_with fail
  generalize w6.alloc (.cells #[.string ⟨#[106, 46, 48]⟩, .string ⟨#[106, 46, 49]⟩] 9) = w7 at *
  have HJ7 := Lib.hid (HJ6.out.up HB7.out)
  have HB70 := Lib.hid (HB6.out.trans (HB7.out.mono HB6.out.size))
  refine (texts_any w7 w6.heap.size (w6.heap.size + 1) A6 _ 2 c6 2 [[106, 46, 48], [106, 46, 49]] (HST6.out.below HB7.out) HST7.out (by omega)).mono ?_
  rintro r w8 ⟨rfl, q, rfl⟩
  have HJ8 := Lib.hid (HJ7.out.up (below_drewN (Below.refl _ _) q))
  have HB8 := Lib.hid (below_drewN HB70.out q)
  generalize w7.drewN q = w8 at *
  go_wp2_with fail
  refine (jllen_any w8 G5 F5 bj bd _ HJ8.out).mono ?_
  rintro r w9 ⟨rfl, rfl⟩
  rw [ex_app.2.2.1]
  go_wp2_with fail
  refine (jllasting_any w8 G5 F5 bj bd _ HJ8.out).mono ?_
  rintro r w9 ⟨rfl, rfl⟩
  rw [ex_app.2.2.2.1]
  go_wp2
  go_ret
  exact ⟨rfl, HB8.out⟩
end Go.Proofs.YtejjfhhppjdcaaaGreatDoor
