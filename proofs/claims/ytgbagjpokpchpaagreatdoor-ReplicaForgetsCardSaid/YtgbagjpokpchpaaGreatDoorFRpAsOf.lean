/-
  Layer 2: the document's Some and Texts.
  Layer 2: the document's All.
  Layer 33: a new replica; lives, few.
  Layer 33: AsOf.
-/
import Derived.Test.YtgbagjpokpchpaaGreatDoorFPplB
import Derived.Test.YtgbagjpokpchpaaGreatDoorFRMay4
import Derived.Test.YtgbagjpokpchpaaGreatDoorFRpPull
namespace Go.Proofs.YtgbagjpokpchpaaGreatDoor
open Go.RowKit Go.Maps Go.Sort

def SmRel (w : World) (es : List Ev) (m : Int) (i : Value) (wr : World) : Prop := ∃ k : Nat, i = .int .i64 k ∧ k ≤ es.length ∧ (∀ d ∈ es.take k, bigB d m = false) ∧ Below w.heap.size w wr
set_option maxRecDepth 100000 in
set_option maxHeartbeats 2000000 in
theorem some_any (w : World) (A : Option Addr) (n c : Nat) (ds : List Ev) (h : Evs w w.heap.size A n c ds) (hn : n ≤ 140737488355328) (m : Int) :
    Calls Tryz.prog 27 #[.slice A n c, .int .i64 m] w (Says (ds.any (fun d => bigB d m)) w) := by
  have HH := Lib.hid h; clear h
  have hl := HH.out.len
  have HL := Lib.hid hl; clear hl
  go_enter Tryz.func27, Tryz.ntmps27
  go_wp2
  go_loopw [5] (fun i wr => SmRel w ds m i wr) (fun i _ => n - (intOf i).toNat)
  case atStart => exact ⟨0, rfl, Nat.zero_le _, fun d hd => by simp at hd, Below.refl _ _⟩
  case round =>
    obtain ⟨k, rfl, hk, hno, hbel⟩ := hrel
    have HNO := Lib.hid hno; clear hno
    have hkL : k ≤ n := by rw [← HL.out]; exact hk
    by_cases hkn : k < n
    · have hkl : k < ds.length := by rw [HL.out]; exact hkn
      obtain ⟨b, off, rfl, hb, hd⟩ := HH.out.ev k hkl
      obtain ⟨e0, e1, e2, e3, e4, e5, e6, e7⟩ := hd.below hbel hb
      have HT := Lib.hid (show bigB ds[k] m = false → ∀ d ∈ ds.take (k + 1), bigB d m = false from fun h d hd => by
        rw [List.take_add_one, List.getElem?_eq_getElem hkl, Option.toList_some] at hd
        rcases List.mem_append.1 hd with hd | hd
        · exact HNO.out d hd
        · simp at hd; subst hd; exact h)
      have HY := Lib.hid (show bigB ds[k] m = true → ds.any (fun d => bigB d m) = true from fun h => List.any_eq_true.2 ⟨_, List.getElem_mem hkl, h⟩)
      generalize ds[k] = d at *
      have t1 : (k : Int) < n := by omega
      go_wp2_with fail
      refine (big_any wr d m).mono ?_
      rintro r w2 ⟨rfl, hb2⟩
      have hbw2 : Below w.heap.size w w2 := hbel.trans (hb2.mono hbel.size)
      clear hb2 e0 e1 e2 e3 e4 e5 e6 e7 hd
      cases hbg : bigB d m
      · have HT' := Lib.hid (HT.out hbg)
        clear hbg
        go_wp2
        go_roundw
        case rel => exact ⟨k + 1, by go_num, by omega, HT'.out, hbw2⟩
        case measure => simp [intOf]; omega
      · have HY' := Lib.hid (HY.out hbg)
        clear hbg
        go_wp2
        go_ret
        exact ⟨ret_bool (by rw [HY'.out]), hbw2⟩
    · have HZ := Lib.hid (show ds.any (fun d => bigB d m) = false by
        rw [List.any_eq_false]
        intro d hd
        have := HNO.out d (by rw [List.take_of_length_le (by rw [HL.out]; omega)]; exact hd)
        simp [this])
      have t1 : ¬ (k : Int) < n := by omega
      go_wp2
      go_ret
      exact ⟨ret_bool (by rw [HZ.out]), hbel⟩
set_option maxHeartbeats 1000000 in
theorem texts_any (w : World) (B B' : Nat) (A A' : Option Addr) (n c c' : Nat) (ss : List (List UInt8)) (h : Strs w B A n c ss) (h' : Strs w B' A' n c' ss) (hn : n ≤ 100000) :
    Calls Tryz.prog 14 #[.slice A n c, .slice A' n c'] w fun e w' => e = .returned (.bool true) ∧ ∃ k, w' = w.drewN k := by
  have HH := Lib.hid h; clear h
  have HH' := Lib.hid h'; clear h'
  have hnn : ((n : Int) != (n : Int)) = false := by simp
  go_enter Tryz.func14, Tryz.ntmps14
  go_wp2
  clear hnn
  go_loopw [5] (fun i wr => ∃ k q : Nat, i = .int .i64 k ∧ k ≤ n ∧ wr = w.drewN q) (fun i _ => n - (intOf i).toNat)
  case atStart => exact ⟨0, 0, rfl, Nat.zero_le _, rfl⟩
  case round =>
    obtain ⟨k, q, rfl, hk, rfl⟩ := hrel
    by_cases hkn : k < n
    · have hkl : k < ss.length := by rw [HH.out.len]; exact hkn
      obtain ⟨b, off, rfl, hb, hc⟩ := HH.out.at_ k hkl
      obtain ⟨b', off', rfl, hb', hc'⟩ := HH'.out.at_ k hkl
      have t1 : (k : Int) < n := by omega
      generalize ss[k] = x at *
      have t5 : (!(x == x)) = false := by simp
      go_wp2
      go_quiet (fail)
      go_wp2
      go_roundw
      case rel => exact ⟨k + 1, _, by go_num, by omega, rfl⟩
      case measure => simp [intOf]; omega
    · go_wp2
      go_ret
      exact ⟨rfl, _, rfl⟩
end Go.Proofs.YtgbagjpokpchpaaGreatDoor
namespace Go.Proofs.YtgbagjpokpchpaaGreatDoor
open Go.RowKit Go.Maps Go.Sort

def AlRel (w : World) (es : List Ev) (i : Value) (wr : World) : Prop := ∃ k : Nat, i = .int .i64 k ∧ k ≤ es.length ∧ (∀ d ∈ es.take k, mayB d = true) ∧ Below w.heap.size w wr
set_option maxRecDepth 100000 in
set_option maxHeartbeats 2000000 in
theorem all02_any (w : World) (A : Option Addr) (n c : Nat) (ds : List Ev) (h : Evs w w.heap.size A n c ds) (hn : n ≤ 140737488355328) (hs : ∀ e ∈ ds, e.small) :
    Calls Tryz.prog 28 #[.slice A n c] w (Says (ds.all mayB) w) := by
  have HH := Lib.hid h; have HS := Lib.hid hs; clear h hs
  have hl := HH.out.len
  have HL := Lib.hid hl; clear hl
  go_enter Tryz.func28, Tryz.ntmps28
  go_wp2
  go_loopw [3] (fun i wr => AlRel w ds i wr) (fun i _ => n - (intOf i).toNat)
  case atStart => exact ⟨0, rfl, Nat.zero_le _, fun d hd => by simp at hd, Below.refl _ _⟩
  case round =>
    obtain ⟨k, rfl, hk, hno, hbel⟩ := hrel
    have HNO := Lib.hid hno; clear hno
    have hkL : k ≤ n := by rw [← HL.out]; exact hk
    by_cases hkn : k < n
    · have hkl : k < ds.length := by rw [HL.out]; exact hkn
      obtain ⟨b, off, rfl, hb, hd⟩ := HH.out.ev k hkl
      obtain ⟨e0, e1, e2, e3, e4, e5, e6, e7⟩ := hd.below hbel hb
      have HT := Lib.hid (show mayB ds[k] = true → ∀ d ∈ ds.take (k + 1), mayB d = true from fun h d hd => by
        rw [List.take_add_one, List.getElem?_eq_getElem hkl, Option.toList_some] at hd
        rcases List.mem_append.1 hd with hd | hd
        · exact HNO.out d hd
        · simp at hd; subst hd; exact h)
      have HY := Lib.hid (show mayB ds[k] = false → ds.all mayB = false from fun h => List.all_eq_false.2 ⟨_, List.getElem_mem hkl, by simp [h]⟩)
      have HSM := Lib.hid (HS.out _ (List.getElem_mem hkl))
      generalize ds[k] = d at *
      have t1 : (k : Int) < n := by omega
      go_wp2_with fail
      refine (rmay_any wr d HSM.out).mono ?_
      rintro r w2 ⟨rfl, hb2⟩
      have hbw2 : Below w.heap.size w w2 := hbel.trans (hb2.mono hbel.size)
      clear hb2 e0 e1 e2 e3 e4 e5 e6 e7 hd
      cases hbg : mayB d
      · have HY' := Lib.hid (HY.out hbg)
        clear hbg
        go_wp2
        go_ret
        exact ⟨ret_bool (by rw [HY'.out]), hbw2⟩
      · have HT' := Lib.hid (HT.out hbg)
        clear hbg
        go_wp2
        go_roundw
        case rel => exact ⟨k + 1, by go_num, by omega, HT'.out, hbw2⟩
        case measure => simp [intOf]; omega
    · have HZ := Lib.hid (show ds.all mayB = true by
        rw [List.all_eq_true]
        intro d hd
        exact HNO.out d (by rw [List.take_of_length_le (by rw [HL.out]; omega)]; exact hd))
      have t1 : ¬ (k : Int) < n := by omega
      go_wp2
      go_ret
      exact ⟨ret_bool (by rw [HZ.out]), hbel⟩
end Go.Proofs.YtgbagjpokpchpaaGreatDoor
namespace Go.Proofs.YtgbagjpokpchpaaGreatDoor
open Go.RowKit Go.Maps Go.Sort Go.Shelf

def RpNewPost (w : World) (G F : Nat → Prop) (bj bd : Nat) (j : Jl) (x : Itk) (e : Ending) (w' : World) : Prop := ∃ br bi R, e = .returned (.pointer (some ⟨br, 0, none⟩)) ∧ RpAt w' G F R br bj bd bi 0 j x 0 ∧ Below w.heap.size w w' ∧ (∀ b, R b → w.heap.size ≤ b) ∧ w.heap.size ≤ br
set_option maxRecDepth 100000 in
set_option maxHeartbeats 2000000 in
theorem rpnew_any (w : World) (G F : Nat → Prop) (bj bd : Nat) (j : Jl) (hj : JlIn w G F bj bd j) (slack idle : Int) (hmx : MaxAt w) :
    Calls Tryz.prog 16 #[.pointer (some ⟨bj, 0, none⟩), .int .i64 slack, .int .i64 idle] w (RpNewPost w G F bj bd j (Itk.new slack idle)) := by
  have HJ := Lib.hid hj
  have hml := hmx.lt
  clear hj hmx
  go_enter Tryz.func16, Tryz.ntmps16
  go_wp2_with fail
  refine (itknew_any w slack idle).mono ?_
  rintro r w1 ⟨bi, R, rfl, hI, hb1, hR⟩
  have HI := Lib.hid hI; have HR := Lib.hid hR
  have hs1 := hb1.size
  have hbq : Below w1.heap.size w1 (w1.alloc (rpObj bj bi 0)) := (Below.refl _ _).alloc (Nat.le_refl _) _
  have hjl := HJ.out.lt
  have hRl : ∀ b, R b → b < w1.heap.size := by obtain ⟨A, _, _, _, _, _, h6⟩ := hI; exact h6
  have HP := Lib.hid (show RpNewPost w G F bj bd j (Itk.new slack idle) (.returned (.pointer (some ⟨w1.heap.size, 0, none⟩))) (w1.alloc (rpObj bj bi 0)) from
    ⟨w1.heap.size, bi, R, rfl, ⟨(HJ.out.up hb1).up hbq, hI.up hbq, heap_alloc_new w1 _, fun h => by
      rcases h with h | h | h
      · have := hjl _ (.inl h); omega
      · have := hjl _ (.inr h); omega
      · have := hRl _ h; omega, fun b hb hg => by have := hjl b hg; have := hR b hb; omega, fun h => by have := hR _ h; omega⟩, hb1.trans (hbq.mono hs1), hR, hs1⟩)
  clear hI hR hb1 hbq hjl hRl
  go_wp2
  go_ret
  exact HP.out
theorem rpoff_any (w : World) (G F R : Nat → Prop) (br bj bd bi N : Nat) (j : Jl) (x : Itk) (off : Nat) (h : RpAt w G F R br bj bd bi N j x off) : Calls Tryz.prog 19 #[.pointer (some ⟨br, 0, none⟩)] w fun e w' => e = .returned (.int .i64 off) ∧ w = w' := by
  obtain ⟨_, _, c2⟩ := h.cells
  clear h
  go_enter Tryz.func19, Tryz.ntmps19
  go_wp2
  go_ret
  exact ⟨rfl, rfl⟩
/-- the events of the document's example -/
def exR (k : Nat) : List Ev := (List.range k).map fun (i : Nat) => ⟨[115], (i : Int) + 1, (i : Int) + 1, 0, [112], [120], 0, []⟩
theorem exR_succ (k : Nat) : exR (k + 1) = exR k ++ [⟨[115], (k : Int) + 1, (k : Int) + 1, 0, [112], [120], 0, []⟩] := by unfold exR; rw [List.range_succ, List.map_append]; rfl
theorem exR_may : (exR 3).all mayB = true := by decide +kernel
def LvRel33 (w : World) (v i : Value) (wr : World) : Prop := ∃ k : Nat, i = .int .i64 ((k : Int) + 1) ∧ k ≤ 3 ∧ OwnE wr w.heap.size v (exR k) ∧ RowKit.Below w.heap.size w wr
set_option maxRecDepth 100000 in
set_option maxHeartbeats 4000000 in
theorem rplives_any (w : World) (hmx : MaxAt w) : Calls Tryz.prog 7 #[] w (Says true w) := by
  have HMX := Lib.hid hmx
  clear hmx
  obtain ⟨i0, hi, hz0, hz1, hz2⟩ := info_parts ev_info
  have HI := Lib.hid hi; have HZ0 := Lib.hid hz0; have HZ1 := Lib.hid hz1; have HZ2 := Lib.hid hz2
  clear hi hz0 hz1 hz2
  have HST := Lib.hid (show LvRel33 w (.slice none 0 0) (.int .i64 1) w from ⟨0, rfl, Nat.zero_le _, World.ownsRow_nil _ _ _ _, Below.refl _ _⟩)
  go_enter Tryz.func7, Tryz.ntmps7
  go_wp2
  go_loopw [1, 2] (fun v i wr => LvRel33 w v i wr) (fun _ i _ => 4 - (intOf i).toNat)
  case atStart => exact HST.out
  case round =>
    obtain ⟨k, rfl, hk, ho, hbel⟩ := hrel
    have HO := Lib.hid ho; have HB := Lib.hid hbel
    have hsr := hbel.size
    clear ho HST
    by_cases hkn : k < 3
    · have t1 : (k : Int) + 1 ≤ 3 := by omega
      have hlen : (exR k).length = k := by unfold exR; simp
      have HTK := Lib.hid (exR_succ k)
      obtain ⟨y, hy⟩ : ∃ y : Ev, y = ⟨[115], (k : Int) + 1, (k : Int) + 1, 0, [112], [120], 0, []⟩ := ⟨_, rfl⟩
      have HY := Lib.hid hy
      rw [← hy] at HTK
      have HYC := Lib.hid (show y.cells = [.string ⟨#[115]⟩, .int .i64 ((k : Int) + 1), .int .i64 ((k : Int) + 1), .int .i64 0, .string ⟨#[112]⟩, .string ⟨#[120]⟩, .int .i64 0, .string ⟨#[]⟩] from by rw [hy]; rfl)
      clear hy
      generalize exR k = out at *
      clear hbel
      go_wp2_with (at_builtin; refine wpList_app (P := Tryz.prog) rfl (.tmp 9) (.tmp 13) 22 rfl 28 i0 _ 8 96 Tryz.underlying22 HI.out HZ0.out HZ1.out HZ2.out rfl (by decide) w.heap.size _ out.length (evCells out) rfl ?c1 (wr.heap.size + 1) _ _ _ y.cells rfl ?c2 (cells_one y) ?c4 ?c5 ?c6 ?_)
      case c1 => exact World.ownsRow.alloc HO.out _
      case c2 => rw [HYC.out]; exact Cel.new wr _ _ (by unfold maxLen; omega) rfl
      case c4 => unfold maxLen; omega
      case c5 => omega
      case c6 => first | omega | (simp; omega)
      intro v' w3 hown3 hg3 hvv
      have hown4 : OwnE w3 w.heap.size v' (out ++ [y]) := by unfold OwnE; rw [evCells_one, List.length_append, hlen]; exact hown3
      have HREL := Lib.hid (show LvRel33 w v' (.int .i64 (((k + 1 : Nat) : Int) + 1)) w3 from ⟨k + 1, rfl, by omega, by rw [HTK.out]; exact hown4, Below.grown (HB.out.alloc hsr _) hg3 (by simp; omega) (fun k' hk' => (World.ownsRow.lt HO.out k' hk').1)⟩)
      have HI2 := Lib.hid (show (((k + 1 : Nat) : Int) + 1) = (k : Int) + 1 + 1 from by omega)
      clear hown3 hown4 hg3 hvv
      go_wp2
      go_roundw
      case rel => rw [← HI2.out]; exact HREL.out
      case measure => simp [intOf]; omega
    · have hk3 : k = 3 := by omega
      subst hk3
      have hl3 : (exR 3).length = 3 := rfl
      obtain ⟨A1, c1, hv, _⟩ := HO.out.form
      subst hv
      have HE := Lib.hid (show Evs wr wr.heap.size A1 (exR 3).length c1 (exR 3) from Cel.of_own HO.out)
      rw [hl3] at HE ⊢
      have HMX1 := Lib.hid (HMX.out.up HB.out)
      clear hbel HO hkn hk
      go_wp2_with fail
      refine (rplog_any wr A1 3 c1 (exR 3) HE.out (by omega) exR_may 2 (by omega) (by omega) HMX1.out).mono ?_
      rintro r w1 ⟨bd, bj, G, F, j, rfl, hj1, hn1, hb1, hes1⟩
      have HJ1 := Lib.hid hj1; have HES := Lib.hid hes1
      have HB1 := Lib.hid (HB.out.trans (hb1.mono hsr))
      have HMX2 := Lib.hid (HMX.out.up HB1.out)
      clear hj1 hn1 hb1 hes1
      go_wp2_with fail
      refine (rpnew_any w1 G F bj bd j HJ1.out 0 0 HMX2.out).mono ?_
      rintro r w2 ⟨br, bi, R, rfl, hr2, hb2, hR2, hbr2⟩
      have HR2 := Lib.hid hr2
      have hs1 := HB1.out.size
      have HB2 := Lib.hid (HB1.out.trans (hb2.mono hs1))
      have HN2 := Lib.hid (show (∀ b, R b → w.heap.size ≤ b) ∧ w.heap.size ≤ br from ⟨fun b hb => by have := hR2 b hb; omega, by omega⟩)
      have hs2 := HB2.out.size
      clear hr2 hb2 hR2 hbr2
      go_wp2_with fail
      refine (rppull_any w2 G F R br bj bd bi 0 j _ 0 HR2.out (exR 3) HES.out 2 2 (by rw [hl3]; decide) (by omega) (by rw [hl3]; omega) (by omega) (HMX.out.up HB2.out)).mono ?_
      rintro r w3 ⟨rfl, R3, hr3, hk3, hR3⟩
      have HR3 := Lib.hid hr3
      have HB3 := Lib.hid (HB2.out.trans (hk3.below hs2 (fun b hb hg => by rcases hg with h | h; (· have := HN2.out.1 b h; omega); (· have := HN2.out.2; omega))))
      have HN3 := Lib.hid (show ∀ b, R3 b → w.heap.size ≤ b from fun b hb => (hR3 b hb).elim (HN2.out.1 b) (fun h => by omega))
      have hs3 := HB3.out.size
      generalize admAll (Itk.new 0 0) _ = x3 at *
      clear hr3 hk3 hR3
      go_wp2_with fail
      refine (rppull_any w3 G F R3 br bj bd bi _ j _ _ HR3.out (exR 3) HES.out 9 1 (by rw [hl3]; decide) (by rw [hl3]; omega) (by rw [hl3]; omega) (by omega) (HMX.out.up HB3.out)).mono ?_
      rintro r w4 ⟨rfl, R4, hr4, hk4, hR4⟩
      have HR4 := Lib.hid hr4
      have HB4 := Lib.hid (HB3.out.trans (hk4.below hs3 (fun b hb hg => by rcases hg with h | h; (· have := HN3.out b h; omega); (· have := HN2.out.2; omega))))
      have HN4 := Lib.hid (show ∀ b, R4 b → w.heap.size ≤ b from fun b hb => (hR4 b hb).elim (HN3.out b) (fun h => by omega))
      have hs4 := HB4.out.size
      generalize admAll x3 _ = x4 at *
      clear hr4 hk4 hR4
      go_wp2_with fail
      refine (rppull_any w4 G F R4 br bj bd bi _ j _ _ HR4.out (exR 3) HES.out 1 0 (by rw [hl3]; decide) (by rw [hl3]; omega) (by rw [hl3]; omega) (by omega) (HMX.out.up HB4.out)).mono ?_
      rintro r w5 ⟨rfl, R5, hr5, hk5, hR5⟩
      have HR5 := Lib.hid hr5
      have HB5 := Lib.hid (HB4.out.trans (hk5.below hs4 (fun b hb hg => by rcases hg with h | h; (· have := HN4.out b h; omega); (· have := HN2.out.2; omega))))
      generalize admAll x4 _ = x5 at *
      clear hr5 hk5 hR5
      go_wp2_with fail
      refine (rpoff_any w5 G F R5 br bj bd bi _ j _ _ HR5.out).mono ?_
      rintro r w6 ⟨rfl, rfl⟩
      go_wp2
      go_ret
      exact ⟨rfl, HB5.out⟩
def fewB (ds : List Ev) : Bool := decide (ds.length ≤ 30) && !ds.any (fun d => bigB d 300) && ds.all mayB
theorem big_small33 {ds : List Ev} (h : ds.any (fun d => bigB d 300) = false) : ∀ e ∈ ds, e.small := fun e he => by
  have := List.any_eq_false.1 h e he
  unfold bigB at this
  simp only [Bool.or_eq_true, decide_eq_true_eq, not_or, Int.not_lt] at this
  exact ⟨by omega, by omega, by omega, by omega⟩
set_option maxRecDepth 100000 in
set_option maxHeartbeats 2000000 in
theorem rpfew_any (w : World) (A : Option Addr) (n c : Nat) (ds : List Ev) (h : Evs w w.heap.size A n c ds) (hn : n ≤ 140737488355328) :
    Calls Tryz.prog 8 #[.slice A n c] w (Says (fewB ds) w) := by
  have HH := Lib.hid h
  have HF := Lib.hid (show fewB ds = (decide (n ≤ 30) && !ds.any (fun d => bigB d 300) && ds.all mayB) from by unfold fewB; rw [h.len])
  clear h
  by_cases h30 : n ≤ 30
  · have t1 : (n : Int) ≤ 30 := by omega
    have HD := Lib.hid (show decide (n ≤ 30) = true from by simp [h30])
    go_enter Tryz.func8, Tryz.ntmps8
    go_wp2_with fail
    refine (some_any w A n c ds HH.out hn 300).mono ?_
    rintro r w1 ⟨rfl, hb1⟩
    have HS := Lib.hid (@big_small33 ds)
    cases hs : ds.any (fun d => bigB d 300)
    · have HSM := Lib.hid (HS.out hs)
      have HF2 := Lib.hid (show fewB ds = ds.all mayB from by rw [HF.out, HD.out, hs]; rfl)
      have HE := Lib.hid (show Evs w1 w1.heap.size A n c ds from Cel.more (Cel.below HH.out hb1) hb1.size)
      clear hs
      go_wp2_with fail
      refine (all02_any w1 A n c ds HE.out hn HSM.out).mono ?_
      rintro r w2 ⟨rfl, hb2⟩
      have hbw : Below w.heap.size w w2 := hb1.trans (hb2.mono hb1.size)
      clear hb2
      generalize ds.all mayB = b at *
      go_wp2
      go_ret
      exact ⟨ret_bool HF2.out.symm, hbw⟩
    · have HF2 := Lib.hid (show fewB ds = false from by rw [HF.out, HD.out, hs]; rfl)
      clear hs
      go_wp2
      go_ret
      exact ⟨ret_bool HF2.out.symm, hb1⟩
  · have t1 : ¬ (n : Int) ≤ 30 := by omega
    have HD := Lib.hid (show fewB ds = false from by rw [HF.out, decide_eq_false h30]; rfl)
    go_enter Tryz.func8, Tryz.ntmps8
    go_wp2
    go_ret
    exact ⟨ret_bool HD.out.symm, Below.refl _ _⟩
end Go.Proofs.YtgbagjpokpchpaaGreatDoor
namespace Go.Proofs.YtgbagjpokpchpaaGreatDoor
open Go.RowKit Go.Maps Go.Sort Go.Shelf

def RpAsPost (w : World) (N : Nat) (x : Itk) (e : Ending) (w' : World) : Prop := ∃ bi R, e = .returned (.tuple #[.pointer (some ⟨bi, 0, none⟩), .int .i64 0]) ∧ ItkAt w' R bi N x ∧ RowKit.Below w.heap.size w w' ∧ ∀ b, R b → w.heap.size ≤ b
set_option maxRecDepth 100000 in
set_option maxHeartbeats 4000000 in
theorem rpasof_any (w : World) (G F : Nat → Prop) (bj bd : Nat) (j : Jl) (hj : JlIn w G F bj bd j) (ds : List Ev) (hes : j.es = ds.map some) (slack idle : Int) (off : Nat) (hoff : off ≤ ds.length) (hlen : ds.length ≤ 60) (hmx : MaxAt w) :
    Calls Tryz.prog 11 #[.pointer (some ⟨bj, 0, none⟩), .int .i64 slack, .int .i64 idle, .int .i64 off] w (RpAsPost w (2 * off) (admAll (Itk.new slack idle) (ds.take off))) := by
  have HJ := Lib.hid hj; have HMX := Lib.hid hmx; have HES := Lib.hid hes
  have HLE := Lib.hid (show j.es.length = ds.length from by rw [hes, List.length_map])
  have HLN := Lib.hid (jllen_any w G F bj bd j hj)
  rw [HLE.out] at HLN
  have t1 : ¬ (off : Int) < 0 := by omega
  have t2 : ¬ (ds.length : Int) < off := by omega
  clear hj hmx hes
  go_enter Tryz.func11, Tryz.ntmps11
  go_wp2_with fail
  refine HLN.out.mono ?_
  rintro r w1 ⟨rfl, rfl⟩
  go_wp2_with fail
  refine (rpnew_any w G F bj bd j HJ.out slack idle HMX.out).mono ?_
  rintro r w2 ⟨br, bi, R, rfl, hr2, hb2, hR2, hbr2⟩
  have HR2 := Lib.hid hr2; have HB2 := Lib.hid hb2
  have HN2 := Lib.hid (show (∀ b, R b → w.heap.size ≤ b) ∧ w.heap.size ≤ br from ⟨hR2, hbr2⟩)
  have hs2 := hb2.size
  clear hr2 hb2 hR2 hbr2
  go_wp2_with fail
  refine (rppull_any w2 G F R br bj bd bi 0 j _ 0 HR2.out ds HES.out off off (by omega) (by omega) hlen (by omega) (HMX.out.up HB2.out)).mono ?_
  rintro r w3 ⟨rfl, R3, hr3, hk3, hR3⟩
  obtain ⟨_, c1, _⟩ := hr3.cells
  have HP := Lib.hid (show RpAsPost w (2 * off) (admAll (Itk.new slack idle) (ds.take off)) (.returned (.tuple #[.pointer (some ⟨bi, 0, none⟩), .int .i64 0])) w3 from by
    refine ⟨bi, R3, rfl, ?_, HB2.out.trans (hk3.below hs2 (fun b hb hg => by rcases hg with h | h; (· have := HN2.out.1 b h; omega); (· have := HN2.out.2; omega))), fun b hb => (hR3 b hb).elim (HN2.out.1 b) (fun h => by omega)⟩
    have := hr3.it
    rw [List.drop_zero, Nat.zero_add] at this
    exact this)
  clear hr3 hk3 hR3
  generalize admAll (Itk.new slack idle) _ = x3 at *
  go_wp2
  exact bodyPost_ret (v := .tuple #[.pointer (some ⟨bi, 0, none⟩), .int .i64 0]) (by simp [results, Tryz.results11, go_sem]) rfl HP.out
end Go.Proofs.YtgbagjpokpchpaaGreatDoor
