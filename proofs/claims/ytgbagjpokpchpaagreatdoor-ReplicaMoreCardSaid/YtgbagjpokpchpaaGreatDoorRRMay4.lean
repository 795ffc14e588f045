/-
  Layer 2, the document's: May.
-/
import Derived.Test.YtgbagjpokpchpaaGreatDoorRRMay3
import Derived.Test.YtgbagjpokpchpaaGreatDoorREvMay
namespace Go.Proofs.YtgbagjpokpchpaaGreatDoor
open Go.RowKit Go.Maps Go.Sort

set_option maxRecDepth 100000 in
set_option maxHeartbeats 4000000 in
theorem rmay_k0 (w : World) (e : Ev) (hs : e.small) (hh : headB e = true) (hk : e.kind = 0) : Calls Tryz.prog 51 #[e.agg] w (Says (mayB e) w) := by
  obtain ⟨s1, s2, s3, s4⟩ := hs
  have HT := Lib.hid (show mayB e = (nameB e.per && nameB e.item && e.text.isEmpty && (e.val == 0)) by
    unfold mayB tailB
    rw [hh, hk]
    simp
    cases nameB e.per <;> cases nameB e.item <;> cases nameB e.text <;> cases listingB e.text <;> cases e.per.isEmpty <;> cases e.item.isEmpty <;> cases e.text.isEmpty <;> simp)
  have hh' : (nameB e.src && decide (1 ≤ e.num) && decide (e.num ≤ 1099511627776) && decide (0 ≤ e.at_) && decide (e.at_ ≤ 1099511627776)) = true := hh
  simp only [Bool.and_eq_true, decide_eq_true_eq] at hh'
  obtain ⟨⟨⟨⟨hns, h1⟩, h2⟩, h3⟩, h4⟩ := hh'
  have HNS := Lib.hid hns
  have HIN := Lib.hid (show (decide (1 ≤ e.num) && decide (e.num ≤ 1099511627776)) = true by simp [h1, h2])
  have HIA := Lib.hid (show (decide (0 ≤ e.at_) && decide (e.at_ ≤ 1099511627776)) = true by simp [h3, h4])
  have HK := Lib.hid hk
  clear hns hh h1 h2 h3 h4 hk
  unfold Ev.agg
  go_enter Tryz.func51, Tryz.ntmps51
  have hb : Below w.heap.size w (w.alloc (evObj e)) := (Below.refl _ _).alloc (Nat.le_refl _) _
  obtain ⟨f0, f1, f2, f3, f4, f5, f6, f7⟩ := EvIn.new w e
  go_wp2_with fail
  refine (rn02q _ e.src s1).mono ?_
  rintro r w1 ⟨rfl, rfl⟩
  rw [HNS.out]
  generalize w.alloc (evObj e) = w1 at *
  rw [HK.out] at f3
  go_wp2_with fail
  refine (rin_any w1 e.num 1 1099511627776).mono ?_
  rintro r w2 ⟨rfl, hw2⟩
  rw [hw2, HIN.out]
  clear hw2
  go_wp2_with fail
  refine (rin_any w1 e.at_ 0 1099511627776).mono ?_
  rintro r w2 ⟨rfl, hw2⟩
  rw [hw2, HIA.out]
  clear hw2
  go_wp2
  go_quiet (fail)
  have hbq : Below w.heap.size w (w1.drewN nq) := below_drewN hb nq
  have g3 : (w1.drewN nq).cell? ⟨w.heap.size, 3, none⟩ = _ := f3
  have g4 : (w1.drewN nq).cell? ⟨w.heap.size, 4, none⟩ = _ := f4
  have g5 : (w1.drewN nq).cell? ⟨w.heap.size, 5, none⟩ = _ := f5
  have g6 : (w1.drewN nq).cell? ⟨w.heap.size, 6, none⟩ = _ := f6
  have g7 : (w1.drewN nq).cell? ⟨w.heap.size, 7, none⟩ = _ := f7
  clear f0 f1 f2 f3 f4 f5 f6 f7 hb
  generalize w1.drewN nq = w2 at *
  go_wp2_with fail
  refine (rn02q w2 e.per s2).mono ?_
  rintro r w3 ⟨rfl, hw3⟩
  rw [hw3]
  clear hw3
  go_wp2_with fail
  refine (rn02q w2 e.item s3).mono ?_
  rintro r w3 ⟨rfl, hw3⟩
  rw [hw3]
  clear hw3
  generalize nameB e.per = b0 at *
  generalize nameB e.item = b1 at *
  generalize e.text.isEmpty = b2 at *
  generalize (e.val == 0) = b3 at *
  cases b0
  · go_wp2
    go_ret
    exact ⟨ret_bool (by rw [HT.out]; rfl), hbq⟩
  cases b1
  · go_wp2
    go_ret
    exact ⟨ret_bool (by rw [HT.out]; rfl), hbq⟩
  cases b2
  · go_wp2
    go_ret
    exact ⟨ret_bool (by rw [HT.out]; rfl), hbq⟩
  cases b3
  · go_wp2
    go_ret
    exact ⟨ret_bool (by rw [HT.out]; rfl), hbq⟩
  go_wp2
  go_ret
  exact ⟨ret_bool (by rw [HT.out]; rfl), hbq⟩

set_option maxRecDepth 100000 in
set_option maxHeartbeats 4000000 in
theorem rmay_k1 (w : World) (e : Ev) (hs : e.small) (hh : headB e = true) (hk : e.kind = 1) : Calls Tryz.prog 51 #[e.agg] w (Says (mayB e) w) := by
  obtain ⟨s1, s2, s3, s4⟩ := hs
  have HT := Lib.hid (show mayB e = (nameB e.per && nameB e.item && e.text.isEmpty && (e.val == 0)) by
    unfold mayB tailB
    rw [hh, hk]
    simp
    cases nameB e.per <;> cases nameB e.item <;> cases nameB e.text <;> cases listingB e.text <;> cases e.per.isEmpty <;> cases e.item.isEmpty <;> cases e.text.isEmpty <;> simp)
  have hh' : (nameB e.src && decide (1 ≤ e.num) && decide (e.num ≤ 1099511627776) && decide (0 ≤ e.at_) && decide (e.at_ ≤ 1099511627776)) = true := hh
  simp only [Bool.and_eq_true, decide_eq_true_eq] at hh'
  obtain ⟨⟨⟨⟨hns, h1⟩, h2⟩, h3⟩, h4⟩ := hh'
  have HNS := Lib.hid hns
  have HIN := Lib.hid (show (decide (1 ≤ e.num) && decide (e.num ≤ 1099511627776)) = true by simp [h1, h2])
  have HIA := Lib.hid (show (decide (0 ≤ e.at_) && decide (e.at_ ≤ 1099511627776)) = true by simp [h3, h4])
  have HK := Lib.hid hk
  clear hns hh h1 h2 h3 h4 hk
  unfold Ev.agg
  go_enter Tryz.func51, Tryz.ntmps51
  have hb : Below w.heap.size w (w.alloc (evObj e)) := (Below.refl _ _).alloc (Nat.le_refl _) _
  obtain ⟨f0, f1, f2, f3, f4, f5, f6, f7⟩ := EvIn.new w e
  go_wp2_with fail
  refine (rn02q _ e.src s1).mono ?_
  rintro r w1 ⟨rfl, rfl⟩
  rw [HNS.out]
  generalize w.alloc (evObj e) = w1 at *
  rw [HK.out] at f3
  go_wp2_with fail
  refine (rin_any w1 e.num 1 1099511627776).mono ?_
  rintro r w2 ⟨rfl, hw2⟩
  rw [hw2, HIN.out]
  clear hw2
  go_wp2_with fail
  refine (rin_any w1 e.at_ 0 1099511627776).mono ?_
  rintro r w2 ⟨rfl, hw2⟩
  rw [hw2, HIA.out]
  clear hw2
  go_wp2
  go_quiet (fail)
  have hbq : Below w.heap.size w (w1.drewN nq) := below_drewN hb nq
  have g3 : (w1.drewN nq).cell? ⟨w.heap.size, 3, none⟩ = _ := f3
  have g4 : (w1.drewN nq).cell? ⟨w.heap.size, 4, none⟩ = _ := f4
  have g5 : (w1.drewN nq).cell? ⟨w.heap.size, 5, none⟩ = _ := f5
  have g6 : (w1.drewN nq).cell? ⟨w.heap.size, 6, none⟩ = _ := f6
  have g7 : (w1.drewN nq).cell? ⟨w.heap.size, 7, none⟩ = _ := f7
  clear f0 f1 f2 f3 f4 f5 f6 f7 hb
  generalize w1.drewN nq = w2 at *
  go_wp2_with fail
  refine (rn02q w2 e.per s2).mono ?_
  rintro r w3 ⟨rfl, hw3⟩
  rw [hw3]
  clear hw3
  go_wp2_with fail
  refine (rn02q w2 e.item s3).mono ?_
  rintro r w3 ⟨rfl, hw3⟩
  rw [hw3]
  clear hw3
  generalize nameB e.per = b0 at *
  generalize nameB e.item = b1 at *
  generalize e.text.isEmpty = b2 at *
  generalize (e.val == 0) = b3 at *
  cases b0
  · go_wp2
    go_ret
    exact ⟨ret_bool (by rw [HT.out]; rfl), hbq⟩
  cases b1
  · go_wp2
    go_ret
    exact ⟨ret_bool (by rw [HT.out]; rfl), hbq⟩
  cases b2
  · go_wp2
    go_ret
    exact ⟨ret_bool (by rw [HT.out]; rfl), hbq⟩
  cases b3
  · go_wp2
    go_ret
    exact ⟨ret_bool (by rw [HT.out]; rfl), hbq⟩
  go_wp2
  go_ret
  exact ⟨ret_bool (by rw [HT.out]; rfl), hbq⟩

set_option maxRecDepth 100000 in
set_option maxHeartbeats 4000000 in
theorem rmay_k2 (w : World) (e : Ev) (hs : e.small) (hh : headB e = true) (hk : e.kind = 2) : Calls Tryz.prog 51 #[e.agg] w (Says (mayB e) w) := by
  obtain ⟨s1, s2, s3, s4⟩ := hs
  have HT := Lib.hid (show mayB e = (nameB e.per && nameB e.item && e.text.isEmpty && (e.val == 0)) by
    unfold mayB tailB
    rw [hh, hk]
    simp
    cases nameB e.per <;> cases nameB e.item <;> cases nameB e.text <;> cases listingB e.text <;> cases e.per.isEmpty <;> cases e.item.isEmpty <;> cases e.text.isEmpty <;> simp)
  have hh' : (nameB e.src && decide (1 ≤ e.num) && decide (e.num ≤ 1099511627776) && decide (0 ≤ e.at_) && decide (e.at_ ≤ 1099511627776)) = true := hh
  simp only [Bool.and_eq_true, decide_eq_true_eq] at hh'
  obtain ⟨⟨⟨⟨hns, h1⟩, h2⟩, h3⟩, h4⟩ := hh'
  have HNS := Lib.hid hns
  have HIN := Lib.hid (show (decide (1 ≤ e.num) && decide (e.num ≤ 1099511627776)) = true by simp [h1, h2])
  have HIA := Lib.hid (show (decide (0 ≤ e.at_) && decide (e.at_ ≤ 1099511627776)) = true by simp [h3, h4])
  have HK := Lib.hid hk
  clear hns hh h1 h2 h3 h4 hk
  unfold Ev.agg
  go_enter Tryz.func51, Tryz.ntmps51
  have hb : Below w.heap.size w (w.alloc (evObj e)) := (Below.refl _ _).alloc (Nat.le_refl _) _
  obtain ⟨f0, f1, f2, f3, f4, f5, f6, f7⟩ := EvIn.new w e
  go_wp2_with fail
  refine (rn02q _ e.src s1).mono ?_
  rintro r w1 ⟨rfl, rfl⟩
  rw [HNS.out]
  generalize w.alloc (evObj e) = w1 at *
  rw [HK.out] at f3
  go_wp2_with fail
  refine (rin_any w1 e.num 1 1099511627776).mono ?_
  rintro r w2 ⟨rfl, hw2⟩
  rw [hw2, HIN.out]
  clear hw2
  go_wp2_with fail
  refine (rin_any w1 e.at_ 0 1099511627776).mono ?_
  rintro r w2 ⟨rfl, hw2⟩
  rw [hw2, HIA.out]
  clear hw2
  go_wp2
  go_quiet (fail)
  have hbq : Below w.heap.size w (w1.drewN nq) := below_drewN hb nq
  have g3 : (w1.drewN nq).cell? ⟨w.heap.size, 3, none⟩ = _ := f3
  have g4 : (w1.drewN nq).cell? ⟨w.heap.size, 4, none⟩ = _ := f4
  have g5 : (w1.drewN nq).cell? ⟨w.heap.size, 5, none⟩ = _ := f5
  have g6 : (w1.drewN nq).cell? ⟨w.heap.size, 6, none⟩ = _ := f6
  have g7 : (w1.drewN nq).cell? ⟨w.heap.size, 7, none⟩ = _ := f7
  clear f0 f1 f2 f3 f4 f5 f6 f7 hb
  generalize w1.drewN nq = w2 at *
  go_wp2_with fail
  refine (rn02q w2 e.per s2).mono ?_
  rintro r w3 ⟨rfl, hw3⟩
  rw [hw3]
  clear hw3
  go_wp2_with fail
  refine (rn02q w2 e.item s3).mono ?_
  rintro r w3 ⟨rfl, hw3⟩
  rw [hw3]
  clear hw3
  generalize nameB e.per = b0 at *
  generalize nameB e.item = b1 at *
  generalize e.text.isEmpty = b2 at *
  generalize (e.val == 0) = b3 at *
  cases b0
  · go_wp2
    go_ret
    exact ⟨ret_bool (by rw [HT.out]; rfl), hbq⟩
  cases b1
  · go_wp2
    go_ret
    exact ⟨ret_bool (by rw [HT.out]; rfl), hbq⟩
  cases b2
  · go_wp2
    go_ret
    exact ⟨ret_bool (by rw [HT.out]; rfl), hbq⟩
  cases b3
  · go_wp2
    go_ret
    exact ⟨ret_bool (by rw [HT.out]; rfl), hbq⟩
  go_wp2
  go_ret
  exact ⟨ret_bool (by rw [HT.out]; rfl), hbq⟩

set_option maxRecDepth 100000 in
set_option maxHeartbeats 4000000 in
theorem rmay_k3 (w : World) (e : Ev) (hs : e.small) (hh : headB e = true) (hk : e.kind = 3) : Calls Tryz.prog 51 #[e.agg] w (Says (mayB e) w) := by
  obtain ⟨s1, s2, s3, s4⟩ := hs
  have HT := Lib.hid (show mayB e = (nameB e.per && nameB e.item && e.text.isEmpty && (e.val == 0)) by
    unfold mayB tailB
    rw [hh, hk]
    simp
    cases nameB e.per <;> cases nameB e.item <;> cases nameB e.text <;> cases listingB e.text <;> cases e.per.isEmpty <;> cases e.item.isEmpty <;> cases e.text.isEmpty <;> simp)
  have hh' : (nameB e.src && decide (1 ≤ e.num) && decide (e.num ≤ 1099511627776) && decide (0 ≤ e.at_) && decide (e.at_ ≤ 1099511627776)) = true := hh
  simp only [Bool.and_eq_true, decide_eq_true_eq] at hh'
  obtain ⟨⟨⟨⟨hns, h1⟩, h2⟩, h3⟩, h4⟩ := hh'
  have HNS := Lib.hid hns
  have HIN := Lib.hid (show (decide (1 ≤ e.num) && decide (e.num ≤ 1099511627776)) = true by simp [h1, h2])
  have HIA := Lib.hid (show (decide (0 ≤ e.at_) && decide (e.at_ ≤ 1099511627776)) = true by simp [h3, h4])
  have HK := Lib.hid hk
  clear hns hh h1 h2 h3 h4 hk
  unfold Ev.agg
  go_enter Tryz.func51, Tryz.ntmps51
  have hb : Below w.heap.size w (w.alloc (evObj e)) := (Below.refl _ _).alloc (Nat.le_refl _) _
  obtain ⟨f0, f1, f2, f3, f4, f5, f6, f7⟩ := EvIn.new w e
  go_wp2_with fail
  refine (rn02q _ e.src s1).mono ?_
  rintro r w1 ⟨rfl, rfl⟩
  rw [HNS.out]
  generalize w.alloc (evObj e) = w1 at *
  rw [HK.out] at f3
  go_wp2_with fail
  refine (rin_any w1 e.num 1 1099511627776).mono ?_
  rintro r w2 ⟨rfl, hw2⟩
  rw [hw2, HIN.out]
  clear hw2
  go_wp2_with fail
  refine (rin_any w1 e.at_ 0 1099511627776).mono ?_
  rintro r w2 ⟨rfl, hw2⟩
  rw [hw2, HIA.out]
  clear hw2
  go_wp2
  go_quiet (fail)
  have hbq : Below w.heap.size w (w1.drewN nq) := below_drewN hb nq
  have g3 : (w1.drewN nq).cell? ⟨w.heap.size, 3, none⟩ = _ := f3
  have g4 : (w1.drewN nq).cell? ⟨w.heap.size, 4, none⟩ = _ := f4
  have g5 : (w1.drewN nq).cell? ⟨w.heap.size, 5, none⟩ = _ := f5
  have g6 : (w1.drewN nq).cell? ⟨w.heap.size, 6, none⟩ = _ := f6
  have g7 : (w1.drewN nq).cell? ⟨w.heap.size, 7, none⟩ = _ := f7
  clear f0 f1 f2 f3 f4 f5 f6 f7 hb
  generalize w1.drewN nq = w2 at *
  go_wp2_with fail
  refine (rn02q w2 e.per s2).mono ?_
  rintro r w3 ⟨rfl, hw3⟩
  rw [hw3]
  clear hw3
  go_wp2_with fail
  refine (rn02q w2 e.item s3).mono ?_
  rintro r w3 ⟨rfl, hw3⟩
  rw [hw3]
  clear hw3
  generalize nameB e.per = b0 at *
  generalize nameB e.item = b1 at *
  generalize e.text.isEmpty = b2 at *
  generalize (e.val == 0) = b3 at *
  cases b0
  · go_wp2
    go_ret
    exact ⟨ret_bool (by rw [HT.out]; rfl), hbq⟩
  cases b1
  · go_wp2
    go_ret
    exact ⟨ret_bool (by rw [HT.out]; rfl), hbq⟩
  cases b2
  · go_wp2
    go_ret
    exact ⟨ret_bool (by rw [HT.out]; rfl), hbq⟩
  cases b3
  · go_wp2
    go_ret
    exact ⟨ret_bool (by rw [HT.out]; rfl), hbq⟩
  go_wp2
  go_ret
  exact ⟨ret_bool (by rw [HT.out]; rfl), hbq⟩

set_option maxRecDepth 100000 in
set_option maxHeartbeats 4000000 in
theorem rmay_k4 (w : World) (e : Ev) (hs : e.small) (hh : headB e = true) (hk : e.kind = 4) : Calls Tryz.prog 51 #[e.agg] w (Says (mayB e) w) := by
  obtain ⟨s1, s2, s3, s4⟩ := hs
  have HT := Lib.hid (show mayB e = (nameB e.per && nameB e.item && e.text.isEmpty && (decide (1 ≤ e.val) && decide (e.val ≤ 5))) by
    unfold mayB tailB
    rw [hh, hk]
    simp
    cases nameB e.per <;> cases nameB e.item <;> cases nameB e.text <;> cases listingB e.text <;> cases e.per.isEmpty <;> cases e.item.isEmpty <;> cases e.text.isEmpty <;> simp)
  have hh' : (nameB e.src && decide (1 ≤ e.num) && decide (e.num ≤ 1099511627776) && decide (0 ≤ e.at_) && decide (e.at_ ≤ 1099511627776)) = true := hh
  simp only [Bool.and_eq_true, decide_eq_true_eq] at hh'
  obtain ⟨⟨⟨⟨hns, h1⟩, h2⟩, h3⟩, h4⟩ := hh'
  have HNS := Lib.hid hns
  have HIN := Lib.hid (show (decide (1 ≤ e.num) && decide (e.num ≤ 1099511627776)) = true by simp [h1, h2])
  have HIA := Lib.hid (show (decide (0 ≤ e.at_) && decide (e.at_ ≤ 1099511627776)) = true by simp [h3, h4])
  have HK := Lib.hid hk
  clear hns hh h1 h2 h3 h4 hk
  unfold Ev.agg
  go_enter Tryz.func51, Tryz.ntmps51
  have hb : Below w.heap.size w (w.alloc (evObj e)) := (Below.refl _ _).alloc (Nat.le_refl _) _
  obtain ⟨f0, f1, f2, f3, f4, f5, f6, f7⟩ := EvIn.new w e
  go_wp2_with fail
  refine (rn02q _ e.src s1).mono ?_
  rintro r w1 ⟨rfl, rfl⟩
  rw [HNS.out]
  generalize w.alloc (evObj e) = w1 at *
  rw [HK.out] at f3
  go_wp2_with fail
  refine (rin_any w1 e.num 1 1099511627776).mono ?_
  rintro r w2 ⟨rfl, hw2⟩
  rw [hw2, HIN.out]
  clear hw2
  go_wp2_with fail
  refine (rin_any w1 e.at_ 0 1099511627776).mono ?_
  rintro r w2 ⟨rfl, hw2⟩
  rw [hw2, HIA.out]
  clear hw2
  go_wp2
  go_quiet (fail)
  have hbq : Below w.heap.size w (w1.drewN nq) := below_drewN hb nq
  have g3 : (w1.drewN nq).cell? ⟨w.heap.size, 3, none⟩ = _ := f3
  have g4 : (w1.drewN nq).cell? ⟨w.heap.size, 4, none⟩ = _ := f4
  have g5 : (w1.drewN nq).cell? ⟨w.heap.size, 5, none⟩ = _ := f5
  have g6 : (w1.drewN nq).cell? ⟨w.heap.size, 6, none⟩ = _ := f6
  have g7 : (w1.drewN nq).cell? ⟨w.heap.size, 7, none⟩ = _ := f7
  clear f0 f1 f2 f3 f4 f5 f6 f7 hb
  generalize w1.drewN nq = w2 at *
  go_wp2_with fail
  refine (rn02q w2 e.per s2).mono ?_
  rintro r w3 ⟨rfl, hw3⟩
  rw [hw3]
  clear hw3
  go_wp2_with fail
  refine (rn02q w2 e.item s3).mono ?_
  rintro r w3 ⟨rfl, hw3⟩
  rw [hw3]
  clear hw3
  go_wp2_with fail
  refine (rin_any w2 e.val 1 5).mono ?_
  rintro r w3 ⟨rfl, hw3⟩
  rw [hw3]
  clear hw3
  generalize nameB e.per = b0 at *
  generalize nameB e.item = b1 at *
  generalize e.text.isEmpty = b2 at *
  generalize (decide (1 ≤ e.val) && decide (e.val ≤ 5)) = b3 at *
  cases b0
  · go_wp2
    go_ret
    exact ⟨ret_bool (by rw [HT.out]; rfl), hbq⟩
  cases b1
  · go_wp2
    go_ret
    exact ⟨ret_bool (by rw [HT.out]; rfl), hbq⟩
  cases b2
  · go_wp2
    go_ret
    exact ⟨ret_bool (by rw [HT.out]; rfl), hbq⟩
  cases b3
  · go_wp2
    go_ret
    exact ⟨ret_bool (by rw [HT.out]; rfl), hbq⟩
  go_wp2
  go_ret
  exact ⟨ret_bool (by rw [HT.out]; rfl), hbq⟩

set_option maxRecDepth 100000 in
set_option maxHeartbeats 4000000 in
theorem rmay_k5 (w : World) (e : Ev) (hs : e.small) (hh : headB e = true) (hk : e.kind = 5) : Calls Tryz.prog 51 #[e.agg] w (Says (mayB e) w) := by
  obtain ⟨s1, s2, s3, s4⟩ := hs
  have HT := Lib.hid (show mayB e = (nameB e.per && nameB e.item && e.text.isEmpty && (e.val == 0)) by
    unfold mayB tailB
    rw [hh, hk]
    simp
    cases nameB e.per <;> cases nameB e.item <;> cases nameB e.text <;> cases listingB e.text <;> cases e.per.isEmpty <;> cases e.item.isEmpty <;> cases e.text.isEmpty <;> simp)
  have hh' : (nameB e.src && decide (1 ≤ e.num) && decide (e.num ≤ 1099511627776) && decide (0 ≤ e.at_) && decide (e.at_ ≤ 1099511627776)) = true := hh
  simp only [Bool.and_eq_true, decide_eq_true_eq] at hh'
  obtain ⟨⟨⟨⟨hns, h1⟩, h2⟩, h3⟩, h4⟩ := hh'
  have HNS := Lib.hid hns
  have HIN := Lib.hid (show (decide (1 ≤ e.num) && decide (e.num ≤ 1099511627776)) = true by simp [h1, h2])
  have HIA := Lib.hid (show (decide (0 ≤ e.at_) && decide (e.at_ ≤ 1099511627776)) = true by simp [h3, h4])
  have HK := Lib.hid hk
  clear hns hh h1 h2 h3 h4 hk
  unfold Ev.agg
  go_enter Tryz.func51, Tryz.ntmps51
  have hb : Below w.heap.size w (w.alloc (evObj e)) := (Below.refl _ _).alloc (Nat.le_refl _) _
  obtain ⟨f0, f1, f2, f3, f4, f5, f6, f7⟩ := EvIn.new w e
  go_wp2_with fail
  refine (rn02q _ e.src s1).mono ?_
  rintro r w1 ⟨rfl, rfl⟩
  rw [HNS.out]
  generalize w.alloc (evObj e) = w1 at *
  rw [HK.out] at f3
  go_wp2_with fail
  refine (rin_any w1 e.num 1 1099511627776).mono ?_
  rintro r w2 ⟨rfl, hw2⟩
  rw [hw2, HIN.out]
  clear hw2
  go_wp2_with fail
  refine (rin_any w1 e.at_ 0 1099511627776).mono ?_
  rintro r w2 ⟨rfl, hw2⟩
  rw [hw2, HIA.out]
  clear hw2
  go_wp2
  go_quiet (fail)
  have hbq : Below w.heap.size w (w1.drewN nq) := below_drewN hb nq
  have g3 : (w1.drewN nq).cell? ⟨w.heap.size, 3, none⟩ = _ := f3
  have g4 : (w1.drewN nq).cell? ⟨w.heap.size, 4, none⟩ = _ := f4
  have g5 : (w1.drewN nq).cell? ⟨w.heap.size, 5, none⟩ = _ := f5
  have g6 : (w1.drewN nq).cell? ⟨w.heap.size, 6, none⟩ = _ := f6
  have g7 : (w1.drewN nq).cell? ⟨w.heap.size, 7, none⟩ = _ := f7
  clear f0 f1 f2 f3 f4 f5 f6 f7 hb
  generalize w1.drewN nq = w2 at *
  go_wp2_with fail
  refine (rn02q w2 e.per s2).mono ?_
  rintro r w3 ⟨rfl, hw3⟩
  rw [hw3]
  clear hw3
  go_wp2_with fail
  refine (rn02q w2 e.item s3).mono ?_
  rintro r w3 ⟨rfl, hw3⟩
  rw [hw3]
  clear hw3
  generalize nameB e.per = b0 at *
  generalize nameB e.item = b1 at *
  generalize e.text.isEmpty = b2 at *
  generalize (e.val == 0) = b3 at *
  cases b0
  · go_wp2
    go_ret
    exact ⟨ret_bool (by rw [HT.out]; rfl), hbq⟩
  cases b1
  · go_wp2
    go_ret
    exact ⟨ret_bool (by rw [HT.out]; rfl), hbq⟩
  cases b2
  · go_wp2
    go_ret
    exact ⟨ret_bool (by rw [HT.out]; rfl), hbq⟩
  cases b3
  · go_wp2
    go_ret
    exact ⟨ret_bool (by rw [HT.out]; rfl), hbq⟩
  go_wp2
  go_ret
  exact ⟨ret_bool (by rw [HT.out]; rfl), hbq⟩

set_option maxRecDepth 100000 in
set_option maxHeartbeats 4000000 in
theorem rmay_k6 (w : World) (e : Ev) (hs : e.small) (hh : headB e = true) (hk : e.kind = 6) : Calls Tryz.prog 51 #[e.agg] w (Says (mayB e) w) := by
  obtain ⟨s1, s2, s3, s4⟩ := hs
  have HT := Lib.hid (show mayB e = (nameB e.per && nameB e.item && e.text.isEmpty && (e.val == 0)) by
    unfold mayB tailB
    rw [hh, hk]
    simp
    cases nameB e.per <;> cases nameB e.item <;> cases nameB e.text <;> cases listingB e.text <;> cases e.per.isEmpty <;> cases e.item.isEmpty <;> cases e.text.isEmpty <;> simp)
  have hh' : (nameB e.src && decide (1 ≤ e.num) && decide (e.num ≤ 1099511627776) && decide (0 ≤ e.at_) && decide (e.at_ ≤ 1099511627776)) = true := hh
  simp only [Bool.and_eq_true, decide_eq_true_eq] at hh'
  obtain ⟨⟨⟨⟨hns, h1⟩, h2⟩, h3⟩, h4⟩ := hh'
  have HNS := Lib.hid hns
  have HIN := Lib.hid (show (decide (1 ≤ e.num) && decide (e.num ≤ 1099511627776)) = true by simp [h1, h2])
  have HIA := Lib.hid (show (decide (0 ≤ e.at_) && decide (e.at_ ≤ 1099511627776)) = true by simp [h3, h4])
  have HK := Lib.hid hk
  clear hns hh h1 h2 h3 h4 hk
  unfold Ev.agg
  go_enter Tryz.func51, Tryz.ntmps51
  have hb : Below w.heap.size w (w.alloc (evObj e)) := (Below.refl _ _).alloc (Nat.le_refl _) _
  obtain ⟨f0, f1, f2, f3, f4, f5, f6, f7⟩ := EvIn.new w e
  go_wp2_with fail
  refine (rn02q _ e.src s1).mono ?_
  rintro r w1 ⟨rfl, rfl⟩
  rw [HNS.out]
  generalize w.alloc (evObj e) = w1 at *
  rw [HK.out] at f3
  go_wp2_with fail
  refine (rin_any w1 e.num 1 1099511627776).mono ?_
  rintro r w2 ⟨rfl, hw2⟩
  rw [hw2, HIN.out]
  clear hw2
  go_wp2_with fail
  refine (rin_any w1 e.at_ 0 1099511627776).mono ?_
  rintro r w2 ⟨rfl, hw2⟩
  rw [hw2, HIA.out]
  clear hw2
  go_wp2
  go_quiet (fail)
  have hbq : Below w.heap.size w (w1.drewN nq) := below_drewN hb nq
  have g3 : (w1.drewN nq).cell? ⟨w.heap.size, 3, none⟩ = _ := f3
  have g4 : (w1.drewN nq).cell? ⟨w.heap.size, 4, none⟩ = _ := f4
  have g5 : (w1.drewN nq).cell? ⟨w.heap.size, 5, none⟩ = _ := f5
  have g6 : (w1.drewN nq).cell? ⟨w.heap.size, 6, none⟩ = _ := f6
  have g7 : (w1.drewN nq).cell? ⟨w.heap.size, 7, none⟩ = _ := f7
  clear f0 f1 f2 f3 f4 f5 f6 f7 hb
  generalize w1.drewN nq = w2 at *
  go_wp2_with fail
  refine (rn02q w2 e.per s2).mono ?_
  rintro r w3 ⟨rfl, hw3⟩
  rw [hw3]
  clear hw3
  go_wp2_with fail
  refine (rn02q w2 e.item s3).mono ?_
  rintro r w3 ⟨rfl, hw3⟩
  rw [hw3]
  clear hw3
  generalize nameB e.per = b0 at *
  generalize nameB e.item = b1 at *
  generalize e.text.isEmpty = b2 at *
  generalize (e.val == 0) = b3 at *
  cases b0
  · go_wp2
    go_ret
    exact ⟨ret_bool (by rw [HT.out]; rfl), hbq⟩
  cases b1
  · go_wp2
    go_ret
    exact ⟨ret_bool (by rw [HT.out]; rfl), hbq⟩
  cases b2
  · go_wp2
    go_ret
    exact ⟨ret_bool (by rw [HT.out]; rfl), hbq⟩
  cases b3
  · go_wp2
    go_ret
    exact ⟨ret_bool (by rw [HT.out]; rfl), hbq⟩
  go_wp2
  go_ret
  exact ⟨ret_bool (by rw [HT.out]; rfl), hbq⟩

set_option maxRecDepth 100000 in
set_option maxHeartbeats 4000000 in
theorem rmay_k7 (w : World) (e : Ev) (hs : e.small) (hh : headB e = true) (hk : e.kind = 7) : Calls Tryz.prog 51 #[e.agg] w (Says (mayB e) w) := by
  obtain ⟨s1, s2, s3, s4⟩ := hs
  have HT := Lib.hid (show mayB e = (nameB e.per && e.item.isEmpty && nameB e.text && (e.val == 0)) by
    unfold mayB tailB
    rw [hh, hk]
    simp
    cases nameB e.per <;> cases nameB e.item <;> cases nameB e.text <;> cases listingB e.text <;> cases e.per.isEmpty <;> cases e.item.isEmpty <;> cases e.text.isEmpty <;> simp)
  have hh' : (nameB e.src && decide (1 ≤ e.num) && decide (e.num ≤ 1099511627776) && decide (0 ≤ e.at_) && decide (e.at_ ≤ 1099511627776)) = true := hh
  simp only [Bool.and_eq_true, decide_eq_true_eq] at hh'
  obtain ⟨⟨⟨⟨hns, h1⟩, h2⟩, h3⟩, h4⟩ := hh'
  have HNS := Lib.hid hns
  have HIN := Lib.hid (show (decide (1 ≤ e.num) && decide (e.num ≤ 1099511627776)) = true by simp [h1, h2])
  have HIA := Lib.hid (show (decide (0 ≤ e.at_) && decide (e.at_ ≤ 1099511627776)) = true by simp [h3, h4])
  have HK := Lib.hid hk
  clear hns hh h1 h2 h3 h4 hk
  unfold Ev.agg
  go_enter Tryz.func51, Tryz.ntmps51
  have hb : Below w.heap.size w (w.alloc (evObj e)) := (Below.refl _ _).alloc (Nat.le_refl _) _
  obtain ⟨f0, f1, f2, f3, f4, f5, f6, f7⟩ := EvIn.new w e
  go_wp2_with fail
  refine (rn02q _ e.src s1).mono ?_
  rintro r w1 ⟨rfl, rfl⟩
  rw [HNS.out]
  generalize w.alloc (evObj e) = w1 at *
  rw [HK.out] at f3
  go_wp2_with fail
  refine (rin_any w1 e.num 1 1099511627776).mono ?_
  rintro r w2 ⟨rfl, hw2⟩
  rw [hw2, HIN.out]
  clear hw2
  go_wp2_with fail
  refine (rin_any w1 e.at_ 0 1099511627776).mono ?_
  rintro r w2 ⟨rfl, hw2⟩
  rw [hw2, HIA.out]
  clear hw2
  go_wp2
  go_quiet (fail)
  have hbq : Below w.heap.size w (w1.drewN nq) := below_drewN hb nq
  have g3 : (w1.drewN nq).cell? ⟨w.heap.size, 3, none⟩ = _ := f3
  have g4 : (w1.drewN nq).cell? ⟨w.heap.size, 4, none⟩ = _ := f4
  have g5 : (w1.drewN nq).cell? ⟨w.heap.size, 5, none⟩ = _ := f5
  have g6 : (w1.drewN nq).cell? ⟨w.heap.size, 6, none⟩ = _ := f6
  have g7 : (w1.drewN nq).cell? ⟨w.heap.size, 7, none⟩ = _ := f7
  clear f0 f1 f2 f3 f4 f5 f6 f7 hb
  generalize w1.drewN nq = w2 at *
  go_wp2_with fail
  refine (rn02q w2 e.per s2).mono ?_
  rintro r w3 ⟨rfl, hw3⟩
  rw [hw3]
  clear hw3
  go_wp2_with fail
  refine (rn02q w2 e.text s4).mono ?_
  rintro r w3 ⟨rfl, hw3⟩
  rw [hw3]
  clear hw3
  generalize nameB e.per = b0 at *
  generalize e.item.isEmpty = b1 at *
  generalize nameB e.text = b2 at *
  generalize (e.val == 0) = b3 at *
  cases b0
  · go_wp2
    go_ret
    exact ⟨ret_bool (by rw [HT.out]; rfl), hbq⟩
  cases b1
  · go_wp2
    go_ret
    exact ⟨ret_bool (by rw [HT.out]; rfl), hbq⟩
  cases b2
  · go_wp2
    go_ret
    exact ⟨ret_bool (by rw [HT.out]; rfl), hbq⟩
  cases b3
  · go_wp2
    go_ret
    exact ⟨ret_bool (by rw [HT.out]; rfl), hbq⟩
  go_wp2
  go_ret
  exact ⟨ret_bool (by rw [HT.out]; rfl), hbq⟩

set_option maxRecDepth 100000 in
set_option maxHeartbeats 4000000 in
theorem rmay_k8 (w : World) (e : Ev) (hs : e.small) (hh : headB e = true) (hk : e.kind = 8) : Calls Tryz.prog 51 #[e.agg] w (Says (mayB e) w) := by
  obtain ⟨s1, s2, s3, s4⟩ := hs
  have HT := Lib.hid (show mayB e = (nameB e.per && e.item.isEmpty && nameB e.text && (e.val == 0)) by
    unfold mayB tailB
    rw [hh, hk]
    simp
    cases nameB e.per <;> cases nameB e.item <;> cases nameB e.text <;> cases listingB e.text <;> cases e.per.isEmpty <;> cases e.item.isEmpty <;> cases e.text.isEmpty <;> simp)
  have hh' : (nameB e.src && decide (1 ≤ e.num) && decide (e.num ≤ 1099511627776) && decide (0 ≤ e.at_) && decide (e.at_ ≤ 1099511627776)) = true := hh
  simp only [Bool.and_eq_true, decide_eq_true_eq] at hh'
  obtain ⟨⟨⟨⟨hns, h1⟩, h2⟩, h3⟩, h4⟩ := hh'
  have HNS := Lib.hid hns
  have HIN := Lib.hid (show (decide (1 ≤ e.num) && decide (e.num ≤ 1099511627776)) = true by simp [h1, h2])
  have HIA := Lib.hid (show (decide (0 ≤ e.at_) && decide (e.at_ ≤ 1099511627776)) = true by simp [h3, h4])
  have HK := Lib.hid hk
  clear hns hh h1 h2 h3 h4 hk
  unfold Ev.agg
  go_enter Tryz.func51, Tryz.ntmps51
  have hb : Below w.heap.size w (w.alloc (evObj e)) := (Below.refl _ _).alloc (Nat.le_refl _) _
  obtain ⟨f0, f1, f2, f3, f4, f5, f6, f7⟩ := EvIn.new w e
  go_wp2_with fail
  refine (rn02q _ e.src s1).mono ?_
  rintro r w1 ⟨rfl, rfl⟩
  rw [HNS.out]
  generalize w.alloc (evObj e) = w1 at *
  rw [HK.out] at f3
  go_wp2_with fail
  refine (rin_any w1 e.num 1 1099511627776).mono ?_
  rintro r w2 ⟨rfl, hw2⟩
  rw [hw2, HIN.out]
  clear hw2
  go_wp2_with fail
  refine (rin_any w1 e.at_ 0 1099511627776).mono ?_
  rintro r w2 ⟨rfl, hw2⟩
  rw [hw2, HIA.out]
  clear hw2
  go_wp2
  go_quiet (fail)
  have hbq : Below w.heap.size w (w1.drewN nq) := below_drewN hb nq
  have g3 : (w1.drewN nq).cell? ⟨w.heap.size, 3, none⟩ = _ := f3
  have g4 : (w1.drewN nq).cell? ⟨w.heap.size, 4, none⟩ = _ := f4
  have g5 : (w1.drewN nq).cell? ⟨w.heap.size, 5, none⟩ = _ := f5
  have g6 : (w1.drewN nq).cell? ⟨w.heap.size, 6, none⟩ = _ := f6
  have g7 : (w1.drewN nq).cell? ⟨w.heap.size, 7, none⟩ = _ := f7
  clear f0 f1 f2 f3 f4 f5 f6 f7 hb
  generalize w1.drewN nq = w2 at *
  go_wp2_with fail
  refine (rn02q w2 e.per s2).mono ?_
  rintro r w3 ⟨rfl, hw3⟩
  rw [hw3]
  clear hw3
  go_wp2_with fail
  refine (rn02q w2 e.text s4).mono ?_
  rintro r w3 ⟨rfl, hw3⟩
  rw [hw3]
  clear hw3
  generalize nameB e.per = b0 at *
  generalize e.item.isEmpty = b1 at *
  generalize nameB e.text = b2 at *
  generalize (e.val == 0) = b3 at *
  cases b0
  · go_wp2
    go_ret
    exact ⟨ret_bool (by rw [HT.out]; rfl), hbq⟩
  cases b1
  · go_wp2
    go_ret
    exact ⟨ret_bool (by rw [HT.out]; rfl), hbq⟩
  cases b2
  · go_wp2
    go_ret
    exact ⟨ret_bool (by rw [HT.out]; rfl), hbq⟩
  cases b3
  · go_wp2
    go_ret
    exact ⟨ret_bool (by rw [HT.out]; rfl), hbq⟩
  go_wp2
  go_ret
  exact ⟨ret_bool (by rw [HT.out]; rfl), hbq⟩

set_option maxRecDepth 100000 in
set_option maxHeartbeats 4000000 in
theorem rmay_k9 (w : World) (e : Ev) (hs : e.small) (hh : headB e = true) (hk : e.kind = 9) : Calls Tryz.prog 51 #[e.agg] w (Says (mayB e) w) := by
  obtain ⟨s1, s2, s3, s4⟩ := hs
  have HT := Lib.hid (show mayB e = (nameB e.per && e.item.isEmpty && nameB e.text && (e.val == 0)) by
    unfold mayB tailB
    rw [hh, hk]
    simp
    cases nameB e.per <;> cases nameB e.item <;> cases nameB e.text <;> cases listingB e.text <;> cases e.per.isEmpty <;> cases e.item.isEmpty <;> cases e.text.isEmpty <;> simp)
  have hh' : (nameB e.src && decide (1 ≤ e.num) && decide (e.num ≤ 1099511627776) && decide (0 ≤ e.at_) && decide (e.at_ ≤ 1099511627776)) = true := hh
  simp only [Bool.and_eq_true, decide_eq_true_eq] at hh'
  obtain ⟨⟨⟨⟨hns, h1⟩, h2⟩, h3⟩, h4⟩ := hh'
  have HNS := Lib.hid hns
  have HIN := Lib.hid (show (decide (1 ≤ e.num) && decide (e.num ≤ 1099511627776)) = true by simp [h1, h2])
  have HIA := Lib.hid (show (decide (0 ≤ e.at_) && decide (e.at_ ≤ 1099511627776)) = true by simp [h3, h4])
  have HK := Lib.hid hk
  clear hns hh h1 h2 h3 h4 hk
  unfold Ev.agg
  go_enter Tryz.func51, Tryz.ntmps51
  have hb : Below w.heap.size w (w.alloc (evObj e)) := (Below.refl _ _).alloc (Nat.le_refl _) _
  obtain ⟨f0, f1, f2, f3, f4, f5, f6, f7⟩ := EvIn.new w e
  go_wp2_with fail
  refine (rn02q _ e.src s1).mono ?_
  rintro r w1 ⟨rfl, rfl⟩
  rw [HNS.out]
  generalize w.alloc (evObj e) = w1 at *
  rw [HK.out] at f3
  go_wp2_with fail
  refine (rin_any w1 e.num 1 1099511627776).mono ?_
  rintro r w2 ⟨rfl, hw2⟩
  rw [hw2, HIN.out]
  clear hw2
  go_wp2_with fail
  refine (rin_any w1 e.at_ 0 1099511627776).mono ?_
  rintro r w2 ⟨rfl, hw2⟩
  rw [hw2, HIA.out]
  clear hw2
  go_wp2
  go_quiet (fail)
  have hbq : Below w.heap.size w (w1.drewN nq) := below_drewN hb nq
  have g3 : (w1.drewN nq).cell? ⟨w.heap.size, 3, none⟩ = _ := f3
  have g4 : (w1.drewN nq).cell? ⟨w.heap.size, 4, none⟩ = _ := f4
  have g5 : (w1.drewN nq).cell? ⟨w.heap.size, 5, none⟩ = _ := f5
  have g6 : (w1.drewN nq).cell? ⟨w.heap.size, 6, none⟩ = _ := f6
  have g7 : (w1.drewN nq).cell? ⟨w.heap.size, 7, none⟩ = _ := f7
  clear f0 f1 f2 f3 f4 f5 f6 f7 hb
  generalize w1.drewN nq = w2 at *
  go_wp2_with fail
  refine (rn02q w2 e.per s2).mono ?_
  rintro r w3 ⟨rfl, hw3⟩
  rw [hw3]
  clear hw3
  go_wp2_with fail
  refine (rn02q w2 e.text s4).mono ?_
  rintro r w3 ⟨rfl, hw3⟩
  rw [hw3]
  clear hw3
  generalize nameB e.per = b0 at *
  generalize e.item.isEmpty = b1 at *
  generalize nameB e.text = b2 at *
  generalize (e.val == 0) = b3 at *
  cases b0
  · go_wp2
    go_ret
    exact ⟨ret_bool (by rw [HT.out]; rfl), hbq⟩
  cases b1
  · go_wp2
    go_ret
    exact ⟨ret_bool (by rw [HT.out]; rfl), hbq⟩
  cases b2
  · go_wp2
    go_ret
    exact ⟨ret_bool (by rw [HT.out]; rfl), hbq⟩
  cases b3
  · go_wp2
    go_ret
    exact ⟨ret_bool (by rw [HT.out]; rfl), hbq⟩
  go_wp2
  go_ret
  exact ⟨ret_bool (by rw [HT.out]; rfl), hbq⟩

set_option maxRecDepth 100000 in
set_option maxHeartbeats 4000000 in
theorem rmay_k10 (w : World) (e : Ev) (hs : e.small) (hh : headB e = true) (hk : e.kind = 10) : Calls Tryz.prog 51 #[e.agg] w (Says (mayB e) w) := by
  obtain ⟨s1, s2, s3, s4⟩ := hs
  have HT := Lib.hid (show mayB e = (nameB e.per && e.item.isEmpty && nameB e.text && (e.val == 0)) by
    unfold mayB tailB
    rw [hh, hk]
    simp
    cases nameB e.per <;> cases nameB e.item <;> cases nameB e.text <;> cases listingB e.text <;> cases e.per.isEmpty <;> cases e.item.isEmpty <;> cases e.text.isEmpty <;> simp)
  have hh' : (nameB e.src && decide (1 ≤ e.num) && decide (e.num ≤ 1099511627776) && decide (0 ≤ e.at_) && decide (e.at_ ≤ 1099511627776)) = true := hh
  simp only [Bool.and_eq_true, decide_eq_true_eq] at hh'
  obtain ⟨⟨⟨⟨hns, h1⟩, h2⟩, h3⟩, h4⟩ := hh'
  have HNS := Lib.hid hns
  have HIN := Lib.hid (show (decide (1 ≤ e.num) && decide (e.num ≤ 1099511627776)) = true by simp [h1, h2])
  have HIA := Lib.hid (show (decide (0 ≤ e.at_) && decide (e.at_ ≤ 1099511627776)) = true by simp [h3, h4])
  have HK := Lib.hid hk
  clear hns hh h1 h2 h3 h4 hk
  unfold Ev.agg
  go_enter Tryz.func51, Tryz.ntmps51
  have hb : Below w.heap.size w (w.alloc (evObj e)) := (Below.refl _ _).alloc (Nat.le_refl _) _
  obtain ⟨f0, f1, f2, f3, f4, f5, f6, f7⟩ := EvIn.new w e
  go_wp2_with fail
  refine (rn02q _ e.src s1).mono ?_
  rintro r w1 ⟨rfl, rfl⟩
  rw [HNS.out]
  generalize w.alloc (evObj e) = w1 at *
  rw [HK.out] at f3
  go_wp2_with fail
  refine (rin_any w1 e.num 1 1099511627776).mono ?_
  rintro r w2 ⟨rfl, hw2⟩
  rw [hw2, HIN.out]
  clear hw2
  go_wp2_with fail
  refine (rin_any w1 e.at_ 0 1099511627776).mono ?_
  rintro r w2 ⟨rfl, hw2⟩
  rw [hw2, HIA.out]
  clear hw2
  go_wp2
  go_quiet (fail)
  have hbq : Below w.heap.size w (w1.drewN nq) := below_drewN hb nq
  have g3 : (w1.drewN nq).cell? ⟨w.heap.size, 3, none⟩ = _ := f3
  have g4 : (w1.drewN nq).cell? ⟨w.heap.size, 4, none⟩ = _ := f4
  have g5 : (w1.drewN nq).cell? ⟨w.heap.size, 5, none⟩ = _ := f5
  have g6 : (w1.drewN nq).cell? ⟨w.heap.size, 6, none⟩ = _ := f6
  have g7 : (w1.drewN nq).cell? ⟨w.heap.size, 7, none⟩ = _ := f7
  clear f0 f1 f2 f3 f4 f5 f6 f7 hb
  generalize w1.drewN nq = w2 at *
  go_wp2_with fail
  refine (rn02q w2 e.per s2).mono ?_
  rintro r w3 ⟨rfl, hw3⟩
  rw [hw3]
  clear hw3
  go_wp2_with fail
  refine (rn02q w2 e.text s4).mono ?_
  rintro r w3 ⟨rfl, hw3⟩
  rw [hw3]
  clear hw3
  generalize nameB e.per = b0 at *
  generalize e.item.isEmpty = b1 at *
  generalize nameB e.text = b2 at *
  generalize (e.val == 0) = b3 at *
  cases b0
  · go_wp2
    go_ret
    exact ⟨ret_bool (by rw [HT.out]; rfl), hbq⟩
  cases b1
  · go_wp2
    go_ret
    exact ⟨ret_bool (by rw [HT.out]; rfl), hbq⟩
  cases b2
  · go_wp2
    go_ret
    exact ⟨ret_bool (by rw [HT.out]; rfl), hbq⟩
  cases b3
  · go_wp2
    go_ret
    exact ⟨ret_bool (by rw [HT.out]; rfl), hbq⟩
  go_wp2
  go_ret
  exact ⟨ret_bool (by rw [HT.out]; rfl), hbq⟩

set_option maxRecDepth 100000 in
set_option maxHeartbeats 4000000 in
theorem rmay_k11 (w : World) (e : Ev) (hs : e.small) (hh : headB e = true) (hk : e.kind = 11) : Calls Tryz.prog 51 #[e.agg] w (Says (mayB e) w) := by
  obtain ⟨s1, s2, s3, s4⟩ := hs
  have HT := Lib.hid (show mayB e = (e.per.isEmpty && nameB e.item && listingB e.text && (decide (0 ≤ e.val) && decide (e.val ≤ 1048576))) by
    unfold mayB tailB
    rw [hh, hk]
    simp
    cases nameB e.per <;> cases nameB e.item <;> cases nameB e.text <;> cases listingB e.text <;> cases e.per.isEmpty <;> cases e.item.isEmpty <;> cases e.text.isEmpty <;> simp)
  have hh' : (nameB e.src && decide (1 ≤ e.num) && decide (e.num ≤ 1099511627776) && decide (0 ≤ e.at_) && decide (e.at_ ≤ 1099511627776)) = true := hh
  simp only [Bool.and_eq_true, decide_eq_true_eq] at hh'
  obtain ⟨⟨⟨⟨hns, h1⟩, h2⟩, h3⟩, h4⟩ := hh'
  have HNS := Lib.hid hns
  have HIN := Lib.hid (show (decide (1 ≤ e.num) && decide (e.num ≤ 1099511627776)) = true by simp [h1, h2])
  have HIA := Lib.hid (show (decide (0 ≤ e.at_) && decide (e.at_ ≤ 1099511627776)) = true by simp [h3, h4])
  have HK := Lib.hid hk
  clear hns hh h1 h2 h3 h4 hk
  unfold Ev.agg
  go_enter Tryz.func51, Tryz.ntmps51
  have hb : Below w.heap.size w (w.alloc (evObj e)) := (Below.refl _ _).alloc (Nat.le_refl _) _
  obtain ⟨f0, f1, f2, f3, f4, f5, f6, f7⟩ := EvIn.new w e
  go_wp2_with fail
  refine (rn02q _ e.src s1).mono ?_
  rintro r w1 ⟨rfl, rfl⟩
  rw [HNS.out]
  generalize w.alloc (evObj e) = w1 at *
  rw [HK.out] at f3
  go_wp2_with fail
  refine (rin_any w1 e.num 1 1099511627776).mono ?_
  rintro r w2 ⟨rfl, hw2⟩
  rw [hw2, HIN.out]
  clear hw2
  go_wp2_with fail
  refine (rin_any w1 e.at_ 0 1099511627776).mono ?_
  rintro r w2 ⟨rfl, hw2⟩
  rw [hw2, HIA.out]
  clear hw2
  go_wp2
  go_quiet (fail)
  have hbq : Below w.heap.size w (w1.drewN nq) := below_drewN hb nq
  have g3 : (w1.drewN nq).cell? ⟨w.heap.size, 3, none⟩ = _ := f3
  have g4 : (w1.drewN nq).cell? ⟨w.heap.size, 4, none⟩ = _ := f4
  have g5 : (w1.drewN nq).cell? ⟨w.heap.size, 5, none⟩ = _ := f5
  have g6 : (w1.drewN nq).cell? ⟨w.heap.size, 6, none⟩ = _ := f6
  have g7 : (w1.drewN nq).cell? ⟨w.heap.size, 7, none⟩ = _ := f7
  clear f0 f1 f2 f3 f4 f5 f6 f7 hb
  generalize w1.drewN nq = w2 at *
  go_wp2_with fail
  refine (rn02q w2 e.item s3).mono ?_
  rintro r w3 ⟨rfl, hw3⟩
  rw [hw3]
  clear hw3
  go_wp2_with fail
  refine (rin_any w2 e.val 0 1048576).mono ?_
  rintro r w3 ⟨rfl, hw3⟩
  rw [hw3]
  clear hw3
  go_wp2_with fail
  refine (rlabel_any w2 e.text s4).mono ?_
  rintro r w3 ⟨rfl, hb3⟩
  have hbq3 : Below w.heap.size w w3 := hbq.trans (hb3.mono hbq.size)
  clear hbq hb3
  generalize e.per.isEmpty = b0 at *
  generalize nameB e.item = b1 at *
  generalize listingB e.text = b2 at *
  generalize (decide (0 ≤ e.val) && decide (e.val ≤ 1048576)) = b3 at *
  clear g3 g4 g5 g6 g7
  cases b0
  · go_wp2
    go_ret
    exact ⟨ret_bool (by rw [HT.out]; rfl), hbq3⟩
  cases b1
  · go_wp2
    go_ret
    exact ⟨ret_bool (by rw [HT.out]; rfl), hbq3⟩
  cases b2
  · go_wp2
    go_ret
    exact ⟨ret_bool (by rw [HT.out]; rfl), hbq3⟩
  cases b3
  · go_wp2
    go_ret
    exact ⟨ret_bool (by rw [HT.out]; rfl), hbq3⟩
  go_wp2
  go_ret
  exact ⟨ret_bool (by rw [HT.out]; rfl), hbq3⟩

set_option maxRecDepth 100000 in
set_option maxHeartbeats 4000000 in
theorem rmay_k12 (w : World) (e : Ev) (hs : e.small) (hh : headB e = true) (hk : e.kind = 12) : Calls Tryz.prog 51 #[e.agg] w (Says (mayB e) w) := by
  obtain ⟨s1, s2, s3, s4⟩ := hs
  have HT := Lib.hid (show mayB e = (e.per.isEmpty && nameB e.item && e.text.isEmpty && (decide (0 ≤ e.val) && decide (e.val ≤ 1048576))) by
    unfold mayB tailB
    rw [hh, hk]
    simp
    cases nameB e.per <;> cases nameB e.item <;> cases nameB e.text <;> cases listingB e.text <;> cases e.per.isEmpty <;> cases e.item.isEmpty <;> cases e.text.isEmpty <;> simp)
  have hh' : (nameB e.src && decide (1 ≤ e.num) && decide (e.num ≤ 1099511627776) && decide (0 ≤ e.at_) && decide (e.at_ ≤ 1099511627776)) = true := hh
  simp only [Bool.and_eq_true, decide_eq_true_eq] at hh'
  obtain ⟨⟨⟨⟨hns, h1⟩, h2⟩, h3⟩, h4⟩ := hh'
  have HNS := Lib.hid hns
  have HIN := Lib.hid (show (decide (1 ≤ e.num) && decide (e.num ≤ 1099511627776)) = true by simp [h1, h2])
  have HIA := Lib.hid (show (decide (0 ≤ e.at_) && decide (e.at_ ≤ 1099511627776)) = true by simp [h3, h4])
  have HK := Lib.hid hk
  clear hns hh h1 h2 h3 h4 hk
  unfold Ev.agg
  go_enter Tryz.func51, Tryz.ntmps51
  have hb : Below w.heap.size w (w.alloc (evObj e)) := (Below.refl _ _).alloc (Nat.le_refl _) _
  obtain ⟨f0, f1, f2, f3, f4, f5, f6, f7⟩ := EvIn.new w e
  go_wp2_with fail
  refine (rn02q _ e.src s1).mono ?_
  rintro r w1 ⟨rfl, rfl⟩
  rw [HNS.out]
  generalize w.alloc (evObj e) = w1 at *
  rw [HK.out] at f3
  go_wp2_with fail
  refine (rin_any w1 e.num 1 1099511627776).mono ?_
  rintro r w2 ⟨rfl, hw2⟩
  rw [hw2, HIN.out]
  clear hw2
  go_wp2_with fail
  refine (rin_any w1 e.at_ 0 1099511627776).mono ?_
  rintro r w2 ⟨rfl, hw2⟩
  rw [hw2, HIA.out]
  clear hw2
  go_wp2
  go_quiet (fail)
  have hbq : Below w.heap.size w (w1.drewN nq) := below_drewN hb nq
  have g3 : (w1.drewN nq).cell? ⟨w.heap.size, 3, none⟩ = _ := f3
  have g4 : (w1.drewN nq).cell? ⟨w.heap.size, 4, none⟩ = _ := f4
  have g5 : (w1.drewN nq).cell? ⟨w.heap.size, 5, none⟩ = _ := f5
  have g6 : (w1.drewN nq).cell? ⟨w.heap.size, 6, none⟩ = _ := f6
  have g7 : (w1.drewN nq).cell? ⟨w.heap.size, 7, none⟩ = _ := f7
  clear f0 f1 f2 f3 f4 f5 f6 f7 hb
  generalize w1.drewN nq = w2 at *
  go_wp2_with fail
  refine (rn02q w2 e.item s3).mono ?_
  rintro r w3 ⟨rfl, hw3⟩
  rw [hw3]
  clear hw3
  go_wp2_with fail
  refine (rin_any w2 e.val 0 1048576).mono ?_
  rintro r w3 ⟨rfl, hw3⟩
  rw [hw3]
  clear hw3
  generalize e.per.isEmpty = b0 at *
  generalize nameB e.item = b1 at *
  generalize e.text.isEmpty = b2 at *
  generalize (decide (0 ≤ e.val) && decide (e.val ≤ 1048576)) = b3 at *
  cases b0
  · go_wp2
    go_ret
    exact ⟨ret_bool (by rw [HT.out]; rfl), hbq⟩
  cases b1
  · go_wp2
    go_ret
    exact ⟨ret_bool (by rw [HT.out]; rfl), hbq⟩
  cases b2
  · go_wp2
    go_ret
    exact ⟨ret_bool (by rw [HT.out]; rfl), hbq⟩
  cases b3
  · go_wp2
    go_ret
    exact ⟨ret_bool (by rw [HT.out]; rfl), hbq⟩
  go_wp2
  go_ret
  exact ⟨ret_bool (by rw [HT.out]; rfl), hbq⟩

set_option maxRecDepth 100000 in
set_option maxHeartbeats 4000000 in
theorem rmay_k13 (w : World) (e : Ev) (hs : e.small) (hh : headB e = true) (hk : e.kind = 13) : Calls Tryz.prog 51 #[e.agg] w (Says (mayB e) w) := by
  obtain ⟨s1, s2, s3, s4⟩ := hs
  have HT := Lib.hid (show mayB e = (e.per.isEmpty && nameB e.item && e.text.isEmpty && (e.val == 0)) by
    unfold mayB tailB
    rw [hh, hk]
    simp
    cases nameB e.per <;> cases nameB e.item <;> cases nameB e.text <;> cases listingB e.text <;> cases e.per.isEmpty <;> cases e.item.isEmpty <;> cases e.text.isEmpty <;> simp)
  have hh' : (nameB e.src && decide (1 ≤ e.num) && decide (e.num ≤ 1099511627776) && decide (0 ≤ e.at_) && decide (e.at_ ≤ 1099511627776)) = true := hh
  simp only [Bool.and_eq_true, decide_eq_true_eq] at hh'
  obtain ⟨⟨⟨⟨hns, h1⟩, h2⟩, h3⟩, h4⟩ := hh'
  have HNS := Lib.hid hns
  have HIN := Lib.hid (show (decide (1 ≤ e.num) && decide (e.num ≤ 1099511627776)) = true by simp [h1, h2])
  have HIA := Lib.hid (show (decide (0 ≤ e.at_) && decide (e.at_ ≤ 1099511627776)) = true by simp [h3, h4])
  have HK := Lib.hid hk
  clear hns hh h1 h2 h3 h4 hk
  unfold Ev.agg
  go_enter Tryz.func51, Tryz.ntmps51
  have hb : Below w.heap.size w (w.alloc (evObj e)) := (Below.refl _ _).alloc (Nat.le_refl _) _
  obtain ⟨f0, f1, f2, f3, f4, f5, f6, f7⟩ := EvIn.new w e
  go_wp2_with fail
  refine (rn02q _ e.src s1).mono ?_
  rintro r w1 ⟨rfl, rfl⟩
  rw [HNS.out]
  generalize w.alloc (evObj e) = w1 at *
  rw [HK.out] at f3
  go_wp2_with fail
  refine (rin_any w1 e.num 1 1099511627776).mono ?_
  rintro r w2 ⟨rfl, hw2⟩
  rw [hw2, HIN.out]
  clear hw2
  go_wp2_with fail
  refine (rin_any w1 e.at_ 0 1099511627776).mono ?_
  rintro r w2 ⟨rfl, hw2⟩
  rw [hw2, HIA.out]
  clear hw2
  go_wp2
  go_quiet (fail)
  have hbq : Below w.heap.size w (w1.drewN nq) := below_drewN hb nq
  have g3 : (w1.drewN nq).cell? ⟨w.heap.size, 3, none⟩ = _ := f3
  have g4 : (w1.drewN nq).cell? ⟨w.heap.size, 4, none⟩ = _ := f4
  have g5 : (w1.drewN nq).cell? ⟨w.heap.size, 5, none⟩ = _ := f5
  have g6 : (w1.drewN nq).cell? ⟨w.heap.size, 6, none⟩ = _ := f6
  have g7 : (w1.drewN nq).cell? ⟨w.heap.size, 7, none⟩ = _ := f7
  clear f0 f1 f2 f3 f4 f5 f6 f7 hb
  generalize w1.drewN nq = w2 at *
  go_wp2_with fail
  refine (rn02q w2 e.item s3).mono ?_
  rintro r w3 ⟨rfl, hw3⟩
  rw [hw3]
  clear hw3
  generalize e.per.isEmpty = b0 at *
  generalize nameB e.item = b1 at *
  generalize e.text.isEmpty = b2 at *
  generalize (e.val == 0) = b3 at *
  cases b0
  · go_wp2
    go_ret
    exact ⟨ret_bool (by rw [HT.out]; rfl), hbq⟩
  cases b1
  · go_wp2
    go_ret
    exact ⟨ret_bool (by rw [HT.out]; rfl), hbq⟩
  cases b2
  · go_wp2
    go_ret
    exact ⟨ret_bool (by rw [HT.out]; rfl), hbq⟩
  cases b3
  · go_wp2
    go_ret
    exact ⟨ret_bool (by rw [HT.out]; rfl), hbq⟩
  go_wp2
  go_ret
  exact ⟨ret_bool (by rw [HT.out]; rfl), hbq⟩

set_option maxRecDepth 100000 in
set_option maxHeartbeats 4000000 in
theorem rmay_k14 (w : World) (e : Ev) (hs : e.small) (hh : headB e = true) (hk : e.kind = 14) : Calls Tryz.prog 51 #[e.agg] w (Says (mayB e) w) := by
  obtain ⟨s1, s2, s3, s4⟩ := hs
  have HT := Lib.hid (show mayB e = (nameB e.per && e.item.isEmpty && e.text.isEmpty && (e.val == 0)) by
    unfold mayB tailB
    rw [hh, hk]
    simp
    cases nameB e.per <;> cases nameB e.item <;> cases nameB e.text <;> cases listingB e.text <;> cases e.per.isEmpty <;> cases e.item.isEmpty <;> cases e.text.isEmpty <;> simp)
  have hh' : (nameB e.src && decide (1 ≤ e.num) && decide (e.num ≤ 1099511627776) && decide (0 ≤ e.at_) && decide (e.at_ ≤ 1099511627776)) = true := hh
  simp only [Bool.and_eq_true, decide_eq_true_eq] at hh'
  obtain ⟨⟨⟨⟨hns, h1⟩, h2⟩, h3⟩, h4⟩ := hh'
  have HNS := Lib.hid hns
  have HIN := Lib.hid (show (decide (1 ≤ e.num) && decide (e.num ≤ 1099511627776)) = true by simp [h1, h2])
  have HIA := Lib.hid (show (decide (0 ≤ e.at_) && decide (e.at_ ≤ 1099511627776)) = true by simp [h3, h4])
  have HK := Lib.hid hk
  clear hns hh h1 h2 h3 h4 hk
  unfold Ev.agg
  go_enter Tryz.func51, Tryz.ntmps51
  have hb : Below w.heap.size w (w.alloc (evObj e)) := (Below.refl _ _).alloc (Nat.le_refl _) _
  obtain ⟨f0, f1, f2, f3, f4, f5, f6, f7⟩ := EvIn.new w e
  go_wp2_with fail
  refine (rn02q _ e.src s1).mono ?_
  rintro r w1 ⟨rfl, rfl⟩
  rw [HNS.out]
  generalize w.alloc (evObj e) = w1 at *
  rw [HK.out] at f3
  go_wp2_with fail
  refine (rin_any w1 e.num 1 1099511627776).mono ?_
  rintro r w2 ⟨rfl, hw2⟩
  rw [hw2, HIN.out]
  clear hw2
  go_wp2_with fail
  refine (rin_any w1 e.at_ 0 1099511627776).mono ?_
  rintro r w2 ⟨rfl, hw2⟩
  rw [hw2, HIA.out]
  clear hw2
  go_wp2
  go_quiet (fail)
  have hbq : Below w.heap.size w (w1.drewN nq) := below_drewN hb nq
  have g3 : (w1.drewN nq).cell? ⟨w.heap.size, 3, none⟩ = _ := f3
  have g4 : (w1.drewN nq).cell? ⟨w.heap.size, 4, none⟩ = _ := f4
  have g5 : (w1.drewN nq).cell? ⟨w.heap.size, 5, none⟩ = _ := f5
  have g6 : (w1.drewN nq).cell? ⟨w.heap.size, 6, none⟩ = _ := f6
  have g7 : (w1.drewN nq).cell? ⟨w.heap.size, 7, none⟩ = _ := f7
  clear f0 f1 f2 f3 f4 f5 f6 f7 hb
  generalize w1.drewN nq = w2 at *
  go_wp2_with fail
  refine (rn02q w2 e.per s2).mono ?_
  rintro r w3 ⟨rfl, hw3⟩
  rw [hw3]
  clear hw3
  generalize nameB e.per = b0 at *
  generalize e.item.isEmpty = b1 at *
  generalize e.text.isEmpty = b2 at *
  generalize (e.val == 0) = b3 at *
  cases b0
  · go_wp2
    go_ret
    exact ⟨ret_bool (by rw [HT.out]; rfl), hbq⟩
  cases b1
  · go_wp2
    go_ret
    exact ⟨ret_bool (by rw [HT.out]; rfl), hbq⟩
  cases b2
  · go_wp2
    go_ret
    exact ⟨ret_bool (by rw [HT.out]; rfl), hbq⟩
  cases b3
  · go_wp2
    go_ret
    exact ⟨ret_bool (by rw [HT.out]; rfl), hbq⟩
  go_wp2
  go_ret
  exact ⟨ret_bool (by rw [HT.out]; rfl), hbq⟩

set_option maxRecDepth 100000 in
set_option maxHeartbeats 4000000 in
theorem rmay_kx (w : World) (e : Ev) (hs : e.small) (hh : headB e = true) (hk : ∀ j : Nat, j ≤ 14 → e.kind ≠ j) : Calls Tryz.prog 51 #[e.agg] w (Says (mayB e) w) := by
  obtain ⟨s1, s2, s3, s4⟩ := hs
  have HT := Lib.hid (show mayB e = false by
    unfold mayB tailB
    have key : ∀ j : Nat, j ≤ 14 → e.kind ≠ (j : Int) := hk
    have k0 := key 0 (by omega); have k1 := key 1 (by omega); have k2 := key 2 (by omega); have k3 := key 3 (by omega); have k4 := key 4 (by omega); have k5 := key 5 (by omega); have k6 := key 6 (by omega); have k7 := key 7 (by omega); have k8 := key 8 (by omega); have k9 := key 9 (by omega); have k10 := key 10 (by omega); have k11 := key 11 (by omega); have k12 := key 12 (by omega); have k13 := key 13 (by omega); have k14 := key 14 (by omega)
    rw [if_neg (by omega), if_neg (by omega), if_neg (by omega), if_neg (by omega), if_neg (by omega), if_neg (by omega), if_neg (by omega), if_neg (by omega), if_neg (by omega), if_neg (by omega), if_neg (by omega), if_neg (by omega), if_neg (by omega), if_neg (by omega), if_neg (by omega)]; simp)
  have hh' : (nameB e.src && decide (1 ≤ e.num) && decide (e.num ≤ 1099511627776) && decide (0 ≤ e.at_) && decide (e.at_ ≤ 1099511627776)) = true := hh
  simp only [Bool.and_eq_true, decide_eq_true_eq] at hh'
  obtain ⟨⟨⟨⟨hns, h1⟩, h2⟩, h3⟩, h4⟩ := hh'
  have HNS := Lib.hid hns
  have HIN := Lib.hid (show (decide (1 ≤ e.num) && decide (e.num ≤ 1099511627776)) = true by simp [h1, h2])
  have HIA := Lib.hid (show (decide (0 ≤ e.at_) && decide (e.at_ ≤ 1099511627776)) = true by simp [h3, h4])
  have HK := Lib.hid hk
  clear hns hh h1 h2 h3 h4 hk
  unfold Ev.agg
  go_enter Tryz.func51, Tryz.ntmps51
  have hb : Below w.heap.size w (w.alloc (evObj e)) := (Below.refl _ _).alloc (Nat.le_refl _) _
  obtain ⟨f0, f1, f2, f3, f4, f5, f6, f7⟩ := EvIn.new w e
  go_wp2_with fail
  refine (rn02q _ e.src s1).mono ?_
  rintro r w1 ⟨rfl, rfl⟩
  rw [HNS.out]
  generalize w.alloc (evObj e) = w1 at *
  generalize e.kind = kd at *
  have k0 : (kd == 0) = false := by have := HK.out 0 (by omega); simpa using this
  have k1 : (kd == 1) = false := by have := HK.out 1 (by omega); simpa using this
  have k2 : (kd == 2) = false := by have := HK.out 2 (by omega); simpa using this
  have k3 : (kd == 3) = false := by have := HK.out 3 (by omega); simpa using this
  have k4 : (kd == 4) = false := by have := HK.out 4 (by omega); simpa using this
  have k5 : (kd == 5) = false := by have := HK.out 5 (by omega); simpa using this
  have k6 : (kd == 6) = false := by have := HK.out 6 (by omega); simpa using this
  have k7 : (kd == 7) = false := by have := HK.out 7 (by omega); simpa using this
  have k8 : (kd == 8) = false := by have := HK.out 8 (by omega); simpa using this
  have k9 : (kd == 9) = false := by have := HK.out 9 (by omega); simpa using this
  have k10 : (kd == 10) = false := by have := HK.out 10 (by omega); simpa using this
  have k11 : (kd == 11) = false := by have := HK.out 11 (by omega); simpa using this
  have k12 : (kd == 12) = false := by have := HK.out 12 (by omega); simpa using this
  have k13 : (kd == 13) = false := by have := HK.out 13 (by omega); simpa using this
  have k14 : (kd == 14) = false := by have := HK.out 14 (by omega); simpa using this
  go_wp2_with fail
  refine (rin_any w1 e.num 1 1099511627776).mono ?_
  rintro r w2 ⟨rfl, hw2⟩
  rw [hw2, HIN.out]
  clear hw2
  go_wp2_with fail
  refine (rin_any w1 e.at_ 0 1099511627776).mono ?_
  rintro r w2 ⟨rfl, hw2⟩
  rw [hw2, HIA.out]
  clear hw2
  go_wp2
  go_quiet (fail)
  have hbq : Below w.heap.size w (w1.drewN nq) := below_drewN hb nq
  have g3 : (w1.drewN nq).cell? ⟨w.heap.size, 3, none⟩ = _ := f3
  have g4 : (w1.drewN nq).cell? ⟨w.heap.size, 4, none⟩ = _ := f4
  have g5 : (w1.drewN nq).cell? ⟨w.heap.size, 5, none⟩ = _ := f5
  have g6 : (w1.drewN nq).cell? ⟨w.heap.size, 6, none⟩ = _ := f6
  have g7 : (w1.drewN nq).cell? ⟨w.heap.size, 7, none⟩ = _ := f7
  clear f0 f1 f2 f3 f4 f5 f6 f7 hb
  generalize w1.drewN nq = w2 at *
  go_wp2
  go_ret
  exact ⟨ret_bool HT.out.symm, hbq⟩

set_option maxRecDepth 100000 in
set_option maxHeartbeats 4000000 in
theorem rmay_head (w : World) (e : Ev) (hs : e.small) (hh : headB e = false) : Calls Tryz.prog 51 #[e.agg] w (Says (mayB e) w) := by
  obtain ⟨s1, s2, s3, s4⟩ := hs
  have HT := Lib.hid (show mayB e = false by unfold mayB; rw [hh]; rfl)
  have HH := Lib.hid (show (nameB e.src && (decide (1 ≤ e.num) && decide (e.num ≤ 1099511627776)) && (decide (0 ≤ e.at_) && decide (e.at_ ≤ 1099511627776))) = false by
    rw [← hh]; unfold headB
    simp only [Bool.and_assoc])
  clear hh
  unfold Ev.agg
  go_enter Tryz.func51, Tryz.ntmps51
  have hb : Below w.heap.size w (w.alloc (evObj e)) := (Below.refl _ _).alloc (Nat.le_refl _) _
  obtain ⟨f0, f1, f2, f3, f4, f5, f6, f7⟩ := EvIn.new w e
  go_wp2_with fail
  refine (rn02q _ e.src s1).mono ?_
  rintro r w1 ⟨rfl, rfl⟩
  generalize w.alloc (evObj e) = w1 at *
  generalize nameB e.src = b0 at *
  cases b0
  · go_wp2
    go_ret
    exact ⟨ret_bool HT.out.symm, hb⟩
  go_wp2_with fail
  refine (rin_any w1 e.num 1 1099511627776).mono ?_
  rintro r w2 ⟨rfl, hw2⟩
  rw [hw2]
  clear hw2
  generalize (decide (1 ≤ e.num) && decide (e.num ≤ 1099511627776)) = b1 at *
  cases b1
  · go_wp2
    go_ret
    exact ⟨ret_bool HT.out.symm, hb⟩
  go_wp2_with fail
  refine (rin_any w1 e.at_ 0 1099511627776).mono ?_
  rintro r w2 ⟨rfl, hw2⟩
  rw [hw2]
  clear hw2
  generalize (decide (0 ≤ e.at_) && decide (e.at_ ≤ 1099511627776)) = b2 at *
  cases b2
  · go_wp2
    go_ret
    exact ⟨ret_bool HT.out.symm, hb⟩
  · have := HH.out; simp at this

theorem rmay_any (w : World) (e : Ev) (hs : e.small) : Calls Tryz.prog 51 #[e.agg] w (Says (mayB e) w) := by
  cases hh : headB e
  · exact rmay_head w e hs hh
  by_cases k0 : e.kind = 0
  · exact rmay_k0 w e hs hh k0
  by_cases k1 : e.kind = 1
  · exact rmay_k1 w e hs hh k1
  by_cases k2 : e.kind = 2
  · exact rmay_k2 w e hs hh k2
  by_cases k3 : e.kind = 3
  · exact rmay_k3 w e hs hh k3
  by_cases k4 : e.kind = 4
  · exact rmay_k4 w e hs hh k4
  by_cases k5 : e.kind = 5
  · exact rmay_k5 w e hs hh k5
  by_cases k6 : e.kind = 6
  · exact rmay_k6 w e hs hh k6
  by_cases k7 : e.kind = 7
  · exact rmay_k7 w e hs hh k7
  by_cases k8 : e.kind = 8
  · exact rmay_k8 w e hs hh k8
  by_cases k9 : e.kind = 9
  · exact rmay_k9 w e hs hh k9
  by_cases k10 : e.kind = 10
  · exact rmay_k10 w e hs hh k10
  by_cases k11 : e.kind = 11
  · exact rmay_k11 w e hs hh k11
  by_cases k12 : e.kind = 12
  · exact rmay_k12 w e hs hh k12
  by_cases k13 : e.kind = 13
  · exact rmay_k13 w e hs hh k13
  by_cases k14 : e.kind = 14
  · exact rmay_k14 w e hs hh k14
  exact rmay_kx w e hs hh (fun j hj => by
    have : j = 0 ∨ j = 1 ∨ j = 2 ∨ j = 3 ∨ j = 4 ∨ j = 5 ∨ j = 6 ∨ j = 7 ∨ j = 8 ∨ j = 9 ∨ j = 10 ∨ j = 11 ∨ j = 12 ∨ j = 13 ∨ j = 14 := by omega
    omega)
end Go.Proofs.YtgbagjpokpchpaaGreatDoor
