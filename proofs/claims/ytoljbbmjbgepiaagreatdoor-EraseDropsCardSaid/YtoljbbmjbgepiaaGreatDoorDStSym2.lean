/-
  slices.symMergeCmpFunc at events: one element behind.
-/
import Derived.Test.YtoljbbmjbgepiaaGreatDoorDStSym
namespace Go.Proofs.YtoljbbmjbgepiaaGreatDoor
open Go.RowKit Go.Maps Go.Sort

set_option maxRecDepth 100000 in
set_option maxHeartbeats 8000000 in
theorem sym2_any (w0 w : World) (base g n cap : Nat) (X A Y : List Ev) (y : Ev) (h : Srt w0 base g n cap (X ++ (A ++ y :: Y)) w) (hA : SortedE A) (hA2 : 2 ≤ A.length) (hn : n ≤ 1000000) (a m b : Nat) (ha : X.length = a) (hm : a + A.length = m) (hb : m + 1 = b) :
    Calls Tryz.prog 132 #[.slice (some ⟨g, 0, none⟩) n cap, .int .i64 a, .int .i64 m, .int .i64 b, cmpV] w (MrgPost w0 base g n cap X (A ++ [y]) Y) := by
  have hlen : n = X.length + A.length + 1 + Y.length := by have := h.len; simp at this; omega
  have hbn : b ≤ n := by omega
  have hmb : m < b := by omega
  have ham : a + 1 < m := by omega
  have HH := Lib.hid (show BsRel w0 base g n cap (X ++ (A ++ y :: Y)) A (fun z => ¬ LtE y z) (fun z => LtE y z) a (.int .i64 (a : Int)) (.int .i64 (m : Int)) w from ⟨0, A.length, rfl, by rw [hm], Nat.zero_le _, Nat.le_refl _, (fun z h0 => by omega), (fun z hz => by rw [List.getElem?_eq_none (Nat.le_refl _)] at hz; cases hz), h⟩)
  have HAS := Lib.hid hA; have HA := Lib.hid ha; have HM := Lib.hid hm; have HB := Lib.hid hb
  have b0 : ((m : Int) - a == 1) = false := beq_eq_false_iff_ne.2 (by omega)
  have s1 : (b : Int) - m = 1 := by omega
  clear h hA hlen ha hm hb
  go_enter Tryz.func132, Tryz.ntmps132
  go_wp2
  clear s1 b0
  go_loopw [14, 15] (fun i j wr => BsRel w0 base g n cap (X ++ (A ++ y :: Y)) A (fun z => ¬ LtE y z) (fun z => LtE y z) a i j wr) (fun i j _ => (intOf j - intOf i).toNat)
  case atStart => exact HH.out
  case round =>
    obtain ⟨p, q, rfl, rfl, hpq, hqA, hlo, hhi, hS⟩ := hrel
    have HS := Lib.hid hS; have HLO := Lib.hid hlo; have HHI := Lib.hid hhi
    obtain ⟨i, hi⟩ : ∃ i, i = a + p := ⟨_, rfl⟩
    obtain ⟨j, hj⟩ : ∃ j, j = a + q := ⟨_, rfl⟩
    rw [← hi, ← hj]
    have HI := Lib.hid hi; have HJ := Lib.hid hj
    have hjm : j ≤ m := by have := HM.out; omega
    have hai : a ≤ i := by omega
    have hij' : i ≤ j := by omega
    clear hlo hhi hS HH
    by_cases hlt : p < q
    · have t1 : (i : Int) < j := by omega
      have hijn : i < j := by omega
      obtain ⟨hh, hhh⟩ : ∃ hh, hh = (i + j) / 2 := ⟨_, rfl⟩
      obtain ⟨u, hu⟩ : ∃ u, u = hh - a := ⟨_, rfl⟩
      have hmu : a + u = hh := by omega
      have huA : u < A.length := by omega
      have hpu : p ≤ u := by omega
      have huq : u < q := by omega
      have hhn : (hh : Int) < n := by omega
      have hmn : (m : Int) < n := by omega
      have hxa : X.length = a := HA.out
      have HU := Lib.hid hmu
      have HEV1 := Lib.hid (show ∀ W, Srt w0 base g n cap (X ++ (A ++ y :: Y)) W → EvAt W g (m * 8) y from fun W hW => hW.at_ (P := X ++ A) (R := Y) (by simp only [List.append_assoc]) (by have := HM.out; rw [List.length_append]; omega))
      have HEV2 := Lib.hid (show ∀ W, Srt w0 base g n cap (X ++ (A ++ y :: Y)) W → EvAt W g (hh * 8) A[u] from fun W hW => hW.at_ (P := X ++ A.take u) (R := A.drop (u + 1) ++ y :: Y) (by
        have h1 : A = A.take u ++ A[u] :: A.drop (u + 1) := by rw [← List.drop_eq_getElem_cons huA, List.take_append_drop]
        conv => lhs; rw [h1]
        simp only [List.append_assoc, List.cons_append]) (by simp; omega))
      have HR1 := Lib.hid (show ∀ W, ¬ LtE y A[u] → Srt w0 base g n cap (X ++ (A ++ y :: Y)) W → BsRel w0 base g n cap (X ++ (A ++ y :: Y)) A (fun z => ¬ LtE y z) (fun z => LtE y z) a (.int .i64 ((hh : Int) + 1)) (.int .i64 (j : Int)) W from fun W hl hW => ⟨u + 1, q, by have := HU.out; congr 1; omega, by rw [HJ.out], by omega, hqA, fun z _ hz => by
        rw [Nat.add_sub_cancel, List.getElem?_eq_getElem huA] at hz
        injection hz with hz; rw [← hz]; exact hl, HHI.out, hW⟩)
      have HR2 := Lib.hid (show ∀ W, LtE y A[u] → Srt w0 base g n cap (X ++ (A ++ y :: Y)) W → BsRel w0 base g n cap (X ++ (A ++ y :: Y)) A (fun z => ¬ LtE y z) (fun z => LtE y z) a (.int .i64 (i : Int)) (.int .i64 (hh : Int)) W from fun W hl hW => ⟨p, u, by rw [HI.out], by rw [HU.out], hpu, by omega, HLO.out, fun z hz => by
        rw [List.getElem?_eq_getElem huA] at hz
        injection hz with hz; rw [← hz]; exact hl, hW⟩)
      have s0 : ((i : Int) + (j : Int)) / 2 = (hh : Int) := by omega
      have hih : i ≤ hh := by omega
      have hhj : hh < j := by omega
      generalize A[u] = z at *
      generalize X ++ (A ++ y :: Y) = LL at *
      clear hi hj hhh hu hmu huA hxa
      have HCM := Lib.hid (show ∀ W, Calls Tryz.prog 58 #[.agg #[.string ⟨y.src.toArray⟩, .int .i64 y.num, .int .i64 y.at_, .int .i64 y.kind, .string ⟨y.per.toArray⟩, .string ⟨y.item.toArray⟩, .int .i64 y.val, .string ⟨y.text.toArray⟩], .agg #[.string ⟨z.src.toArray⟩, .int .i64 z.num, .int .i64 z.at_, .int .i64 z.kind, .string ⟨z.per.toArray⟩, .string ⟨z.item.toArray⟩, .int .i64 z.val, .string ⟨z.text.toArray⟩]] W fun e w' => e = .returned (.int .i64 (cmpE y z)) ∧ Below W.heap.size W w' from fun W => compare_any W y z)
      by_cases hl : cmpE y z < 0
      · have HLT := Lib.hid (cmpE_neg.1 hl)
        have hl2 : (!decide (cmpE y z < 0)) = false := by rw [decide_eq_true hl]; rfl
        go_wp2
        clear s0
        have HSS := Lib.hid (show ∀ W : World, Srt w0 base g n cap LL W → (W.cell? ⟨g, m * 8, none⟩ = some (.string ⟨y.src.toArray⟩) ∧ W.cell? ⟨g, m * 8 + 1, none⟩ = some (.int .i64 y.num) ∧ W.cell? ⟨g, m * 8 + 2, none⟩ = some (.int .i64 y.at_) ∧ W.cell? ⟨g, m * 8 + 3, none⟩ = some (.int .i64 y.kind) ∧ W.cell? ⟨g, m * 8 + 4, none⟩ = some (.string ⟨y.per.toArray⟩) ∧ W.cell? ⟨g, m * 8 + 5, none⟩ = some (.string ⟨y.item.toArray⟩) ∧ W.cell? ⟨g, m * 8 + 6, none⟩ = some (.int .i64 y.val) ∧ W.cell? ⟨g, m * 8 + 7, none⟩ = some (.string ⟨y.text.toArray⟩) ∧ W.cell? ⟨g, hh * 8, none⟩ = some (.string ⟨z.src.toArray⟩) ∧ W.cell? ⟨g, hh * 8 + 1, none⟩ = some (.int .i64 z.num) ∧ W.cell? ⟨g, hh * 8 + 2, none⟩ = some (.int .i64 z.at_) ∧ W.cell? ⟨g, hh * 8 + 3, none⟩ = some (.int .i64 z.kind) ∧ W.cell? ⟨g, hh * 8 + 4, none⟩ = some (.string ⟨z.per.toArray⟩) ∧ W.cell? ⟨g, hh * 8 + 5, none⟩ = some (.string ⟨z.item.toArray⟩) ∧ W.cell? ⟨g, hh * 8 + 6, none⟩ = some (.int .i64 z.val) ∧ W.cell? ⟨g, hh * 8 + 7, none⟩ = some (.string ⟨z.text.toArray⟩)) from fun W hW => by
          obtain ⟨a0, a1, a2, a3, a4, a5, a6, a7⟩ := HEV1.out W hW
          obtain ⟨b0, b1, b2, b3, b4, b5, b6, b7⟩ := HEV2.out W hW
          exact ⟨a0, a1, a2, a3, a4, a5, a6, a7, b0, b1, b2, b3, b4, b5, b6, b7⟩)
        have HX := Lib.hid (HS.out.drewN 1)
        have hS := HSS.out _ HS.out
        go_region_held3 (fun W => W.cell? ⟨g, m * 8, none⟩ = some (.string ⟨y.src.toArray⟩) ∧ W.cell? ⟨g, m * 8 + 1, none⟩ = some (.int .i64 y.num) ∧ W.cell? ⟨g, m * 8 + 2, none⟩ = some (.int .i64 y.at_) ∧ W.cell? ⟨g, m * 8 + 3, none⟩ = some (.int .i64 y.kind) ∧ W.cell? ⟨g, m * 8 + 4, none⟩ = some (.string ⟨y.per.toArray⟩) ∧ W.cell? ⟨g, m * 8 + 5, none⟩ = some (.string ⟨y.item.toArray⟩) ∧ W.cell? ⟨g, m * 8 + 6, none⟩ = some (.int .i64 y.val) ∧ W.cell? ⟨g, m * 8 + 7, none⟩ = some (.string ⟨y.text.toArray⟩) ∧ W.cell? ⟨g, hh * 8, none⟩ = some (.string ⟨z.src.toArray⟩) ∧ W.cell? ⟨g, hh * 8 + 1, none⟩ = some (.int .i64 z.num) ∧ W.cell? ⟨g, hh * 8 + 2, none⟩ = some (.int .i64 z.at_) ∧ W.cell? ⟨g, hh * 8 + 3, none⟩ = some (.int .i64 z.kind) ∧ W.cell? ⟨g, hh * 8 + 4, none⟩ = some (.string ⟨z.per.toArray⟩) ∧ W.cell? ⟨g, hh * 8 + 5, none⟩ = some (.string ⟨z.item.toArray⟩) ∧ W.cell? ⟨g, hh * 8 + 6, none⟩ = some (.int .i64 z.val) ∧ W.cell? ⟨g, hh * 8 + 7, none⟩ = some (.string ⟨z.text.toArray⟩)) (first | assumption | exact HSS.out _ HX.out | go_keep) ((go_at_call 58; (with_reducible refine (HCM.out _).mono ?_); rintro r9 w9 ⟨rfl, hb9⟩; have HX2 := Lib.hid (HX.out.up hb9); clear HX; have HX := HX2; clear HX2; (try clear hS); have hS := HSS.out _ HX.out; clear hb9))
        clear hS HSS HCM HEV1 HEV2
        have HRR := Lib.hid (HR2.out _ HLT.out HX.out)
        clear HX
        go_wp2
        go_roundw
        case rel => exact HRR.out
        case measure => simp [intOf]; omega
      · have HLT := Lib.hid (show ¬ LtE y z from fun h => hl (cmpE_neg.2 h))
        have hl2 : (!decide (cmpE y z < 0)) = true := by rw [decide_eq_false hl]; rfl
        go_wp2
        clear s0
        have HSS := Lib.hid (show ∀ W : World, Srt w0 base g n cap LL W → (W.cell? ⟨g, m * 8, none⟩ = some (.string ⟨y.src.toArray⟩) ∧ W.cell? ⟨g, m * 8 + 1, none⟩ = some (.int .i64 y.num) ∧ W.cell? ⟨g, m * 8 + 2, none⟩ = some (.int .i64 y.at_) ∧ W.cell? ⟨g, m * 8 + 3, none⟩ = some (.int .i64 y.kind) ∧ W.cell? ⟨g, m * 8 + 4, none⟩ = some (.string ⟨y.per.toArray⟩) ∧ W.cell? ⟨g, m * 8 + 5, none⟩ = some (.string ⟨y.item.toArray⟩) ∧ W.cell? ⟨g, m * 8 + 6, none⟩ = some (.int .i64 y.val) ∧ W.cell? ⟨g, m * 8 + 7, none⟩ = some (.string ⟨y.text.toArray⟩) ∧ W.cell? ⟨g, hh * 8, none⟩ = some (.string ⟨z.src.toArray⟩) ∧ W.cell? ⟨g, hh * 8 + 1, none⟩ = some (.int .i64 z.num) ∧ W.cell? ⟨g, hh * 8 + 2, none⟩ = some (.int .i64 z.at_) ∧ W.cell? ⟨g, hh * 8 + 3, none⟩ = some (.int .i64 z.kind) ∧ W.cell? ⟨g, hh * 8 + 4, none⟩ = some (.string ⟨z.per.toArray⟩) ∧ W.cell? ⟨g, hh * 8 + 5, none⟩ = some (.string ⟨z.item.toArray⟩) ∧ W.cell? ⟨g, hh * 8 + 6, none⟩ = some (.int .i64 z.val) ∧ W.cell? ⟨g, hh * 8 + 7, none⟩ = some (.string ⟨z.text.toArray⟩)) from fun W hW => by
          obtain ⟨a0, a1, a2, a3, a4, a5, a6, a7⟩ := HEV1.out W hW
          obtain ⟨b0, b1, b2, b3, b4, b5, b6, b7⟩ := HEV2.out W hW
          exact ⟨a0, a1, a2, a3, a4, a5, a6, a7, b0, b1, b2, b3, b4, b5, b6, b7⟩)
        have HX := Lib.hid (HS.out.drewN 1)
        have hS := HSS.out _ HS.out
        go_region_held3 (fun W => W.cell? ⟨g, m * 8, none⟩ = some (.string ⟨y.src.toArray⟩) ∧ W.cell? ⟨g, m * 8 + 1, none⟩ = some (.int .i64 y.num) ∧ W.cell? ⟨g, m * 8 + 2, none⟩ = some (.int .i64 y.at_) ∧ W.cell? ⟨g, m * 8 + 3, none⟩ = some (.int .i64 y.kind) ∧ W.cell? ⟨g, m * 8 + 4, none⟩ = some (.string ⟨y.per.toArray⟩) ∧ W.cell? ⟨g, m * 8 + 5, none⟩ = some (.string ⟨y.item.toArray⟩) ∧ W.cell? ⟨g, m * 8 + 6, none⟩ = some (.int .i64 y.val) ∧ W.cell? ⟨g, m * 8 + 7, none⟩ = some (.string ⟨y.text.toArray⟩) ∧ W.cell? ⟨g, hh * 8, none⟩ = some (.string ⟨z.src.toArray⟩) ∧ W.cell? ⟨g, hh * 8 + 1, none⟩ = some (.int .i64 z.num) ∧ W.cell? ⟨g, hh * 8 + 2, none⟩ = some (.int .i64 z.at_) ∧ W.cell? ⟨g, hh * 8 + 3, none⟩ = some (.int .i64 z.kind) ∧ W.cell? ⟨g, hh * 8 + 4, none⟩ = some (.string ⟨z.per.toArray⟩) ∧ W.cell? ⟨g, hh * 8 + 5, none⟩ = some (.string ⟨z.item.toArray⟩) ∧ W.cell? ⟨g, hh * 8 + 6, none⟩ = some (.int .i64 z.val) ∧ W.cell? ⟨g, hh * 8 + 7, none⟩ = some (.string ⟨z.text.toArray⟩)) (first | assumption | exact HSS.out _ HX.out | go_keep) ((go_at_call 58; (with_reducible refine (HCM.out _).mono ?_); rintro r9 w9 ⟨rfl, hb9⟩; have HX2 := Lib.hid (HX.out.up hb9); clear HX; have HX := HX2; clear HX2; (try clear hS); have hS := HSS.out _ HX.out; clear hb9))
        clear hS HSS HCM HEV1 HEV2
        have HRR := Lib.hid (HR1.out _ HLT.out HX.out)
        clear HX
        go_wp2
        go_roundw
        case rel => exact HRR.out
        case measure => simp [intOf]; omega
    · have hpe : q = p := by omega
      have t1 : ¬ (i : Int) < j := by omega
      have hpA : p ≤ A.length := by omega
      have HB1 := Lib.hid (bs_lo (lo := fun z => ¬ LtE y z) HAS.out hpA HLO.out (fun v z h1 h2 => fun h3 => h2 (h1.lt h3)))
      have HB2 := Lib.hid (bs_hi (p := p) (hi := fun z => LtE y z) HAS.out (by rw [← hpe]; exact HHI.out) (fun v z h1 h2 => h1.lt h2))
      have HTL := Lib.hid (show (A.take p).length = p ∧ (A.drop p).length = A.length - p by simp; omega)
      have him : i ≤ m := by omega
      have HMV := Lib.hid (show MvRel w0 base g n cap i (X ++ A.take p) (A.drop p) Y y (.int .i64 (m : Int)) wr from ⟨(A.drop p).length, by have := HM.out; have := HTL.out.2; congr 1; omega, Nat.le_refl _, by
        have h1 := HS.out
        rw [List.take_length, List.drop_length]
        have h2 : X ++ A.take p ++ A.drop p = X ++ A := by rw [List.append_assoc, List.take_append_drop]
        rw [h2]
        simpa only [List.append_assoc, List.nil_append] using h1⟩)
      have HFIN := Lib.hid (show ∀ W, Srt w0 base g n cap (X ++ (A.take p ++ y :: A.drop p) ++ Y) W → MrgPost w0 base g n cap X (A ++ [y]) Y (.returned (.tuple #[])) W from fun W hW => ⟨rfl, A.take p ++ y :: A.drop p, sorted_put (by rw [List.take_append_drop]; exact HAS.out) (fun v hv => HB1.out v hv) (fun v hv => (HB2.out v hv).le), by
        have h2 : (A.take p ++ y :: A.drop p).Perm (y :: (A.take p ++ A.drop p)) := List.perm_middle
        rw [List.take_append_drop] at h2
        exact h2.trans (List.perm_append_singleton y A).symm, hW⟩)
      have HXL := Lib.hid (show (X ++ A.take p).length = i by have := HTL.out.1; have := HA.out; rw [List.length_append]; omega)
      clear hi hj hpe HB1 HB2 HS HLO HHI hpA
      generalize A.take p = A1 at *
      generalize A.drop p = A2 at *
      go_wp2
      go_loopw [17] (fun k wz => MvRel w0 base g n cap i (X ++ A1) A2 Y y k wz) (fun k _ => (intOf k).toNat)
      case atStart => exact HMV.out
      case round =>
        obtain ⟨t, rfl, ht, hS⟩ := hrel
        generalize wr = wz at *
        have HS := Lib.hid hS
        obtain ⟨k, hk⟩ : ∃ k, k = i + t := ⟨_, rfl⟩
        rw [← hk]
        have HK := Lib.hid hk
        have hki : i ≤ k := by omega
        cases t with
        | succ t =>
          have hkl : i < k := by omega
          have t2 : (i : Int) < k := by omega
          obtain ⟨km, hkm⟩ : ∃ km, km = i + t := ⟨_, rfl⟩
          have hxa := HXL.out
          have htA : t < A2.length := by omega
          have hSW := (show Srt w0 base g n cap (((X ++ A1) ++ A2.take t) ++ A2[t] :: ([] ++ y :: (A2.drop (t + 1) ++ Y))) wz by
            rw [List.take_add_one, List.getElem?_eq_getElem htA] at hS
            simpa only [List.append_assoc, List.cons_append, List.nil_append, Option.toList_some] using hS).swf (i := km) (j := k) (by rw [List.length_append, hxa, List.length_take]; omega) (by rw [List.length_append, hxa, List.length_take]; simp; omega)
          have HRR := Lib.hid (show MvRel w0 base g n cap i (X ++ A1) A2 Y y (.int .i64 (km : Int)) (setEv (setEv wz g (k * 8) A2[t]) g (km * 8) y).drew from ⟨t, by rw [hkm], by omega, by
            have h2 := hSW.resHi
            rw [List.drop_eq_getElem_cons htA]
            simpa only [List.append_assoc, List.cons_append, List.nil_append] using h2⟩)
          generalize A2[t] = z at *
          have hkn := hSW.lt
          have hkn' : (k : Int) < n := by omega
          have hkmn' : (km : Int) < n := by omega
          have hkmk : km < k := by omega
          obtain ⟨e0, e1, e2, e3, e4, e5, e6, e7⟩ := hSW.ex
          obtain ⟨f0, f1, f2, f3, f4, f5, f6, f7⟩ := hSW.ey
          have hfr := hSW.fr
          obtain ⟨⟨z9, z0, z1, z2, z3, z4, z5, z6, z7⟩, hf5⟩ := hSW.hi
          unfold setEv at z0 z1 z2 z3 z4 z5 z6 z7 hf5
          obtain ⟨s3, s4⟩ : (k : Int) - 1 = (km : Int) ∧ IntKind.i64.wrap (km : Int) = (km : Int) := ⟨by omega, IntWalk.i64_in _ (by omega)⟩
          clear hSW hS HS hk hkm hxa htA ht
          go_wp2
          go_region_law (fail)
          all_goals
            clear z0 z1 z2 z3 z4 z5 z6 z7 hf5 e0 e1 e2 e3 e4 e5 e6 e7 f0 f1 f2 f3 f4 f5 f6 f7 hfr
            change Exit.inBlock _ _ _ _ (setEv (setEv wz g (k * 8) z) g (km * 8) y).drew
            generalize (setEv (setEv wz g (k * 8) z) g (km * 8) y).drew = w5 at *
            go_wp2
            go_roundw
            case rel => exact HRR.out
            case measure => simp [intOf]; omega
        | zero =>
          have hkl : k = i := by omega
          have t2 : ¬ (i : Int) < k := by omega
          have t3 : ¬ i < k := by omega
          have HF := Lib.hid (HFIN.out wz (by
            have h1 := HS.out
            simpa only [List.take_zero, List.drop_zero, List.append_nil, List.append_assoc, List.cons_append, List.nil_append] using h1))
          clear hS hk hkl
          go_wp2
          go_end0
          exact HF.out
end Go.Proofs.YtoljbbmjbgepiaaGreatDoor
