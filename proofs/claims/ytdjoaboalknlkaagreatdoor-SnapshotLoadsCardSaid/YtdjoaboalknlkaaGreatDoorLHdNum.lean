/-
  Layer 7: number: what bytes begin with.
-/
import Derived.Test.YtdjoaboalknlkaaGreatDoorLPtHad
import Derived.Test.YtdjoaboalknlkaaGreatDoorLFrmWalk
namespace Go.Proofs.YtdjoaboalknlkaaGreatDoor
open Go.RowKit Go.Maps Go.Sort

def NrPost (w : World) (B : Nat) (l : List UInt8) (e : Ending) (w' : World) : Prop :=
  (match numR l with
    | .ok v r => ∃ A n c, e = .returned (.tuple #[.int .i64 v, .slice A n c, .int .i64 0]) ∧ Byt w B A n c r
    | .torn => e = .returned (.tuple #[.int .i64 0, .slice none 0 0, .int .i64 3])
    | .form => e = .returned (.tuple #[.int .i64 0, .slice none 0 0, .int .i64 2])) ∧ ∃ q, w' = w.drewN q
def NumRel (w : World) (l : List UInt8) (acc i : Value) (W : World) : Prop := ∃ q a : Nat, i = .int .i64 q ∧ q ≤ 6 ∧ acc = .int .i64 a ∧ a < 128 ^ q ∧ numD (6 - q) q a (l.drop q) = numR l ∧ W = w
/-- the rest of bytes, as the walk spells it -/
theorem Byt.tail {w : World} {B n c b off : Nat} {l : List UInt8} (h : Byt w B (some ⟨b, off, none⟩) n c l) (k : Nat) (hk : k ≤ n) : Byt w B (if c = k then some ⟨b, off, none⟩ else some ⟨b, off + k, none⟩) (n - k) (c - k) (l.drop k) := by
  have hcut := h.cut k (n - k) (by omega)
  have hl := h.len
  have : (l.drop k).take (n - k) = l.drop k := List.take_of_length_le (by simp; omega)
  rw [this] at hcut
  split
  · rename_i hc
    have hcap := h.cap
    have : n - k = 0 := by omega
    have h0 : l.drop k = [] := List.drop_of_length_le (by omega)
    rw [this, h0]
    exact Byt.nil w B _ _ (by have := h.max; omega)
  · exact hcut
set_option maxRecDepth 100000 in
set_option maxHeartbeats 4000000 in
theorem numb_any (w : World) (B : Nat) (A : Option Addr) (n k : Nat) (l : List UInt8) (h : Byt w B A n k l) (hn : n ≤ 1000000000) :
    Calls Tryz.prog 71 #[.slice A n k] w (NrPost w B l) := by
  have HB := Lib.hid h
  have hlen := h.len
  have hcap := h.cap
  have hmax := h.max
  unfold maxLen at hmax
  have HST := Lib.hid (show NumRel w l (.int .i64 0) (.int .i64 0) w from ⟨0, 0, rfl, by omega, rfl, by simp, rfl, rfl⟩)
  have HTN := Lib.hid (show ∀ W q, numR l = .torn → W = w.drewN q → NrPost w B l (.returned (.tuple #[.int .i64 0, .slice none 0 0, .int .i64 3])) W from fun W q h1 h2 => by unfold NrPost; rw [h1]; exact ⟨rfl, q, h2⟩)
  have HFM := Lib.hid (show ∀ W q, numR l = .form → W = w.drewN q → NrPost w B l (.returned (.tuple #[.int .i64 0, .slice none 0 0, .int .i64 2])) W from fun W q h1 h2 => by unfold NrPost; rw [h1]; exact ⟨rfl, q, h2⟩)
  have HOK := Lib.hid (show ∀ W q (v : Nat) (z : Int) r A n c, z = v → numR l = .ok v r → Byt w B A n c r → W = w.drewN q → NrPost w B l (.returned (.tuple #[.int .i64 z, .slice A n c, .int .i64 0])) W from fun W q v z r A n c h0 h1 h2 h3 => by subst h0; unfold NrPost; rw [h1]; exact ⟨⟨_, _, _, rfl, h2⟩, q, h3⟩)
  have HLEN := Lib.hid hlen
  clear h hlen
  go_enter Tryz.func71, Tryz.ntmps71
  go_wp2
  go_loopw [5, 6, 7, 8] (fun acc _ _ i W => NumRel w l acc i W) (fun _ _ _ i _ => 6 - (intOf i).toNat)
  case atStart => exact HST.out
  case round =>
    obtain ⟨q, a, rfl, hq, rfl, ha, hR, hW⟩ := hrel
    subst hW
    by_cases hq6 : q < 6
    · by_cases hql : q < n
      · obtain ⟨b, off, rfl, hb, hc⟩ := HB.out.cell (by omega)
        have hqL : q < l.length := by rw [HLEN.out]; exact hql
        have hcq := hc q hqL
        have hbyt := HB.out.tail (q + 1) (by omega)
        have HT := Lib.hid hbyt
        have hdr : l.drop q = l[q] :: l.drop (q + 1) := List.drop_eq_getElem_cons hqL
        obtain ⟨f, hf⟩ : ∃ f, 6 - q = f + 1 := ⟨5 - q, by omega⟩
        rw [hdr, hf] at hR
        simp only [numD] at hR
        have hx256 := (l[q]).toNat_lt
        generalize l[q].toNat = x at *
        have HA := Lib.hid (and127b x hx256)
        have hp7 : 128 ^ q = 2 ^ (7 * q) := by rw [Nat.pow_mul]
        have HOR := Lib.hid (show ∀ m : Nat, m < 128 → bits .or .i64 (a : Int) ((m * 128 ^ q : Nat) : Int) = ((a + m * 128 ^ q : Nat) : Int) from fun m hm => by
          have h1 : m * 128 ^ q ≤ 128 * 128 ^ 5 := Nat.mul_le_mul (by omega) (Nat.pow_le_pow_right (by omega) (by omega))
          have h2 : 128 ^ q ≤ 128 ^ 5 := Nat.pow_le_pow_right (by omega) (by omega)
          rw [i64_or_nat _ _ (by omega) (by omega)]
          rw [hp7] at ha ⊢
          rw [or_shift _ _ _ ha])
        clear hdr hc hbyt hp7
        by_cases hz : x = 0 ∧ 0 < q
        · rw [if_pos hz] at hR
          obtain ⟨rfl, hq0⟩ := hz
          have HF := Lib.hid (HFM.out wr 0 hR.symm rfl)
          have t1 : (0 : Int) < q := by omega
          clear hR HST HT HA HOR ha
          go_wp2
          go_ret3
          exact HF.out
        · rw [if_neg hz] at hR
          by_cases hlo : x < 128
          · rw [if_pos hlo] at hR
            have HR := Lib.hid hR.symm
            have HO := Lib.hid (HOR.out x hlo)
            rw [Nat.mod_eq_of_lt hlo] at HA
            have hw : ∀ z : Nat, z < 4611686018427387904 → wrap64 (z : Int) = z := fun z hz => by unfold wrap64; omega
            have HW := Lib.hid hw
            have hp5 : a + x * 128 ^ q < 4611686018427387904 := by
              have h1 : x * 128 ^ q ≤ 128 * 128 ^ 5 := Nat.mul_le_mul (by omega) (Nat.pow_le_pow_right (by omega) (by omega))
              have h2 : 128 ^ q ≤ 128 ^ 5 := Nat.pow_le_pow_right (by omega) (by omega)
              omega
            have HP5 := Lib.hid hp5
            have hqs : q = 0 ∨ q = 1 ∨ q = 2 ∨ q = 3 ∨ q = 4 ∨ q = 5 := by omega
            have hzq : x = 0 → q = 0 := fun h => by omega
            clear hR HOR HST hz hw hp5
            rcases Classical.em (k = q + 1) with hk | hk
            all_goals
              first | rw [if_pos hk, show k - (q + 1) = 0 by omega] at HT | rw [if_neg hk] at HT
              rcases hqs with rfl | rfl | rfl | rfl | rfl | rfl
            all_goals
              simp only [Nat.reducePow, Nat.reduceAdd, Nat.add_zero, Nat.mul_one, Nat.zero_add] at ha HO HT HP5 HR hcq hk
              by_cases hx0 : x = 0
              · first
                  | exact absurd (hzq hx0) (by decide)
                  | (subst hx0
                     go_wp2
                     go_quiet (fail)
                     go_wp2
                     go_ret3
                     refine HOK.out _ _ _ _ _ _ _ _ ?_ HR.out HT.out rfl
                     have HA0 := HA.out
                     have HO0 := HO.out
                     have hw0 : wrap64 0 = 0 := by unfold wrap64; omega
                     simp only [Int.natCast_zero, Nat.add_zero] at HA0 HO0 ⊢
                     show bits BinOp.or IntKind.i64 (a : Int) (wrap64 (wrap64 (bits BinOp.and IntKind.u8 0 127))) = _
                     rw [HA0, hw0, hw0]
                     exact HO0)
              · have t2 : ((x : Int) == 0) = false := by simp; omega
                have t3 : (x : Int) < 128 := by omega
                go_wp2
                go_quiet (fail)
                go_wp2
                go_ret3
                refine HOK.out _ _ _ _ _ _ _ _ ?_ HR.out HT.out rfl
                first
                  | (show bits BinOp.or IntKind.i64 (a : Int) (wrap64 (wrap64 (bits BinOp.and IntKind.u8 (x : Int) 127))) = _
                     rw [HA.out, HW.out x (by omega), HW.out x (by omega)]; exact HO.out)
                  | (show bits BinOp.or IntKind.i64 (a : Int) (wrap64 (wrap64 (bits BinOp.and IntKind.u8 (x : Int) 127) * 128)) = _
                     rw [HA.out, HW.out x (by omega), show ((x : Int) * 128) = ((x * 128 : Nat) : Int) by omega, HW.out _ (by omega)]; exact HO.out)
                  | (show bits BinOp.or IntKind.i64 (a : Int) (wrap64 (wrap64 (bits BinOp.and IntKind.u8 (x : Int) 127) * 16384)) = _
                     rw [HA.out, HW.out x (by omega), show ((x : Int) * 16384) = ((x * 16384 : Nat) : Int) by omega, HW.out _ (by omega)]; exact HO.out)
                  | (show bits BinOp.or IntKind.i64 (a : Int) (wrap64 (wrap64 (bits BinOp.and IntKind.u8 (x : Int) 127) * 2097152)) = _
                     rw [HA.out, HW.out x (by omega), show ((x : Int) * 2097152) = ((x * 2097152 : Nat) : Int) by omega, HW.out _ (by omega)]; exact HO.out)
                  | (show bits BinOp.or IntKind.i64 (a : Int) (wrap64 (wrap64 (bits BinOp.and IntKind.u8 (x : Int) 127) * 268435456)) = _
                     rw [HA.out, HW.out x (by omega), show ((x : Int) * 268435456) = ((x * 268435456 : Nat) : Int) by omega, HW.out _ (by omega)]; exact HO.out)
                  | (show bits BinOp.or IntKind.i64 (a : Int) (wrap64 (wrap64 (bits BinOp.and IntKind.u8 (x : Int) 127) * 34359738368)) = _
                     rw [HA.out, HW.out x (by omega), show ((x : Int) * 34359738368) = ((x * 34359738368 : Nat) : Int) by omega, HW.out _ (by omega)]; exact HO.out)
          · rw [if_neg hlo] at hR
            have HO := Lib.hid (HOR.out (x % 128) (Nat.mod_lt _ (by omega)))
            have hlt : x % 128 < 128 := Nat.mod_lt _ (by omega)
            have hf2 : 6 - (q + 1) = f := by omega
            have hb2 : a + x % 128 * 128 ^ q < 128 ^ (q + 1) := by
              rw [Nat.pow_succ]
              have : x % 128 * 128 ^ q ≤ 127 * 128 ^ q := Nat.mul_le_mul_right _ (by omega)
              omega
            have HREL := Lib.hid (show ∀ z : Int, z = ((a + x % 128 * 128 ^ q : Nat) : Int) → NumRel wr l (.int .i64 z) (.int .i64 ((q : Int) + 1)) wr from fun z hz => ⟨q + 1, _, rfl, by omega, by rw [hz], hb2, by rw [hf2]; exact hR, rfl⟩)
            have HW := Lib.hid (show ∀ z : Nat, z < 4611686018427387904 → wrap64 (z : Int) = z from fun z hz => by unfold wrap64; omega)
            have hqs : q = 0 ∨ q = 1 ∨ q = 2 ∨ q = 3 ∨ q = 4 ∨ q = 5 := by omega
            clear hR HOR HST hz hf2 hb2 HT hf
            generalize hm : x % 128 = m at *
            have HMM := Lib.hid hm
            clear hm
            have t2 : ((x : Int) == 0) = false := by simp; omega
            have t3 : ¬ (x : Int) < 128 := by omega
            rcases hqs with rfl | rfl | rfl | rfl | rfl | rfl
            all_goals
              simp only [Nat.reducePow, Nat.add_zero, Nat.mul_one] at ha HO hcq HREL
              go_wp2
              refine ⟨HREL.out _ ?_, by simp [intOf]⟩
              first
                | (show bits BinOp.or IntKind.i64 (a : Int) (wrap64 (wrap64 (bits BinOp.and IntKind.u8 (x : Int) 127))) = _
                   rw [HA.out, HW.out m (by omega), HW.out m (by omega)]; exact HO.out)
                | (show bits BinOp.or IntKind.i64 (a : Int) (wrap64 (wrap64 (bits BinOp.and IntKind.u8 (x : Int) 127) * 128)) = _
                   rw [HA.out, HW.out m (by omega), show ((m : Int) * 128) = ((m * 128 : Nat) : Int) by omega, HW.out _ (by omega)]; exact HO.out)
                | (show bits BinOp.or IntKind.i64 (a : Int) (wrap64 (wrap64 (bits BinOp.and IntKind.u8 (x : Int) 127) * 16384)) = _
                   rw [HA.out, HW.out m (by omega), show ((m : Int) * 16384) = ((m * 16384 : Nat) : Int) by omega, HW.out _ (by omega)]; exact HO.out)
                | (show bits BinOp.or IntKind.i64 (a : Int) (wrap64 (wrap64 (bits BinOp.and IntKind.u8 (x : Int) 127) * 2097152)) = _
                   rw [HA.out, HW.out m (by omega), show ((m : Int) * 2097152) = ((m * 2097152 : Nat) : Int) by omega, HW.out _ (by omega)]; exact HO.out)
                | (show bits BinOp.or IntKind.i64 (a : Int) (wrap64 (wrap64 (bits BinOp.and IntKind.u8 (x : Int) 127) * 268435456)) = _
                   rw [HA.out, HW.out m (by omega), show ((m : Int) * 268435456) = ((m * 268435456 : Nat) : Int) by omega, HW.out _ (by omega)]; exact HO.out)
                | (show bits BinOp.or IntKind.i64 (a : Int) (wrap64 (wrap64 (bits BinOp.and IntKind.u8 (x : Int) 127) * 34359738368)) = _
                   rw [HA.out, HW.out m (by omega), show ((m : Int) * 34359738368) = ((m * 34359738368 : Nat) : Int) by omega, HW.out _ (by omega)]; exact HO.out)
      · have hqn : q ≥ l.length := by rw [HLEN.out]; omega
        rw [List.drop_of_length_le hqn] at hR
        obtain ⟨f, hf⟩ : ∃ f, 6 - q = f + 1 := ⟨5 - q, by omega⟩
        rw [hf] at hR
        simp only [numD] at hR
        have HF := Lib.hid (HTN.out wr 0 hR.symm rfl)
        have t1 : (n : Int) ≤ q := by omega
        clear hR HST ha hf
        go_wp2
        go_ret3
        exact HF.out
    · have hq6' : q = 6 := by omega
      subst hq6'
      simp only [numD, Nat.sub_self] at hR
      have HF := Lib.hid (HFM.out wr 0 hR.symm rfl)
      clear hR HST ha
      go_wp2
      go_ret3
      exact HF.out
end Go.Proofs.YtdjoaboalknlkaaGreatDoor
