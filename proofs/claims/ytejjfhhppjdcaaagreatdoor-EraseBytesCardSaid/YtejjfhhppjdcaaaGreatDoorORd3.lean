/-
  Layer 2: a reader goes through bytes.
  Layer 2: a reader's number.
  Layer 2: event.Decode, at an event's own bytes.
-/
import Derived.Test.YtejjfhhppjdcaaaGreatDoorODkOk
import Derived.Test.YtejjfhhppjdcaaaGreatDoorOEvEnc2
import Derived.RegionTactic
import Derived.Deep.RegionHeld3
import Derived.StillTailTactics
import Derived.Deep.DeepCutAuto
import Derived.Test.YtejjfhhppjdcaaaGreatDoorOBytes
import Derived.Test.YtejjfhhppjdcaaaGreatDoorOEvMay
namespace Go.Proofs.YtejjfhhppjdcaaaGreatDoor
open Go.RowKit Go.Maps Go.Sort

abbrev rdObj (A : Option Addr) (n c k : Nat) : Obj := .cells #[.slice A n c, .int .i64 k, .int .i64 0] 142
/-- block b is a reader of the bytes l, k of which are read -/
structure RdIn (W : World) (b : Nat) (A : Option Addr) (n c : Nat) (l : List UInt8) (k : Nat) : Prop where
  blk : W.heap[b]? = some (rdObj A n c k)
  row : Byt W b A n c l
  le : k ≤ n
  num : n ≤ 1000000
def RdrPost (W : World) (b : Nat) (A : Option Addr) (n c : Nat) (l : List UInt8) (k : Nat) (v : Value) (e : Ending) (W' : World) : Prop := e = .returned v ∧ RdIn W' b A n c l k ∧ Keep (fun q => q = b) W W'
section
variable {W W' : World} {b n c k : Nat} {A : Option Addr} {l : List UInt8}
theorem RdIn.lt (h : RdIn W b A n c l k) : b < W.heap.size := by
  have := h.blk
  exact (Array.getElem?_eq_some_iff.1 this).1
theorem RdIn.cells (h : RdIn W b A n c l k) : W.cell? ⟨b, 0, none⟩ = some (.slice A n c) ∧ W.cell? ⟨b, 1, none⟩ = some (.int .i64 k) ∧ W.cell? ⟨b, 2, none⟩ = some (.int .i64 0) ∧ W.frozen? ⟨b, 1, none⟩ = false :=
  ⟨cell_of_row W b 0 _ _ (0, 0) h.blk, cell_of_row W b 1 _ _ (0, 0) h.blk, cell_of_row W b 2 _ _ (0, 0) h.blk, frozen_of_row W b 1 _ _ h.blk⟩
theorem RdIn.up (h : RdIn W b A n c l k) (hb : RowKit.Below W.heap.size W W') : RdIn W' b A n c l k := by
  have := h.lt
  exact ⟨(hb.block b this).trans h.blk, h.row.below (hb.mono (by omega)), h.le, h.num⟩
theorem RdIn.set (h : RdIn W b A n c l k) {k' : Nat} (hk : k' ≤ n) : RdIn (W.setCell ⟨b, 1, none⟩ (.int .i64 k')) b A n c l k' :=
  ⟨heap_set_row h.blk, h.row.setCell (Nat.le_refl _) _, hk, h.num⟩
theorem RdIn.post (h : RdIn W b A n c l k) {k' : Nat} (hk : k' ≤ n) (s q : Nat) (v : Value) : RdrPost W b A n c l k' v (.returned v) (((W.drewN s).setCell ⟨b, 1, none⟩ (.int .i64 k')).drewN q) :=
  ⟨rfl, ((h.up (below_drewN (Below.refl _ _) s)).set hk).up (below_drewN (Below.refl _ _) q), (((Keep.refl (fun q => q = b) W).drewN s).setCell (p := ⟨b, 1, none⟩) (fun _ => rfl) _).drewN q⟩
theorem RdIn.cell (h : RdIn W b A n c l k) {i : Nat} (hi : i < n) : ∃ d off, A = some ⟨d, off, none⟩ ∧ d < b ∧ ∃ hl : i < l.length, W.cell? ⟨d, off + i, none⟩ = some (.int .u8 l[i].toNat) := by
  obtain ⟨d, off, e, hd, hc⟩ := h.row.cell (by omega)
  exact ⟨d, off, e, hd, by rw [h.row.len]; exact hi, hc i (by rw [h.row.len]; exact hi)⟩
end
set_option maxRecDepth 100000 in
set_option maxHeartbeats 2000000 in
theorem rdone_any (W : World) (b : Nat) (A : Option Addr) (n c : Nat) (l : List UInt8) (k : Nat) (h : RdIn W b A n c l k) (x : UInt8) (hx : l[k]? = some x) :
    Calls Tryz.prog 94 #[.pointer (some ⟨b, 0, none⟩)] W (RdrPost W b A n c l (k + 1) (.int .u8 x.toNat)) := by
  have hlen := h.row.len
  have hkl : k < l.length := (List.getElem?_eq_some_iff.1 hx).1
  have hk : k < n := by omega
  obtain ⟨d, off, rfl, hd, hl, hc⟩ := h.cell hk
  have hxe : l[k] = x := (List.getElem?_eq_some_iff.1 hx).2
  rw [hxe] at hc
  have hcap := h.row.cap
  have hmax := h.row.max
  have hnum := h.num
  have HI := Lib.hid h
  obtain ⟨c0, c1, c2, z1⟩ := h.cells
  have HFIN := Lib.hid (fun s q => h.post (k' := k + 1) (by omega) s q (.int .u8 x.toNat))
  have d0 : (W.drew.setCell ⟨b, 1, none⟩ (.int .i64 ((k : Int) + 1))).cell? ⟨b, 0, none⟩ = some (.slice (some ⟨d, off, none⟩) n c) := cell_of_row _ _ 0 _ _ (0, 0) (heap_set_row (w := W.drew) h.blk)
  have d1 : (W.drew.setCell ⟨b, 1, none⟩ (.int .i64 ((k : Int) + 1))).cell? ⟨b, 1, none⟩ = some (.int .i64 ((k : Int) + 1)) := cell_of_row _ _ 1 _ _ (0, 0) (heap_set_row (w := W.drew) h.blk)
  have d2 : (W.drew.setCell ⟨b, 1, none⟩ (.int .i64 ((k : Int) + 1))).cell? ⟨d, off + k, none⟩ = some (.int .u8 x.toNat) := by
    rw [World.cell?_setCell_other _ _ _ _ (by intro e; injection e; omega)]; exact hc
  clear hx hxe
  go_enter Tryz.func94, Tryz.ntmps94
  go_wp2
  go_quiet (fail)
  go_wp2
  go_quiet (fail)
  go_wp2
  go_ret
  exact HFIN.out _ _
theorem RdIn.nth {W : World} {b n c k : Nat} {A : Option Addr} {l r : List UInt8} {x : UInt8} (_h : RdIn W b A n c l k) (hl : l.drop k = x :: r) : l[k]? = some x := by
  have : (l.drop k)[0]? = some x := by rw [hl]; rfl
  simpa using this
set_option maxRecDepth 100000 in
set_option maxHeartbeats 2000000 in
theorem rdtext_any (W : World) (b : Nat) (A : Option Addr) (n c : Nat) (l : List UInt8) (k : Nat) (h : RdIn W b A n c l k) (s r : List UInt8) (hl : l.drop k = textB s ++ r) (hs : s.length < 256) :
    Calls Tryz.prog 95 #[.pointer (some ⟨b, 0, none⟩)] W (RdrPost W b A n c l (k + (textB s).length) (.string ⟨s.toArray⟩)) := by
  have hx := h.nth hl
  have hz : (UInt8.ofNat s.length).toNat = s.length := by simp; omega
  have hlen := h.row.len
  have hll : (l.drop k).length = 1 + s.length + r.length := by rw [hl]; simp [textB]; omega
  rw [List.length_drop, hlen] at hll
  have htk : (l.drop (k + 1)).take s.length = s := by
    rw [← List.drop_drop, hl]; simp [textB]
  have hle := h.le
  have hnum := h.num
  have HC := Lib.hid (rdone_any W b A n c l k h _ hx)
  rw [hz] at HC
  have htl : (textB s).length = s.length + 1 := rfl
  obtain ⟨z, hzz⟩ : ∃ z, z = s.length := ⟨_, rfl⟩
  rw [htl, ← hzz]
  rw [← hzz] at HC hll htk
  clear hl hx hz h htl
  obtain ⟨A', rfl⟩ : ∃ A', A = A' := ⟨_, rfl⟩
  go_enter Tryz.func95, Tryz.ntmps95
  go_wp2_with fail
  refine HC.out.mono ?_
  rintro e W1 ⟨rfl, h1, hk1⟩
  obtain ⟨d, off, rfl, hd, hc0, hcc⟩ : ∃ d off, A = some ⟨d, off, none⟩ ∧ d < b ∧ ∃ hl : 0 < l.length, W1.cell? ⟨d, off + 0, none⟩ = some (.int .u8 l[0].toNat) := h1.cell (by omega)
  have hcap := h1.row.cap
  have hmax := h1.row.max
  obtain ⟨c0, c1, c2, z1⟩ := h1.cells
  have HFIN := Lib.hid (show ∀ s1 q, RdrPost W b (some ⟨d, off, none⟩) n c l (k + (z + 1)) (.string ⟨s.toArray⟩) (.returned (.string ⟨s.toArray⟩)) (((W1.drewN s1).setCell ⟨b, 1, none⟩ (.int .i64 ((k + 1 + z : Nat) : Int))).drewN q) from fun s1 q => by
    obtain ⟨_, a2, a3⟩ := h1.post (k' := k + 1 + z) (by omega) s1 q (.string ⟨s.toArray⟩)
    exact ⟨rfl, by rw [show k + (z + 1) = k + 1 + z by omega]; exact a2, hk1.trans a3 (fun _ _ h => h)⟩)
  have hcz : ((k + 1 : Nat) : Int) = (k : Int) + 1 := by omega
  have hcz2 : ((k + 1 + z : Nat) : Int) = (k : Int) + 1 + z := by omega
  have H1 := Lib.hid h1
  have HTK := Lib.hid htk
  rw [hcz] at c1
  rw [hcz2] at HFIN
  clear hc0 hcc hk1 hzz h1 htk
  go_wp2
  go_quiet (fail)
  rename_i nq
  go_upto_region 8 with fail
  have HB := Lib.hid (show (((W1.drewN nq).setCell ⟨b, 1, none⟩ (.int .i64 ((k : Int) + 1 + z)))).heap[b]? = some (.cells #[.slice (some ⟨d, off, none⟩) n c, .int .i64 ((k : Int) + 1 + z), .int .i64 0] 142) from heap_set_row (w := W1.drewN nq) H1.out.blk)
  have HR := Lib.hid (show Byt ((W1.drewN nq).setCell ⟨b, 1, none⟩ (.int .i64 ((k : Int) + 1 + z))) b (some ⟨d, off, none⟩) n c l from (H1.out.row.drewN nq).setCell (p := ⟨b, 1, none⟩) (Nat.le_refl _) _)
  have HF := Lib.hid (HFIN.out nq 1)
  clear c0 c1 c2 z1 HFIN
  obtain ⟨w2, hw2⟩ : ∃ w2, w2 = (W1.drewN nq).setCell ⟨b, 1, none⟩ (.int .i64 ((k : Int) + 1 + z)) := ⟨_, rfl⟩
  rw [← hw2] at HB HR HF ⊢
  clear hw2
  have d0 : w2.cell? ⟨b, 0, none⟩ = some (.slice (some ⟨d, off, none⟩) n c) := cell_of_row _ _ 0 _ _ (0, 0) HB.out
  have d1 : w2.cell? ⟨b, 1, none⟩ = some (.int .i64 ((k : Int) + 1 + z)) := cell_of_row _ _ 1 _ _ (0, 0) HB.out
  have hcut := HR.out.cut (k + 1) z (by omega)
  rw [HTK.out] at hcut
  have hst := (hcut.drewN 1).str (P := Tryz.prog) 41 5 9 Tryz.underlying41 Tryz.underlying5 Tryz.underlying9
  clear hcut
  go_still_tail 14, (by kernel_rfl)
  change wpList _ _ _ _ _ (w2.drewN 1)
  clear d0 d1
  generalize w2.drewN 1 = w3 at *
  by_cases hck : c = k + 1
  · obtain rfl : z = 0 := by omega
    have hs0 : s = [] := by rw [← HTK.out]; simp
    subst hs0
    have hst0 := (Byt.nil w3 b (some ⟨d, off, none⟩) 0 (Nat.zero_le _)).str (P := Tryz.prog) 41 5 9 Tryz.underlying41 Tryz.underlying5 Tryz.underlying9
    subst hck
    clear hst
    go_wp2
    go_ret
    exact HF.out
  · go_wp2
    go_ret
    exact HF.out
end Go.Proofs.YtejjfhhppjdcaaaGreatDoor
namespace Go.Proofs.YtejjfhhppjdcaaaGreatDoor
open Go.RowKit Go.Maps Go.Sort

theorem or_shift (a m i : Nat) (h : a < 2 ^ i) : a ||| m * 2 ^ i = a + m * 2 ^ i := by
  have := Nat.shiftLeft_add_eq_or_of_lt h m
  rw [Nat.shiftLeft_eq] at this
  rw [Nat.or_comm, ← this, Nat.add_comm]
theorem and127b (x : Nat) (h : x < 256) : bits .and .u8 (x : Int) 127 = ((x % 128 : Nat) : Int) := by
  show IntKind.u8.wrap ((BitVec.ofInt 8 (x : Int) &&& BitVec.ofInt 8 ((127 : Nat) : Int)).toNat : Int) = _
  have e : (BitVec.ofInt 8 (x : Int) &&& BitVec.ofInt 8 ((127 : Nat) : Int)).toNat = x % 128 := by
    rw [BitVec.toNat_and, BitVec.ofInt_natCast, BitVec.ofInt_natCast, BitVec.toNat_ofNat, BitVec.toNat_ofNat, Nat.mod_eq_of_lt (by omega : x < 2 ^ 8)]
    exact Nat.and_two_pow_sub_one_eq_mod x 7
  rw [e]
  simp [IntKind.wrap, IntKind.bits, IntKind.signed]; omega
theorem mod_step (N P : Nat) : N % (P * 128) = N % P + N / P % 128 * P := by
  rw [Nat.mod_mul, Nat.mul_comm]
def NbRel (W : World) (b : Nat) (A : Option Addr) (n c : Nat) (l r : List UInt8) (k N : Nat) (acc i : Value) (W' : World) : Prop :=
  ∃ q : Nat, i = .int .i64 q ∧ q ≤ 5 ∧ acc = .int .i64 ((N % 128 ^ q : Nat) : Int) ∧ RdIn W' b A n c l (k + q) ∧ l.drop (k + q) = numB (N / 128 ^ q) ++ r ∧ (0 < q → 0 < N / 128 ^ q) ∧ (numB N).length = q + (numB (N / 128 ^ q)).length ∧ Keep (fun z => z = b) W W'
set_option maxRecDepth 100000 in
set_option maxHeartbeats 4000000 in
theorem rdnumber_any (W : World) (b : Nat) (A : Option Addr) (n c : Nat) (l : List UInt8) (k : Nat) (h : RdIn W b A n c l k) (N : Nat) (r : List UInt8) (hl : l.drop k = numB N ++ r) (hN : N < 4398046511104) :
    Calls Tryz.prog 96 #[.pointer (some ⟨b, 0, none⟩)] W (RdrPost W b A n c l (k + (numB N).length) (.int .i64 N)) := by
  have HST := Lib.hid (show NbRel W b A n c l r k N (.int .i64 0) (.int .i64 0) W from ⟨0, rfl, by omega, by simp [Nat.mod_one], h, by simpa using hl, fun h => absurd h (by omega), by simp, Keep.refl _ _⟩)
  clear h hl
  go_enter Tryz.func96, Tryz.ntmps96
  go_wp2
  go_loopw [3, 4, 5, 6] (fun acc _ _ i W' => NbRel W b A n c l r k N acc i W') (fun _ _ _ i _ => 6 - (intOf i).toNat)
  case atStart => exact HST.out
  case round =>
    obtain ⟨q, rfl, hq5, rfl, hrd, hdr, hpos, hlen, hkp⟩ := hrel
    have HRD := Lib.hid hrd; have HKP := Lib.hid hkp; have HLEN := Lib.hid hlen
    have ha : N % 128 ^ q < 128 ^ q := Nat.mod_lt _ (Nat.pow_pos (by omega))
    have hm : N / 128 ^ q < 128 ^ (6 - q) := by
      refine (Nat.div_lt_iff_lt_mul (Nat.pow_pos (by omega))).2 ?_
      rw [← Nat.pow_add, show 6 - q + q = 6 by omega]; exact hN
    have HST2 := Lib.hid (mod_step N (128 ^ q))
    have HDD := Lib.hid (show N / 128 ^ (q + 1) = N / 128 ^ q / 128 by rw [Nat.pow_succ, Nat.div_div_eq_div_mul])
    have HAD := Lib.hid (show N % 128 ^ q + N / 128 ^ q * 128 ^ q = N by rw [Nat.mul_comm]; exact Nat.mod_add_div N (128 ^ q))
    have HPO := Lib.hid hpos
    clear hrd hkp hlen hpos
    have hp7 : 128 ^ q = 2 ^ (7 * q) := by rw [Nat.pow_mul]
    have HOR := Lib.hid (show ∀ x : Nat, x < 128 → bits .or .i64 ((N % 128 ^ q : Nat) : Int) ((x * 128 ^ q : Nat) : Int) = ((N % 128 ^ q + x * 128 ^ q : Nat) : Int) from fun x hx => by
      have h1 : x * 128 ^ q ≤ 128 * 128 ^ 5 := Nat.mul_le_mul (by omega) (Nat.pow_le_pow_right (by omega) hq5)
      have h2 : 128 ^ q ≤ 128 ^ 5 := Nat.pow_le_pow_right (by omega) hq5
      rw [i64_or_nat _ _ (by omega) (by omega)]
      rw [hp7] at ha ⊢
      rw [or_shift _ _ _ ha])
    by_cases hlo : N / 128 ^ q < 128
    · have hdl := hdr
      rw [numB_lo hlo] at hdl
      have HC := Lib.hid (rdone_any wr b A n c l (k + q) HRD.out _ (HRD.out.nth hdl))
      have HF := Lib.hid (show ∀ w1 v, v = .int .i64 (N : Int) → RdIn w1 b A n c l (k + q + 1) → Keep (fun z => z = b) wr w1 → RdrPost W b A n c l (k + (numB N).length) (.int .i64 N) (.returned v) w1 from fun w1 v hv h1 hk1 => by
        refine ⟨by rw [hv], ?_, HKP.out.trans hk1 (fun _ _ h => h)⟩
        rw [HLEN.out, numB_lo hlo]; exact h1)
      have hx : (UInt8.ofNat (N / 128 ^ q)).toNat = N / 128 ^ q := by simp; omega
      rw [hx] at HC
      have HO := Lib.hid (HOR.out _ hlo)
      rw [HAD.out] at HO
      have HA := Lib.hid (and127b (N / 128 ^ q) (by omega))
      rw [Nat.mod_eq_of_lt hlo] at HA
      clear hdl hdr hx hp7 HOR HST2 HDD HAD HLEN HKP HRD
      have hqs : q = 0 ∨ q = 1 ∨ q = 2 ∨ q = 3 ∨ q = 4 ∨ q = 5 := by omega
      generalize N / 128 ^ q = m at *
      generalize N % 128 ^ q = a0 at *
      rcases hqs with rfl | rfl | rfl | rfl | rfl | rfl
      all_goals
        simp only [Nat.reducePow, Nat.reduceSub] at hm ha HO HPO
        go_wp2_with fail
        refine HC.out.mono ?_
        rintro e w1 ⟨rfl, h1, hk1⟩
        obtain ⟨c0, c1, c2, z1⟩ := h1.cells
        have HR := Lib.hid (fun v hv => HF.out w1 v hv h1 hk1)
        clear h1 hk1
        have t1 : ¬ (128 : Int) ≤ m := by omega
        by_cases hmz : m = 0
        · first
            | exact absurd hmz (Nat.ne_of_gt (HPO.out (by decide)))
            | (subst hmz
               go_wp2
               go_ret
               refine HR.out _ (congrArg (Value.int .i64) ?_)
               have HA0 := HA.out
               have HO0 := HO.out
               simp only [Nat.zero_mul, Int.natCast_zero] at HA0 HO0
               have hw0 : wrap64 0 = 0 := by unfold wrap64; omega
               rw [HA0, hw0, hw0]
               exact HO0)
        · have t2 : ((m : Int) == 0) = false := by simp; omega
          go_wp2
          go_ret
          refine HR.out _ (congrArg (Value.int .i64) ?_)
          have hw : ∀ x : Nat, x < 4611686018427387904 → wrap64 (x : Int) = x := fun x hx => by unfold wrap64; omega
          rw [HA.out, hw m (by omega)]
          first
            | (rw [hw m (by omega)]; rw [Nat.mul_one] at HO; exact HO.out)
            | (rw [show ((m : Int) * 128) = ((m * 128 : Nat) : Int) by omega, hw _ (by omega)]; exact HO.out)
            | (rw [show ((m : Int) * 16384) = ((m * 16384 : Nat) : Int) by omega, hw _ (by omega)]; exact HO.out)
            | (rw [show ((m : Int) * 2097152) = ((m * 2097152 : Nat) : Int) by omega, hw _ (by omega)]; exact HO.out)
            | (rw [show ((m : Int) * 268435456) = ((m * 268435456 : Nat) : Int) by omega, hw _ (by omega)]; exact HO.out)
            | (rw [show ((m : Int) * 34359738368) = ((m * 34359738368 : Nat) : Int) by omega, hw _ (by omega)]; exact HO.out)
    · have hN128 : 128 ≤ N / 128 ^ q := by omega
      have hq4 : q ≤ 4 := by
        rcases Nat.lt_or_ge q 5 with h5 | h5
        · omega
        · have : q = 5 := by omega
          subst this
          simp only [Nat.reducePow, Nat.reduceSub] at hm hN128; omega
      have hdl := hdr
      rw [numB_hi hlo] at hdl
      have HC := Lib.hid (rdone_any wr b A n c l (k + q) HRD.out _ (HRD.out.nth hdl))
      have hx : (UInt8.ofNat (N / 128 ^ q % 128 + 128)).toNat = N / 128 ^ q % 128 + 128 := by simp; omega
      rw [hx] at HC
      have HF := Lib.hid (show ∀ w1 v, v = .int .i64 (((N % 128 ^ q + N / 128 ^ q % 128 * 128 ^ q : Nat)) : Int) → RdIn w1 b A n c l (k + q + 1) → Keep (fun z => z = b) wr w1 → NbRel W b A n c l r k N v (.int .i64 ((q : Int) + 1)) w1 from fun w1 v hv h1 hk1 => by
        refine ⟨q + 1, rfl, by omega, by rw [hv, Nat.pow_succ, HST2.out], h1, ?_, fun _ => ?_, ?_, HKP.out.trans hk1 (fun _ _ h => h)⟩
        · rw [HDD.out, show k + (q + 1) = k + q + 1 by omega, ← List.drop_drop, hdl]; rfl
        · rw [HDD.out]; omega
        · rw [HLEN.out, numB_hi hlo, HDD.out]; simp; omega)
      have HO := Lib.hid (HOR.out (N / 128 ^ q % 128) (Nat.mod_lt _ (by omega)))
      have HA := Lib.hid (and127b (N / 128 ^ q % 128 + 128) (by omega))
      rw [show (N / 128 ^ q % 128 + 128) % 128 = N / 128 ^ q % 128 by omega] at HA
      have hlt : N / 128 ^ q % 128 < 128 := Nat.mod_lt _ (by omega)
      clear hdl hdr hx hp7 HOR HST2 HDD HAD HLEN HKP HRD hm hN128 hlo
      have hqs : q = 0 ∨ q = 1 ∨ q = 2 ∨ q = 3 ∨ q = 4 := by omega
      generalize N / 128 ^ q % 128 = m at *
      generalize N % 128 ^ q = a0 at *
      rcases hqs with rfl | rfl | rfl | rfl | rfl
      all_goals
        simp only [Nat.reducePow] at ha HO HF
        go_wp2_with fail
        refine HC.out.mono ?_
        rintro e w1 ⟨rfl, h1, hk1⟩
        obtain ⟨c0, c1, c2, z1⟩ := h1.cells
        have HR := Lib.hid (fun v hv => HF.out w1 v hv h1 hk1)
        clear h1 hk1
        have t1 : (128 : Int) ≤ ((m + 128 : Nat) : Int) := by omega
        have t2 : (((m + 128 : Nat) : Int) == 0) = false := by simp; omega
        go_wp2
        refine ⟨HR.out _ (congrArg (Value.int .i64) ?_), by simp [intOf]⟩
        have hw : ∀ x : Nat, x < 4611686018427387904 → wrap64 (x : Int) = x := fun x hx => by unfold wrap64; omega
        rw [show ((m : Int) + 128) = ((m + 128 : Nat) : Int) by omega, HA.out, hw m (by omega)]
        first
          | (rw [hw m (by omega)]; rw [Nat.mul_one] at HO; rw [Nat.mul_one]; exact HO.out)
          | (rw [show ((m : Int) * 128) = ((m * 128 : Nat) : Int) by omega, hw _ (by omega)]; exact HO.out)
          | (rw [show ((m : Int) * 16384) = ((m * 16384 : Nat) : Int) by omega, hw _ (by omega)]; exact HO.out)
          | (rw [show ((m : Int) * 2097152) = ((m * 2097152 : Nat) : Int) by omega, hw _ (by omega)]; exact HO.out)
          | (rw [show ((m : Int) * 268435456) = ((m * 268435456 : Nat) : Int) by omega, hw _ (by omega)]; exact HO.out)
end Go.Proofs.YtejjfhhppjdcaaaGreatDoor
namespace Go.Proofs.YtejjfhhppjdcaaaGreatDoor
open Go.RowKit Go.Maps Go.Sort

theorem belowSet {B : Nat} {w W : World} {p : Addr} (h : RowKit.Below B w W) (hp : B ≤ p.block) (u : Value) : RowKit.Below B w (W.setCell p u) :=
  ⟨h.os, h.tape, h.output, by have := h.size; simp [World.setCell]; omega, fun k hk => (Below.heap_setCell _ p u k (by omega)).trans (h.block k hk)⟩
theorem drop_next {l X R : List UInt8} {k : Nat} (h : l.drop k = X ++ R) : l.drop (k + X.length) = R := by
  rw [← List.drop_drop, h, List.drop_left]
abbrev evZO : Obj := .cells #[.string ⟨#[]⟩, .int .i64 0, .int .i64 0, .int .i64 0, .string ⟨#[]⟩, .string ⟨#[]⟩, .int .i64 0, .string ⟨#[]⟩] 36
abbrev rdZ (A : Option Addr) (n c : Nat) : Obj := .cells #[.slice A n c, .int .i64 0, .int .i64 0] 142
/-- Decode's boxes: the result, the reader, the event -/
structure Dc (w W : World) (A : Option Addr) (n c : Nat) (l : List UInt8) (k : Nat) (cs : Array Value) : Prop where
  rd : RdIn W (w.heap.size + 1) A n c l k
  ev : W.heap[w.heap.size + 1 + 1]? = some (.cells cs 36)
  re : W.heap[w.heap.size]? = some (evZO)
  be : RowKit.Below w.heap.size w W
section
variable {w W W' : World} {A : Option Addr} {n c k k' : Nat} {l : List UInt8} {cs : Array Value}
theorem Dc.lt (h : Dc w W A n c l k cs) : w.heap.size + 1 + 1 < W.heap.size := (Array.getElem?_eq_some_iff.1 h.ev).1
theorem Dc.call {v : Value} {e : Ending} (h : Dc w W A n c l k cs) (hp : RdrPost W (w.heap.size + 1) A n c l k' v e W') : Dc w W' A n c l k' cs := by
  have hl := h.lt
  obtain ⟨_, h1, h2⟩ := hp
  exact ⟨h1, (h2.block _ hl (by omega)).trans h.ev, (h2.block _ (by omega) (by omega)).trans h.re, h.be.trans (h2.below h.be.size (fun q hq e => by omega))⟩
theorem Dc.set (h : Dc w W A n c l k cs) (o : Nat) (u : Value) : Dc w (W.setCell ⟨w.heap.size + 1 + 1, o, none⟩ u) A n c l k (cs.setIfInBounds o u) :=
  ⟨⟨(Below.heap_setCell _ _ _ _ (by show w.heap.size + 1 ≠ w.heap.size + 1 + 1; omega)).trans h.rd.blk, h.rd.row.setCell (by show w.heap.size + 1 ≤ w.heap.size + 1 + 1; omega) _, h.rd.le, h.rd.num⟩,
    heap_set_row h.ev, (Below.heap_setCell _ _ _ _ (by show w.heap.size ≠ w.heap.size + 1 + 1; omega)).trans h.re, belowSet h.be (by show w.heap.size ≤ w.heap.size + 1 + 1; omega) u⟩
end
theorem EvIn.of_heap {W : World} {b : Nat} {e : Ev} (h : W.heap[b]? = some (evObj e)) : EvIn W b e :=
  ⟨cell_of_row W b 0 _ _ (0, 0) h, cell_of_row W b 1 _ _ (0, 0) h, cell_of_row W b 2 _ _ (0, 0) h, cell_of_row W b 3 _ _ (0, 0) h, cell_of_row W b 4 _ _ (0, 0) h, cell_of_row W b 5 _ _ (0, 0) h, cell_of_row W b 6 _ _ (0, 0) h, cell_of_row W b 7 _ _ (0, 0) h⟩
theorem ev_store {W : World} {t : Nat} (e : Ev) (h : W.heap[t]? = some evZO) : (((((((((W).setCell ⟨t, 0, none⟩ (.string ⟨e.src.toArray⟩)).setCell ⟨t, 1, none⟩ (.int .i64 e.num)).setCell ⟨t, 2, none⟩ (.int .i64 e.at_)).setCell ⟨t, 3, none⟩ (.int .i64 e.kind)).setCell ⟨t, 4, none⟩ (.string ⟨e.per.toArray⟩)).setCell ⟨t, 5, none⟩ (.string ⟨e.item.toArray⟩)).setCell ⟨t, 6, none⟩ (.int .i64 e.val)).setCell ⟨t, 7, none⟩ (.string ⟨e.text.toArray⟩)).heap[t]? = some (evObj e) := by
  have h0 := heap_set_row (o := 0) (u := .string ⟨e.src.toArray⟩) h
  have h1 := heap_set_row (o := 1) (u := .int .i64 e.num) h0
  have h2 := heap_set_row (o := 2) (u := .int .i64 e.at_) h1
  have h3 := heap_set_row (o := 3) (u := .int .i64 e.kind) h2
  have h4 := heap_set_row (o := 4) (u := .string ⟨e.per.toArray⟩) h3
  have h5 := heap_set_row (o := 5) (u := .string ⟨e.item.toArray⟩) h4
  have h6 := heap_set_row (o := 6) (u := .int .i64 e.val) h5
  have h7 := heap_set_row (o := 7) (u := .string ⟨e.text.toArray⟩) h6
  simp only [List.setIfInBounds_toArray, List.set_cons_zero, List.set_cons_succ] at h7
  exact h7
theorem ev_store_below {w W : World} (e : Ev) (h : RowKit.Below w.heap.size w W) : RowKit.Below w.heap.size w (((((((((W).setCell ⟨w.heap.size, 0, none⟩ (.string ⟨e.src.toArray⟩)).setCell ⟨w.heap.size, 1, none⟩ (.int .i64 e.num)).setCell ⟨w.heap.size, 2, none⟩ (.int .i64 e.at_)).setCell ⟨w.heap.size, 3, none⟩ (.int .i64 e.kind)).setCell ⟨w.heap.size, 4, none⟩ (.string ⟨e.per.toArray⟩)).setCell ⟨w.heap.size, 5, none⟩ (.string ⟨e.item.toArray⟩)).setCell ⟨w.heap.size, 6, none⟩ (.int .i64 e.val)).setCell ⟨w.heap.size, 7, none⟩ (.string ⟨e.text.toArray⟩)) := by
  have key : ∀ {W : World} (o : Nat) (u : Value), RowKit.Below w.heap.size w W → RowKit.Below w.heap.size w (W.setCell ⟨w.heap.size, o, none⟩ u) := fun o u h => belowSet h (p := ⟨w.heap.size, o, none⟩) (Nat.le_refl _) u
  exact key _ _ (key _ _ (key _ _ (key _ _ (key _ _ (key _ _ (key _ _ (key _ _ (h))))))))
def DecPost (w : World) (e : Ev) (n : Nat) (r : Ending) (w' : World) : Prop := r = .returned (.tuple #[e.agg, .int .i64 n, .int .i64 0]) ∧ RowKit.Below w.heap.size w w'
set_option maxRecDepth 100000 in
set_option maxHeartbeats 4000000 in
theorem evdec_any (w : World) (A : Option Addr) (n c : Nat) (e : Ev) (hb : Byt w w.heap.size A n c (encE e)) (hm : mayB e = true) (hmx : MaxAt w) :
    Calls Tryz.prog 57 #[.slice A n c] w (DecPost w e n) := by
  have hf := mayB_fit hm
  have hlen := hf.len
  have hsm := hf.small
  obtain ⟨a1, a2, a3, a4, a5, a6, a7, a8, a9, a10, a11, a12⟩ := hf
  have hnl : (encE e).length = n := hb.len
  obtain ⟨l, hl⟩ : ∃ l, l = encE e := ⟨_, rfl⟩
  rw [← hl] at hb hlen hnl
  have D0 : l.drop 0 = UInt8.ofNat e.kind.toNat :: (textB e.src ++ (numB e.num.toNat ++ (numB e.at_.toNat ++ (textB e.per ++ (textB e.item ++ (numB e.val.toNat ++ (textB e.text ++ []))))))) := by
    rw [hl]; unfold encE; simp
  have D1 : l.drop (0 + 1) = textB e.src ++ (numB e.num.toNat ++ (numB e.at_.toNat ++ (textB e.per ++ (textB e.item ++ (numB e.val.toNat ++ (textB e.text ++ [])))))) := by
    rw [← List.drop_drop, D0]; rfl
  have D2 := drop_next D1
  have D3 := drop_next D2
  have D4 := drop_next D3
  have D5 := drop_next D4
  have D6 := drop_next D5
  have D7 := drop_next D6
  have D8 := drop_next D7
  have HD0 := Lib.hid D0; have HD1 := Lib.hid D1; have HD2 := Lib.hid D2; have HD3 := Lib.hid D3; have HD4 := Lib.hid D4; have HD5 := Lib.hid D5; have HD6 := Lib.hid D6; have HD7 := Lib.hid D7; have HD8 := Lib.hid D8
  have HMX := Lib.hid hmx; have HSM := Lib.hid hsm; have HM := Lib.hid hm
  have hk0 : (UInt8.ofNat e.kind.toNat).toNat = e.kind.toNat := by simp; omega
  have hk1 : ((e.kind.toNat : Nat) : Int) = e.kind := Int.toNat_of_nonneg (by omega)
  have hn1 : ((e.num.toNat : Nat) : Int) = e.num := Int.toNat_of_nonneg (by omega)
  have hn2 : ((e.at_.toNat : Nat) : Int) = e.at_ := Int.toNat_of_nonneg (by omega)
  have hn3 : ((e.val.toNat : Nat) : Int) = e.val := Int.toNat_of_nonneg (by omega)
  have hnn : n ≤ 1000000 := by omega
  have HBY := Lib.hid hb
  have HNL := Lib.hid hnl
  have HK0 := Lib.hid hk0; have HK1 := Lib.hid hk1; have HN1 := Lib.hid hn1; have HN2 := Lib.hid hn2; have HN3 := Lib.hid hn3
  clear D0 D1 D2 D3 D4 D5 D6 D7 D8 hl hb hmx hsm hm hnl hk0 hk1 hn1 hn2 hn3
  go_enter Tryz.func57, Tryz.ntmps57
  go_upto_region 3 with fail
  have HC := Lib.hid (show Dc w (((w.alloc (evZO)).alloc (rdZ A n c)).alloc (evZO)) A n c l 0 #[.string ⟨#[]⟩, .int .i64 0, .int .i64 0, .int .i64 0, .string ⟨#[]⟩, .string ⟨#[]⟩, .int .i64 0, .string ⟨#[]⟩] from by
    refine ⟨⟨?_, ?_, Nat.zero_le _, hnn⟩, ?_, ?_, (((Below.refl _ _).alloc (Nat.le_refl _) _).alloc (by simp) _).alloc (by simp; omega) _⟩
    · have := heap_alloc_new (w.alloc (evZO)) (rdZ A n c)
      have h2 : ((w.alloc (evZO)).alloc (rdZ A n c)).heap[w.heap.size + 1]? = some (rdZ A n c) := by simpa using this
      exact (heap_alloc_old _ _ (by simp)).trans (h2.trans rfl)
    · exact (((HBY.out.alloc (Nat.le_refl _) _).alloc (by simp) _).alloc (by simp; omega) _).more (by omega)
    · have := heap_alloc_new ((w.alloc (evZO)).alloc (rdZ A n c)) (evZO)
      simpa using this
    · exact (heap_alloc_old _ _ (by simp; omega)).trans ((heap_alloc_old _ _ (by simp)).trans (heap_alloc_new w _)))
  obtain ⟨w0, hw0⟩ : ∃ w0, w0 = ((w.alloc (evZO)).alloc (rdZ A n c)).alloc (evZO) := ⟨_, rfl⟩
  rw [← hw0] at HC ⊢
  clear hw0
  have HP := Lib.hid (rdone_any w0 _ A n c l _ HC.out.rd _ (HC.out.rd.nth HD0.out))
  rw [HK0.out] at HP
  have HK1x := HK1
  go_wp2_with fail
  refine HP.out.mono ?_
  rintro r w1 hp
  have HC2 := Lib.hid (HC.out.call hp)
  obtain ⟨rfl, _, _⟩ := hp
  clear HC HP
  have c0 : w1.cell? ⟨w.heap.size + 1 + 1, 3, none⟩ = some (.int .i64 0) := cell_of_row w1 _ 3 _ _ (0, 0) HC2.out.ev
  have z0 : w1.frozen? ⟨w.heap.size + 1 + 1, 3, none⟩ = false := frozen_of_row w1 _ 3 _ _ HC2.out.ev
  have k0 : (e.kind.toNat : Int) = e.kind := HK1.out
  go_upto_region 4 with fail
  have HC := Lib.hid (HC2.out.set 3 (.int .i64 e.kind))
  simp only [List.setIfInBounds_toArray, List.set_cons_zero, List.set_cons_succ] at HC
  obtain ⟨w2, hw1⟩ : ∃ w2, w2 = w1.setCell ⟨w.heap.size + 1 + 1, 3, none⟩ (.int .i64 e.kind) := ⟨_, rfl⟩
  rw [← hw1] at HC ⊢
  clear hw1 c0 z0 HC2 k0
  have HP := Lib.hid (rdtext_any w2 _ A n c l _ HC.out.rd _ _ HD1.out (by omega))
  go_wp2_with fail
  refine HP.out.mono ?_
  rintro r w3 hp
  have HC2 := Lib.hid (HC.out.call hp)
  obtain ⟨rfl, _, _⟩ := hp
  clear HC HP
  have c0 : w3.cell? ⟨w.heap.size + 1 + 1, 0, none⟩ = some (.string ⟨#[]⟩) := cell_of_row w3 _ 0 _ _ (0, 0) HC2.out.ev
  have z0 : w3.frozen? ⟨w.heap.size + 1 + 1, 0, none⟩ = false := frozen_of_row w3 _ 0 _ _ HC2.out.ev
  go_upto_region 5 with fail
  have HC := Lib.hid (HC2.out.set 0 (.string ⟨e.src.toArray⟩))
  simp only [List.setIfInBounds_toArray, List.set_cons_zero] at HC
  obtain ⟨w4, hw2⟩ : ∃ w4, w4 = w3.setCell ⟨w.heap.size + 1 + 1, 0, none⟩ (.string ⟨e.src.toArray⟩) := ⟨_, rfl⟩
  rw [← hw2] at HC ⊢
  clear hw2 c0 z0 HC2
  have HP := Lib.hid (rdnumber_any w4 _ A n c l _ HC.out.rd _ _ HD2.out (by omega))
  rw [HN1.out] at HP
  go_wp2_with fail
  refine HP.out.mono ?_
  rintro r w5 hp
  have HC2 := Lib.hid (HC.out.call hp)
  obtain ⟨rfl, _, _⟩ := hp
  clear HC HP
  have c0 : w5.cell? ⟨w.heap.size + 1 + 1, 1, none⟩ = some (.int .i64 0) := cell_of_row w5 _ 1 _ _ (0, 0) HC2.out.ev
  have z0 : w5.frozen? ⟨w.heap.size + 1 + 1, 1, none⟩ = false := frozen_of_row w5 _ 1 _ _ HC2.out.ev
  go_upto_region 6 with fail
  have HC := Lib.hid (HC2.out.set 1 (.int .i64 e.num))
  simp only [List.setIfInBounds_toArray, List.set_cons_zero, List.set_cons_succ] at HC
  obtain ⟨w6, hw3⟩ : ∃ w6, w6 = w5.setCell ⟨w.heap.size + 1 + 1, 1, none⟩ (.int .i64 e.num) := ⟨_, rfl⟩
  rw [← hw3] at HC ⊢
  clear hw3 c0 z0 HC2
  have HP := Lib.hid (rdnumber_any w6 _ A n c l _ HC.out.rd _ _ HD3.out (by omega))
  rw [HN2.out] at HP
  go_wp2_with fail
  refine HP.out.mono ?_
  rintro r w7 hp
  have HC2 := Lib.hid (HC.out.call hp)
  obtain ⟨rfl, _, _⟩ := hp
  clear HC HP
  have c0 : w7.cell? ⟨w.heap.size + 1 + 1, 2, none⟩ = some (.int .i64 0) := cell_of_row w7 _ 2 _ _ (0, 0) HC2.out.ev
  have z0 : w7.frozen? ⟨w.heap.size + 1 + 1, 2, none⟩ = false := frozen_of_row w7 _ 2 _ _ HC2.out.ev
  go_upto_region 7 with fail
  have HC := Lib.hid (HC2.out.set 2 (.int .i64 e.at_))
  simp only [List.setIfInBounds_toArray, List.set_cons_zero, List.set_cons_succ] at HC
  obtain ⟨w8, hw4⟩ : ∃ w8, w8 = w7.setCell ⟨w.heap.size + 1 + 1, 2, none⟩ (.int .i64 e.at_) := ⟨_, rfl⟩
  rw [← hw4] at HC ⊢
  clear hw4 c0 z0 HC2
  have HP := Lib.hid (rdtext_any w8 _ A n c l _ HC.out.rd _ _ HD4.out (by omega))
  go_wp2_with fail
  refine HP.out.mono ?_
  rintro r w9 hp
  have HC2 := Lib.hid (HC.out.call hp)
  obtain ⟨rfl, _, _⟩ := hp
  clear HC HP
  have c0 : w9.cell? ⟨w.heap.size + 1 + 1, 4, none⟩ = some (.string ⟨#[]⟩) := cell_of_row w9 _ 4 _ _ (0, 0) HC2.out.ev
  have z0 : w9.frozen? ⟨w.heap.size + 1 + 1, 4, none⟩ = false := frozen_of_row w9 _ 4 _ _ HC2.out.ev
  go_upto_region 8 with fail
  have HC := Lib.hid (HC2.out.set 4 (.string ⟨e.per.toArray⟩))
  simp only [List.setIfInBounds_toArray, List.set_cons_zero, List.set_cons_succ] at HC
  obtain ⟨w10, hw5⟩ : ∃ w10, w10 = w9.setCell ⟨w.heap.size + 1 + 1, 4, none⟩ (.string ⟨e.per.toArray⟩) := ⟨_, rfl⟩
  rw [← hw5] at HC ⊢
  clear hw5 c0 z0 HC2
  have HP := Lib.hid (rdtext_any w10 _ A n c l _ HC.out.rd _ _ HD5.out (by omega))
  go_wp2_with fail
  refine HP.out.mono ?_
  rintro r w11 hp
  have HC2 := Lib.hid (HC.out.call hp)
  obtain ⟨rfl, _, _⟩ := hp
  clear HC HP
  have c0 : w11.cell? ⟨w.heap.size + 1 + 1, 5, none⟩ = some (.string ⟨#[]⟩) := cell_of_row w11 _ 5 _ _ (0, 0) HC2.out.ev
  have z0 : w11.frozen? ⟨w.heap.size + 1 + 1, 5, none⟩ = false := frozen_of_row w11 _ 5 _ _ HC2.out.ev
  go_upto_region 9 with fail
  have HC := Lib.hid (HC2.out.set 5 (.string ⟨e.item.toArray⟩))
  simp only [List.setIfInBounds_toArray, List.set_cons_zero, List.set_cons_succ] at HC
  obtain ⟨w12, hw6⟩ : ∃ w12, w12 = w11.setCell ⟨w.heap.size + 1 + 1, 5, none⟩ (.string ⟨e.item.toArray⟩) := ⟨_, rfl⟩
  rw [← hw6] at HC ⊢
  clear hw6 c0 z0 HC2
  have HP := Lib.hid (rdnumber_any w12 _ A n c l _ HC.out.rd _ _ HD6.out (by omega))
  rw [HN3.out] at HP
  go_wp2_with fail
  refine HP.out.mono ?_
  rintro r w13 hp
  have HC2 := Lib.hid (HC.out.call hp)
  obtain ⟨rfl, _, _⟩ := hp
  clear HC HP
  have c0 : w13.cell? ⟨w.heap.size + 1 + 1, 6, none⟩ = some (.int .i64 0) := cell_of_row w13 _ 6 _ _ (0, 0) HC2.out.ev
  have z0 : w13.frozen? ⟨w.heap.size + 1 + 1, 6, none⟩ = false := frozen_of_row w13 _ 6 _ _ HC2.out.ev
  go_upto_region 10 with fail
  have HC := Lib.hid (HC2.out.set 6 (.int .i64 e.val))
  simp only [List.setIfInBounds_toArray, List.set_cons_zero, List.set_cons_succ] at HC
  obtain ⟨w14, hw7⟩ : ∃ w14, w14 = w13.setCell ⟨w.heap.size + 1 + 1, 6, none⟩ (.int .i64 e.val) := ⟨_, rfl⟩
  rw [← hw7] at HC ⊢
  clear hw7 c0 z0 HC2
  have HP := Lib.hid (rdtext_any w14 _ A n c l _ HC.out.rd _ _ HD7.out (by omega))
  go_wp2_with fail
  refine HP.out.mono ?_
  rintro r w15 hp
  have HC2 := Lib.hid (HC.out.call hp)
  obtain ⟨rfl, _, _⟩ := hp
  clear HC HP
  have c0 : w15.cell? ⟨w.heap.size + 1 + 1, 7, none⟩ = some (.string ⟨#[]⟩) := cell_of_row w15 _ 7 _ _ (0, 0) HC2.out.ev
  have z0 : w15.frozen? ⟨w.heap.size + 1 + 1, 7, none⟩ = false := frozen_of_row w15 _ 7 _ _ HC2.out.ev
  go_upto_region 11 with fail
  have HC := Lib.hid (HC2.out.set 7 (.string ⟨e.text.toArray⟩))
  simp only [List.setIfInBounds_toArray, List.set_cons_zero, List.set_cons_succ] at HC
  obtain ⟨w16, hw8⟩ : ∃ w16, w16 = w15.setCell ⟨w.heap.size + 1 + 1, 7, none⟩ (.string ⟨e.text.toArray⟩) := ⟨_, rfl⟩
  rw [← hw8] at HC ⊢
  clear hw8 c0 z0 HC2
  have hce : ∀ {W : World}, Dc w W A n c l (0 + 1 + (textB e.src).length + (numB e.num.toNat).length + (numB e.at_.toNat).length + (textB e.per).length + (textB e.item).length + (numB e.val.toNat).length + (textB e.text).length) #[.string ⟨e.src.toArray⟩, .int .i64 e.num, .int .i64 e.at_, .int .i64 e.kind, .string ⟨e.per.toArray⟩, .string ⟨e.item.toArray⟩, .int .i64 e.val, .string ⟨e.text.toArray⟩] →
      (W.cell? ⟨w.heap.size + 1 + 1, 0, none⟩ = some (.string ⟨e.src.toArray⟩) ∧ W.cell? ⟨w.heap.size + 1 + 1, 1, none⟩ = some (.int .i64 e.num) ∧ W.cell? ⟨w.heap.size + 1 + 1, 2, none⟩ = some (.int .i64 e.at_) ∧ W.cell? ⟨w.heap.size + 1 + 1, 3, none⟩ = some (.int .i64 e.kind) ∧ W.cell? ⟨w.heap.size + 1 + 1, 4, none⟩ = some (.string ⟨e.per.toArray⟩) ∧ W.cell? ⟨w.heap.size + 1 + 1, 5, none⟩ = some (.string ⟨e.item.toArray⟩) ∧ W.cell? ⟨w.heap.size + 1 + 1, 6, none⟩ = some (.int .i64 e.val) ∧ W.cell? ⟨w.heap.size + 1 + 1, 7, none⟩ = some (.string ⟨e.text.toArray⟩) ∧
        W.cell? ⟨w.heap.size + 1, 1, none⟩ = some (.int .i64 n) ∧ W.cell? ⟨w.heap.size + 1, 2, none⟩ = some (.int .i64 0)) := fun {W} h => by
    have hk : 0 + 1 + (textB e.src).length + (numB e.num.toNat).length + (numB e.at_.toNat).length + (textB e.per).length + (textB e.item).length + (numB e.val.toNat).length + (textB e.text).length = n := by
      have h1 := h.rd.le
      have h2 := congrArg List.length HD8.out
      rw [List.length_drop, List.length_nil] at h2
      have h3 := HNL.out
      have h4 : l.length = n := h.rd.row.len
      omega
    rw [hk] at h
    obtain ⟨_, r1, r2, _⟩ := h.rd.cells
    exact ⟨cell_of_row W _ 0 _ _ (0, 0) h.ev, cell_of_row W _ 1 _ _ (0, 0) h.ev, cell_of_row W _ 2 _ _ (0, 0) h.ev, cell_of_row W _ 3 _ _ (0, 0) h.ev, cell_of_row W _ 4 _ _ (0, 0) h.ev, cell_of_row W _ 5 _ _ (0, 0) h.ev, cell_of_row W _ 6 _ _ (0, 0) h.ev, cell_of_row W _ 7 _ _ (0, 0) h.ev, r1, r2⟩
  obtain ⟨f0, f1, f2, f3, f4, f5, f6, f7, r1, r2⟩ := hce HC.out
  have HMA := Lib.hid (may_any w16 e HSM.out (HMX.out.up HC.out.be))
  rw [HM.out] at HMA
  clear hce
  go_wp2_with fail
  refine HMA.out.mono ?_
  rintro r w17 ⟨rfl, hb17⟩
  have HL16 := Lib.hid HC.out.lt
  have HB17 := Lib.hid (show RowKit.Below w.heap.size w w17 from HC.out.be.trans (hb17.mono HC.out.be.size))
  have HT := Lib.hid (show w17.heap[w.heap.size + 1 + 1]? = some (evObj e) from (hb17.block _ HC.out.lt).trans HC.out.ev)
  have HU := Lib.hid (show w17.heap[w.heap.size]? = some evZO from (hb17.block _ (by have := HL16.out; omega)).trans HC.out.re)
  have p1 : w17.cell? ⟨w.heap.size + 1, 1, none⟩ = some (.int .i64 n) := (hb17.cell (p := ⟨w.heap.size + 1, 1, none⟩) (by have := HL16.out; show w.heap.size + 1 < _; omega)).trans r1
  have p2 : w17.cell? ⟨w.heap.size + 1, 2, none⟩ = some (.int .i64 0) := (hb17.cell (p := ⟨w.heap.size + 1, 2, none⟩) (by have := HL16.out; show w.heap.size + 1 < _; omega)).trans r2
  clear f0 f1 f2 f3 f4 f5 f6 f7 r1 r2 hb17
  obtain ⟨f0, f1, f2, f3, f4, f5, f6, f7⟩ := EvIn.of_heap HT.out
  go_upto_region 15 with fail
  have hv0 := ev_store e HU.out
  have hr0 := ev_store_below e HB17.out
  generalize hw18 : ((((((((w17).setCell ⟨w.heap.size, 0, none⟩ (.string ⟨e.src.toArray⟩)).setCell ⟨w.heap.size, 1, none⟩ (.int .i64 e.num)).setCell ⟨w.heap.size, 2, none⟩ (.int .i64 e.at_)).setCell ⟨w.heap.size, 3, none⟩ (.int .i64 e.kind)).setCell ⟨w.heap.size, 4, none⟩ (.string ⟨e.per.toArray⟩)).setCell ⟨w.heap.size, 5, none⟩ (.string ⟨e.item.toArray⟩)).setCell ⟨w.heap.size, 6, none⟩ (.int .i64 e.val)).setCell ⟨w.heap.size, 7, none⟩ (.string ⟨e.text.toArray⟩) = w18 at hv0 hr0
  have HV := Lib.hid (show w18.drew.heap[w.heap.size]? = some (evObj e) from hv0)
  have HR := Lib.hid (show DecPost w e n (.returned (.tuple #[e.agg, .int .i64 n, .int .i64 0])) w18.drew from ⟨rfl, below_drewN hr0 1⟩)
  clear hv0 hr0
  obtain ⟨s0, s1, s2, s3, s4, s5, s6, s7⟩ := EvIn.of_heap HV.out
  have c0 := cell_of_row w17 w.heap.size 0 _ _ (0, 0) HU.out
  have z0 := frozen_of_row w17 w.heap.size 0 _ _ HU.out
  have c1 := cell_of_row w17 w.heap.size 1 _ _ (0, 0) HU.out
  have z1 := frozen_of_row w17 w.heap.size 1 _ _ HU.out
  have c2 := cell_of_row w17 w.heap.size 2 _ _ (0, 0) HU.out
  have z2 := frozen_of_row w17 w.heap.size 2 _ _ HU.out
  have c3 := cell_of_row w17 w.heap.size 3 _ _ (0, 0) HU.out
  have z3 := frozen_of_row w17 w.heap.size 3 _ _ HU.out
  have c4 := cell_of_row w17 w.heap.size 4 _ _ (0, 0) HU.out
  have z4 := frozen_of_row w17 w.heap.size 4 _ _ HU.out
  have c5 := cell_of_row w17 w.heap.size 5 _ _ (0, 0) HU.out
  have z5 := frozen_of_row w17 w.heap.size 5 _ _ HU.out
  have c6 := cell_of_row w17 w.heap.size 6 _ _ (0, 0) HU.out
  have z6 := frozen_of_row w17 w.heap.size 6 _ _ HU.out
  have c7 := cell_of_row w17 w.heap.size 7 _ _ (0, 0) HU.out
  have z7 := frozen_of_row w17 w.heap.size 7 _ _ HU.out
  have HW := Lib.hid hw18
  clear hw18
  go_region_law (fail)
  all_goals
    clear c0 c1 c2 c3 c4 c5 c6 c7 z0 z1 z2 z3 z4 z5 z6 z7 f0 f1 f2 f3 f4 f5 f6 f7 p1 p2
    rw [HW.out]
    clear HW
    go_wp2
    exact bodyPost_ret (v := .tuple #[e.agg, .int .i64 n, .int .i64 0]) (by simp [results, Tryz.results57, go_sem, s0, s1, s2, s3, s4, s5, s6, s7, Ev.agg]) rfl HR.out
end Go.Proofs.YtejjfhhppjdcaaaGreatDoor
