/-
  The law EraseIntakes, walked.
-/
import Derived.Test.YtnnkhgllfhpdpaaGreatDoorErItk
import Derived.Test.YtnnkhgllfhpdpaaGreatDoorErAwake
namespace Go.Proofs.YtnnkhgllfhpdpaaGreatDoor
open Go.RowKit Go.Maps Go.Sort

theorem long_small {es : List Ev} (h : longB es = false) : es.length ≤ 40 ∧ ∀ e ∈ es, e.small := by
  unfold longB at h
  simp only [Bool.or_eq_false_iff, decide_eq_false_iff_not, List.any_eq_false, decide_eq_true_eq] at h
  refine ⟨by omega, fun e he => ?_⟩
  have := h.1 e he
  unfold Ev.bulk at this
  exact ⟨by omega, by omega, by omega, by omega⟩
theorem offer_gone (x : Itk) (e : Ev) (now : Int) : (x.offer e now).gone.length ≤ x.gone.length + 1 := by
  unfold Itk.offer
  split
  · show x.gone.length ≤ _; omega
  · split
    · unfold Itk.took
      split
      · show (e.per :: x.gone).length ≤ _; simp
      · show x.gone.length ≤ _; omega
    · unfold Itk.lates
      split <;> (show x.gone.length ≤ _; omega)

theorem eintake_nil (w : World) : Calls Tryz.prog 18 #[.pointer none] w fun e w' => e = .returned (.int .i64 0) ∧ w = w' := by
  go_enter Tryz.func18, Tryz.ntmps18
  go_wp2
  go_ret
  exact ⟨rfl, rfl⟩

/-- an intake that was offered some of the events -/
def Offd (w : World) (bi k : Nat) (wr : World) : Prop := ∃ F x, ItkAt wr F bi (2 * k) x ∧ ItkInv Ev.small x ∧ x.gone.length ≤ k ∧ Below w.heap.size w wr ∧ ∀ b, F b → w.heap.size ≤ b
def OffRel (w : World) (bi n : Nat) (i : Value) (wr : World) : Prop := ∃ k : Nat, i = .int .i64 k ∧ k ≤ n ∧ Offd w bi k wr
def TrRel (w4 : World) (n : Nat) (i : Value) (wr : World) : Prop := ∃ k : Nat, i = .int .i64 k ∧ k ≤ n ∧ Below w4.heap.size w4 wr
theorem OwnE.evs {w w' : World} {base : Nat} {B : Option Addr} {n c : Nat} {l : List Ev} (h : OwnE w base (.slice B n c) l) (hn : n = l.length) (hk : ∀ b, (Value.slice B n c).ownBlock = some b → w'.heap[b]? = w.heap[b]?) : Evs w' w'.heap.size B n c l := by
  subst hn; exact Cel.of_own (h.keep hk)

set_option maxRecDepth 100000 in
set_option maxHeartbeats 4000000 in
theorem intakes_any (w : World) (A : Option Addr) (n c : Nat) (es : List Ev) (h : Evs w w.heap.size A n c es) (hn : n ≤ 140737488355328) (hfit : ∀ e ∈ es, e.fit) (slack : Int) (hs0 : 0 ≤ slack) (hs1 : slack ≤ 255) (hmx : MaxAt w) :
    Calls Tryz.prog 4 #[.slice A n c, .int .u8 slack] w (Says true w) := by
  have HH := Lib.hid h; clear h
  have HF := Lib.hid hfit; clear hfit
  have HMX := Lib.hid hmx
  have hmlt := hmx.lt
  clear hmx
  go_enter Tryz.func4, Tryz.ntmps4
  go_wp2_with fail
  refine (long_any w A n c es HH.out hn HF.out).mono ?_
  rintro r w1 ⟨rfl, hb1⟩
  cases hlg : longB es
  case true =>
    clear hlg
    go_wp2_with fail
    refine (awake_any w1).mono ?_
    rintro r w2 ⟨rfl, hb2⟩
    have hbw : Below w.heap.size w w2 := hb1.trans (hb2.mono hb1.size)
    clear hb2
    go_wp2
    go_ret
    exact ⟨rfl, hbw⟩
  obtain ⟨hl40, hsm⟩ := long_small hlg
  have HSM := Lib.hid hsm
  have hlen := HH.out.len
  have HL := Lib.hid hlen
  have hn40 : n ≤ 40 := by omega
  clear hlg hsm hlen hl40
  have hcv : IntKind.i64.wrap slack = slack := IntWalk.i64_in _ (by omega)
  go_wp2_with fail
  refine (itknew_any w1 slack 0).mono ?_
  rintro r w2 ⟨bi, F, rfl, hI2, hb2, hF2⟩
  have hbw2 : Below w.heap.size w w2 := hb1.trans (hb2.mono hb1.size)
  have hsz1 := hb1.size
  have HO2 := Lib.hid (show Offd w bi 0 w2 from ⟨F, _, hI2, ItkInv.new _ _ _, Nat.le_refl _, hbw2, fun b hb => by have := hF2 b hb; omega⟩)
  clear hI2 hb2 hF2 hcv hb1
  go_wp2
  go_loopw [21] (fun i wr => OffRel w bi n i wr) (fun i _ => n - (intOf i).toNat)
  case atStart => exact ⟨0, rfl, Nat.zero_le _, HO2.out⟩
  case round =>
    obtain ⟨k, rfl, hk, hoff⟩ := hrel
    have HOF := Lib.hid hoff; clear hoff
    by_cases hkn : k < n
    · obtain ⟨F', x, hI, hinv, hgl, hbel, hFb⟩ := HOF.out
      have hkl : k < es.length := by rw [HL.out]; exact hkn
      obtain ⟨b, off, rfl, hb, hev⟩ := HH.out.ev k hkl
      obtain ⟨e0, e1, e2, e3, e4, e5, e6, e7⟩ := hev.below hbel hb
      have HSX := Lib.hid (HSM.out _ (List.getElem_mem hkl))
      generalize es[k] = y at *
      have t1 : (k : Int) < n := by omega
      go_wp2_with fail
      have hbA : Below wr.heap.size wr (wr.alloc (evObj y)) := (Below.refl _ _).alloc (Nat.le_refl _) _
      have hbA' : Below w.heap.size w (wr.alloc (evObj y)) := hbel.alloc hbel.size _
      refine (offer_any _ F' bi (2 * k) x (hI.up hbA) (by omega) y HSX.out 0 (HMX.out.up hbA') (fun hf => by have := hFb _ hf; omega)).mono ?_
      rintro r w3 ⟨rfl, F3, hI3, hK3, hF3⟩
      have hsA : (wr.alloc (evObj y)).heap.size = wr.heap.size + 1 := by simp
      have HRR := Lib.hid (show OffRel w bi n (.int .i64 ((k + 1 : Nat) : Int)) w3 from ⟨k + 1, rfl, by omega, F3, _, by rw [show 2 * (k + 1) = 2 * k + 2 by omega]; exact hI3, hinv.offer HSX.out 0, by have := offer_gone x y 0; omega,
        hbA'.trans (hK3.below (by have := hbA'.size; omega) (fun b' hb' hf => by have := hFb _ hf; omega)), fun b' hb' => by
          rcases hF3 b' hb' with h' | h'
          · exact hFb b' h'
          · have := hbel.size; omega⟩)
      clear hI hinv hgl hI3 hK3 hF3 e0 e1 e2 e3 e4 e5 e6 e7 hev hbA hbA' hFb hsA
      go_wp2
      go_roundw
      case rel => exact HRR.out
      case measure => simp [intOf]; omega
    · obtain ⟨F', x, hI, hinv, hgl, hbel, hFb⟩ := HOF.out
      have hk40 : k ≤ 40 := by omega
      have HI := Lib.hid hI; have HV := Lib.hid hinv; have HFb := Lib.hid hFb
      have t1 : ¬ (k : Int) < n := by omega
      clear hI hinv hFb
      have htl : x.taken.length ≤ 80 := by obtain ⟨_, _, ho, _⟩ := HI.out; have := ho.taken; omega
      have hll : x.late.length ≤ 80 := by obtain ⟨_, _, ho, _⟩ := HI.out; have := ho.late; omega
      go_wp2_with fail
      refine (itaken_any wr F' bi (2 * k) x HI.out (by omega)).mono ?_
      rintro r w3 ⟨v3, rfl, ho3, hb3⟩
      have HI3 := Lib.hid (HI.out.up hb3)
      have HO3 := Lib.hid ho3
      have hbw3 : Below w.heap.size w w3 := hbel.trans (hb3.mono hbel.size)
      have hs3 := hb3.size
      have hFr : ∀ b, F' b → b < wr.heap.size := by obtain ⟨_, _, _, _, _, _, h6⟩ := HI.out; exact h6
      have HFr := Lib.hid hFr
      obtain ⟨B3, c3, hv3, hc3⟩ := ho3.form
      subst hv3
      clear ho3 hFr
      go_wp2_with fail
      refine (eintake_any w3 F' bi (2 * k) x HI3.out (by omega) (by omega) HV.out).mono ?_
      rintro r w4 ⟨rfl, F4, hI4, hK4, hF4⟩
      have hz : dropN x (outB x.gone) = 0 := by
        unfold dropN
        have := HV.out.drops
        unfold Itk.drop at this
        have h1 : x.taken.filter (outB x.gone) = x.taken := congrArg Itk.taken this
        have h2 : x.late.filter (outB x.gone) = x.late := congrArg Itk.late this
        rw [h1, h2]; omega
      rw [HV.out.drops] at hI4
      have HI4 := Lib.hid hI4
      have hbw4 : Below w.heap.size w w4 := hbw3.trans (hK4.below hbw3.size (fun b hb hf => by have := HFb.out b hf; omega))
      have HE4 := Lib.hid (show Evs w4 w4.heap.size B3 x.taken.length c3 x.taken from HO3.out.evs rfl (fun b hb => hK4.block b (HO3.out.lt hb) (fun hf => by have := HFr.out b hf; have := (World.ownsRow.lt HO3.out b hb).1; omega)))
      have HF4 := Lib.hid (show ∀ b, F4 b → w.heap.size ≤ b from fun b hb => (hF4 b hb).elim (HFb.out b) (fun h => by have := hbw3.size; omega))
      rw [hz]
      clear hI4 hK4 hF4 hz
      go_wp2_with fail
      refine (eintake_nil w4).mono ?_
      rintro r w4' ⟨rfl, rfl⟩
      go_wp2_with fail
      refine (itaken_any w4 F4 bi (2 * k) x HI4.out (by omega)).mono ?_
      rintro r w5 ⟨v5, rfl, ho5, hb5⟩
      obtain ⟨B5, c5, hv5, hc5⟩ := ho5.form
      subst hv5
      have HE5 := Lib.hid (show Evs w5 w5.heap.size B5 x.taken.length c5 x.taken from Cel.of_own ho5)
      have HE54 := Lib.hid (show Evs w5 w5.heap.size B3 x.taken.length c3 x.taken from Cel.more (Cel.below HE4.out hb5) hb5.size)
      have HI5 := Lib.hid (HI4.out.up hb5)
      have hbw5 : Below w.heap.size w w5 := hbw4.trans (hb5.mono hbw4.size)
      clear ho5 hb5
      go_wp2_with fail
      refine (same31_any w5 _ _ B5 B3 _ c5 c3 _ HE5.out HE54.out (by omega)).mono ?_
      rintro r w6 ⟨rfl, q6, rfl⟩
      have hb6 : Below w5.heap.size w5 (w5.drewN q6) := below_drewN (Below.refl _ _) q6
      have hbw6 : Below w.heap.size w (w5.drewN q6) := below_drewN hbw5 q6
      have HE6 := Lib.hid (show Evs (w5.drewN q6) (w5.drewN q6).heap.size B3 x.taken.length c3 x.taken from HE54.out.drewN q6)
      have HI6 := Lib.hid (HI5.out.up hb6)
      clear hb6
      generalize w5.drewN q6 = w6 at *
      go_wp2_with fail
      refine (igone_any w6 F4 bi (2 * k) x HI6.out (by omega)).mono ?_
      rintro r w7 ⟨v7, rs, rfl, hri, hrow, hb7⟩
      obtain ⟨B7, c7, rfl⟩ := ownsRow_form hrow
      have hrl := rising_length hri
      have HRI := Lib.hid hri; have HRO := Lib.hid hrow
      have HI7 := Lib.hid (HI6.out.up hb7)
      have HE7 := Lib.hid (show Evs w7 w7.heap.size B3 x.taken.length c3 x.taken from Cel.more (Cel.below HE6.out hb7) hb7.size)
      have hbw7 : Below w.heap.size w w7 := hbw6.trans (hb7.mono hbw6.size)
      clear hri hrow hb7
      go_wp2
      go_loopw [48] (fun i wz => TrRel w7 rs.length i wz) (fun i _ => rs.length - (intOf i).toNat)
      case atStart => exact ⟨0, rfl, Nat.zero_le _, Below.refl _ _⟩
      case round =>
        obtain ⟨j, rfl, hj, hbz⟩ := hrel
        by_cases hjn : j < rs.length
        · have hst : Strs w7 w7.heap.size B7 rs.length c7 rs := Cel.of_own HRO.out
          obtain ⟨b7, off7, rfl, hb7, hc7⟩ := hst.at_ j hjn
          have hcz : wr.cell? ⟨b7, off7 + j, none⟩ = some (.string ⟨rs[j].toArray⟩) := (hbz.cell (p := ⟨b7, off7 + j, none⟩) hb7).trans hc7
          have hpg : rs[j] ∈ x.gone := (HRI.out.2 _).1 (List.getElem_mem hjn)
          have hpl : rs[j].length ≤ 1000000000 := by obtain ⟨y, hy, hp⟩ := HV.out.gone _ hpg; rw [← hp]; exact hy.2.1
          have HZ1 := Lib.hid (show ((x.taken.length - (x.taken.filter (fun e => !ownB rs[j] e)).length : Nat) : Int) = 0 by
            rw [List.filter_eq_self.2 (fun e he => by rw [HV.out.none hpg (.inl he)]; rfl)]; simp)
          have HZ2 := Lib.hid (show ((x.late.length - (x.late.filter (fun e => !ownB rs[j] e)).length : Nat) : Int) = 0 by
            rw [List.filter_eq_self.2 (fun e he => by rw [HV.out.none hpg (.inr he)]; rfl)]; simp)
          have t2 : (j : Int) < rs.length := by omega
          have HIZ := Lib.hid (HI7.out.up hbz)
          generalize rs[j] = p at *
          clear hst hc7 hpg
          go_wp2_with fail
          refine (itaken_any wr F4 bi (2 * k) x HIZ.out (by omega)).mono ?_
          rintro r w8 ⟨v8, rfl, ho8, hb8⟩
          obtain ⟨B8, c8, hv8, hc8⟩ := ho8.form
          subst hv8
          have HE8 := Lib.hid (show Evs w8 w8.heap.size B8 x.taken.length c8 x.taken from Cel.of_own ho8)
          have hbz8 : Below w7.heap.size w7 w8 := hbz.trans (hb8.mono hbz.size)
          clear ho8 hb8 hcz
          go_wp2_with fail
          refine (traces_any w8 p B8 _ c8 x.taken HE8.out (by omega) hpl).mono ?_
          rintro r w9 ⟨rfl, hb9⟩
          rw [HZ1.out]
          have hbz9 : Below w7.heap.size w7 w9 := hbz8.trans (hb9.mono hbz8.size)
          have HI9 := Lib.hid (HI7.out.up hbz9)
          clear hb9
          go_wp2_with fail
          refine (ilate_any w9 F4 bi (2 * k) x HI9.out (by omega)).mono ?_
          rintro r w10 ⟨v10, rfl, ho10, hb10⟩
          obtain ⟨B10, c10, hv10, hc10⟩ := ho10.form
          subst hv10
          have HE10 := Lib.hid (show Evs w10 w10.heap.size B10 x.late.length c10 x.late from Cel.of_own ho10)
          have hbz10 : Below w7.heap.size w7 w10 := hbz9.trans (hb10.mono hbz9.size)
          clear ho10 hb10
          go_wp2_with fail
          refine (traces_any w10 p B10 _ c10 x.late HE10.out (by omega) hpl).mono ?_
          rintro r w11 ⟨rfl, hb11⟩
          rw [HZ2.out]
          have hbz11 : Below w7.heap.size w7 w11 := hbz10.trans (hb11.mono hbz10.size)
          clear hb11
          go_wp2
          go_roundw
          case rel => exact ⟨j + 1, by go_num, by omega, hbz11⟩
          case measure => simp [intOf]; omega
        · have t2 : ¬ (j : Int) < rs.length := by omega
          have HEZ := Lib.hid (show Evs wr wr.heap.size B3 x.taken.length c3 x.taken from Cel.more (Cel.below HE7.out hbz) hbz.size)
          have hbwz : Below w.heap.size w wr := hbw7.trans (hbz.mono hbw7.size)
          go_wp2_with fail
          refine (clean_any wr B3 _ c3 x.taken HEZ.out (by omega) HV.out.taken).mono ?_
          rintro r w8 ⟨v8, rfl, ho8, hb8⟩
          rw [HV.out.clean] at ho8
          obtain ⟨B8, c8, hv8, hc8⟩ := ho8.form
          subst hv8
          have HE8 := Lib.hid (show Evs w8 w8.heap.size B8 x.taken.length c8 x.taken from Cel.of_own ho8)
          have HEZ8 := Lib.hid (show Evs w8 w8.heap.size B3 x.taken.length c3 x.taken from Cel.more (Cel.below HEZ.out hb8) hb8.size)
          have hbw8 : Below w.heap.size w w8 := hbwz.trans (hb8.mono hbwz.size)
          clear ho8 hb8
          go_wp2_with fail
          refine (same31_any w8 _ _ B8 B3 _ c8 c3 _ HE8.out HEZ8.out (by omega)).mono ?_
          rintro r w9 ⟨rfl, q9, rfl⟩
          have hbw9 : Below w.heap.size w (w8.drewN q9) := below_drewN hbw8 q9
          generalize w8.drewN q9 = w9 at *
          go_wp2_with fail
          refine (awake_any w9).mono ?_
          rintro r w10 ⟨rfl, hb10⟩
          have hbw10 : Below w.heap.size w w10 := hbw9.trans (hb10.mono hbw9.size)
          clear hb10
          go_wp2
          go_ret
          exact ⟨rfl, hbw10⟩
end Go.Proofs.YtnnkhgllfhpdpaaGreatDoor
