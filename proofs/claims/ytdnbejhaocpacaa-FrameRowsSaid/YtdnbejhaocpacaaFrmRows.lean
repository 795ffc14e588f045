/-
  Layer 3: the law FrameRows, walked.
-/
import Derived.Test.YtdnbejhaocpacaaFrmApart
namespace Go.Proofs.Ytdnbejhaocpacaa
open Go.RowKit

/-- the slice value 'A, n, c' reads as these lists of bytes, all in blocks below B -/
structure Byts (w : World) (B : Nat) (A : Option Addr) (n c : Nat) (ls : List (List UInt8)) : Prop where
  len : ls.length = n
  cap : n ≤ c
  max : c ≤ maxLen
  cell : 0 < n → ∃ b off, A = some ⟨b, off, none⟩ ∧ b < B ∧ ∀ i (h : i < ls.length), ∃ A' c', w.cell? ⟨b, off + i, none⟩ = some (.slice A' ls[i].length c') ∧ Byt w B A' ls[i].length c' ls[i]
theorem Byts.keep {w w' : World} {B n c : Nat} {A : Option Addr} {ls : List (List UInt8)} (h : Byts w B A n c ls) (hk : ∀ p : Addr, p.block < B → w'.cell? p = w.cell? p) : Byts w' B A n c ls :=
  ⟨h.len, h.cap, h.max, fun hn => by
    obtain ⟨b, off, e, hb, hc⟩ := h.cell hn
    exact ⟨b, off, e, hb, fun i hi => by obtain ⟨A', c', h1, h2⟩ := hc i hi; exact ⟨A', c', (hk _ hb).trans h1, h2.keep hk⟩⟩⟩
theorem Byts.below {w w' : World} {B n c : Nat} {A : Option Addr} {ls : List (List UInt8)} (h : Byts w B A n c ls) (hb : Below B w w') : Byts w' B A n c ls := h.keep fun _ hp => hb.cell hp

theorem int_info : (Try.prog.info? 3).map (fun i => (i.zero, i.size, i.bytes)) = some (some (.int .i64 0), 1, 8) := by kernel_rfl

/-- the ends as values -/
def endVs (ls : List (List UInt8)) (k : Nat) : List Value := (List.range k).map fun j => Value.int .i64 (Frm.endB ls (j + 1))
theorem endVs_succ (ls : List (List UInt8)) (k : Nat) : endVs ls (k + 1) = endVs ls k ++ [.int .i64 (Frm.endB ls (k + 1))] := by simp [endVs, List.range_succ]
theorem endVs_length (ls : List (List UInt8)) (k : Nat) : (endVs ls k).length = k := by simp [endVs]

/-- at the head of the first loop's rounds -/
def RowsRel (w : World) (base n : Nat) (ls : List (List UInt8)) (b ends i : Value) (wr : World) : Prop :=
  ∃ k : Nat, i = .int .i64 k ∧ k ≤ n ∧ OwnB wr base b (Frm.catB (ls.take k)) ∧ wr.ownsRow base 3 1 ends k (endVs ls k) ∧ Below w.heap.size w wr ∧ Below base wr wr ∧ base ≤ wr.heap.size ∧ ∀ p ∈ ls.take k, p.length ≤ 1000

set_option maxHeartbeats 2000000 in
set_option maxRecDepth 100000 in
theorem rows_any (w : World) (A : Option Addr) (n c : Nat) (ls : List (List UInt8)) (h : Byts w w.heap.size A n c ls) (cut : Int) (h1 : -9223372036854775808 ≤ cut) (h2 : cut ≤ 9223372036854775807) :
    Calls Try.prog 7 #[.slice A n c, .int .i64 cut] w (Says true w) := by
  have hmax := h.max
  have hcap := h.cap
  unfold maxLen at hmax
  have HH := Lib.hid h; clear h
  obtain ⟨i0, hi, hz0, hz1, hz2⟩ := info_parts int_info
  have HI := Lib.hid hi; have HZ0 := Lib.hid hz0; have HZ1 := Lib.hid hz1; have HZ2 := Lib.hid hz2
  clear hi hz0 hz1 hz2
  go_enter Try.func7, Try.ntmps7
  go_wp2_with fail
  refine (awake_any w).mono ?_
  rintro e w1 ⟨rfl, hb1⟩
  have hs1 := hb1.size
  by_cases hn : 100 < n
  · go_wp2
    go_ret
    exact ⟨rfl, hb1⟩
  have hnd : decide (100 < (n : Int)) = false := by simp; omega
  go_wp2
  go_loopw [5, 6, 7] (fun b en i wr => RowsRel w w1.heap.size n ls b en i wr) (fun _ _ i _ => n - (intOf i).toNat)
  case atStart => exact ⟨0, rfl, Nat.zero_le _, OwnB.nil _ _, World.ownsRow_nil _ _ _ _, hb1, Below.refl _ _, Nat.le_refl _, fun p hp => by simp at hp⟩
  case round =>
    obtain ⟨k, rfl, hk, hob, hen, hbel, _, hszr, hle⟩ := hrel
    have HOB := Lib.hid hob; have HEN := Lib.hid hen; have HLE := Lib.hid hle
    clear hob hen hle
    by_cases hkn : k < n
    · obtain ⟨b0, off, rfl, hb, hc⟩ := HH.out.cell (by omega)
      have hkl : k < ls.length := by rw [HH.out.len]; exact hkn
      obtain ⟨A', c', hc1, hbt⟩ := hc k hkl
      have hc2 : wr.cell? ⟨b0, off + k, none⟩ = some (.slice A' ls[k].length c') := (hbel.cell (p := ⟨b0, off + k, none⟩) hb).trans hc1
      have hbt2 := Lib.hid ((hbt.below hbel).more hbel.size)
      have hmx := hbt.max
      have hcp := hbt.cap
      have HTK := Lib.hid (show ls.take (k + 1) = ls.take k ++ [ls[k]] by rw [List.take_add_one, List.getElem?_eq_getElem hkl]; rfl)
      have HES := Lib.hid (Frm.endB_succ ls k hkl)
      unfold maxLen at hmx
      clear hc hc1 hbt
      generalize hx : ls[k] = x at *
      have HX := Lib.hid hx; clear hx
      have t1 : (k : Int) < n := by omega
      by_cases hx1 : 1000 < x.length
      · go_wp2
        go_ret
        exact ⟨rfl, hbel⟩
      have hx2 : decide (1000 < (x.length : Int)) = false := by simp; omega
      go_wp2_with fail
      refine (seal_any wr A' x.length c' x hbt2.out (by omega)).mono ?_
      rintro e w2 ⟨v, rfl, hown, hb2⟩
      have hs2 := hb2.size
      obtain ⟨A2, c2, hv⟩ := hown.form
      subst hv
      have HB2 := Lib.hid hown.byt; clear hown
      have HOB2 := Lib.hid (HOB.out.below hb2 (Nat.le_refl _))
      have HEN2 := Lib.hid (ownsRow_below HEN.out hb2 (Nat.le_refl _))
      have hcl : (Frm.catB (ls.take k)).length ≤ 1010 * k := by
        have := Frm.endB_le (ls.take k) HLE.out k
        simpa [Frm.endB, List.take_take] using this
      have hsl := Lib.hid (Frm.sealB_length x)
      go_wp2_with (at_builtin; refine wpList_app8 rfl (.tmp 44) (.tmp 45) rfl w1.heap.size _ (Frm.catB (ls.take k)) rfl HOB2.out w2.heap.size _ _ _ (Frm.sealB x) rfl HB2.out ?c3 ?c4 ?_)
      case c3 => rw [hsl.out]; omega
      case c4 => omega
      intro v3 w3 hown3 hg3 _
      have hb3 : Below w1.heap.size w2 w3 := Below.grown (Below.refl _ _) hg3 (by omega) HOB2.out.lt
      have hs3 := hb3.size
      have HEN3 := Lib.hid (World.ownsRow.kept HEN2.out hg3 (ownsRow_apart HEN2.out HOB2.out (by decide)))
      have hcat : Frm.catB (ls.take k) ++ Frm.sealB x = Frm.catB (ls.take (k + 1)) := by rw [HTK.out, Frm.catB_append]; simp [Frm.catB]
      rw [hcat] at hown3
      obtain ⟨A3, c3, hv3⟩ := hown3.form
      have hll : (Frm.catB (ls.take (k + 1))).length = Frm.endB ls (k + 1) := rfl
      rw [hll] at hv3
      subst hv3
      have HOB3 := Lib.hid hown3; clear hown3 hg3 hcat hll
      have hel : Frm.endB ls (k + 1) ≤ 101000 := by
        have : Frm.endB ls k = (Frm.catB (ls.take k)).length := rfl
        rw [HES.out, this]; omega
      generalize hE : Frm.endB ls (k + 1) = E at *
      have HE := Lib.hid hE; clear hE
      clear hc2
      go_wp2_with (at_builtin; refine wpList_app (P := Try.prog) rfl (.tmp 47) (.tmp 50) 45 rfl 3 i0 (.int .i64 0) 1 8 Try.underlying45 HI.out HZ0.out HZ1.out HZ2.out rfl (by decide) w1.heap.size _ k (endVs ls k) rfl ?c1 (w3.heap.size + 1) _ _ _ [.int .i64 (E : Int)] rfl ?c2 ?c3 ?c4 ?c5 ?c6 ?_)
      case c1 => exact World.ownsRow.alloc HEN3.out _
      case c2 => exact Cel.new w3 #[.int .i64 (E : Int)] _ (by unfold maxLen; omega) rfl
      case c3 => simp [Value.oneCell']
      case c4 => unfold maxLen; omega
      case c5 => omega
      case c6 => first | omega | (simp; omega)
      intro v4 w4 hown4 hg4 _
      have hob4 : OwnB w4 w1.heap.size (.slice A3 E c3) (Frm.catB (ls.take (k + 1))) := (HOB3.out.alloc (Obj.cells #[.int .i64 (E : Int)] 3)).kept hg4 (ownsRow_apart (World.ownsRow.alloc HOB3.out (Obj.cells #[.int .i64 (E : Int)] 3)) (World.ownsRow.alloc HEN3.out (Obj.cells #[.int .i64 (E : Int)] 3)) (by decide))
      have hb4 : Below w1.heap.size w3 w4 := Below.grown ((Below.refl _ _).alloc (by omega) (Obj.cells #[.int .i64 (E : Int)] 3)) hg4 (by simp; omega) (fun j hj => (HEN3.out.lt j hj).1)
      have hbw4 : Below w.heap.size w w4 := hbel.trans ((((hb2.mono hszr).trans hb3).trans hb4).mono hs1)
      have hs4 := hb4.size
      have HOB4 := Lib.hid hob4; have HEN4 := Lib.hid hown4; have HBW4 := Lib.hid hbw4
      clear hob4 hown4 hbw4 hg4 hb4
      go_wp2
      go_roundw
      case rel =>
        refine ⟨k + 1, by go_num, by omega, HOB4.out, ?_, HBW4.out, Below.refl _ _, by omega, ?_⟩
        · rw [endVs_succ, HE.out]; exact HEN4.out
        · intro p hp
          rw [HTK.out] at hp
          rcases List.mem_append.1 hp with h | h
          · exact HLE.out p h
          · simp at h; subst h; omega
      case measure => simp [intOf]; omega
    · obtain ⟨wo, rfl⟩ : ∃ wo : World, wo = wr := ⟨_, rfl⟩
      obtain rfl : k = n := by omega
      have hlt : ls.take k = ls := List.take_of_length_le (by rw [HH.out.len]; omega)
      have hob := HOB.out
      have hle := HLE.out
      rw [hlt] at hob hle
      have HLS := Lib.hid hle
      obtain ⟨A5, c5, hv5⟩ := hob.form
      rw [hv5] at hob
      subst hv5
      have hbt := hob.byt
      have hc5 := hbt.cap
      have hm5 := hbt.max
      unfold maxLen at hm5
      have hEn : (Frm.catB ls).length = Frm.endB ls k := by unfold Frm.endB; rw [hlt]
      rw [hEn] at hbt hc5 ⊢
      have hEl := Frm.endB_le ls hle k
      have HBT := Lib.hid hbt
      clear hob hle hbt hlt HOB HLE
      obtain ⟨A6, c6, hv6⟩ := ownsRow_form HEN.out
      have HEN' := HEN.out
      rw [hv6] at HEN' ⊢
      have HCE := Lib.hid (Cel.of_own HEN')
      have hc6 := HCE.out.cap
      have hm6 := HCE.out.max
      unfold maxLen at hm6
      clear HEN HEN' hv6
      by_cases hc0 : cut < 0
      · go_wp2
        go_ret
        exact ⟨rfl, hbel⟩
      by_cases hcu : (Frm.endB ls k : Int) < cut
      · go_wp2
        go_ret
        exact ⟨rfl, hbel⟩
      obtain ⟨cu, rfl⟩ := Int.eq_ofNat_of_zero_le (by omega : 0 ≤ cut)
      have hcu' : cu ≤ Frm.endB ls k := by omega
      have d1 : decide ((cu : Int) < 0) = false := decide_eq_false (by omega)
      have d2 : decide ((Frm.endB ls k : Int) < (cu : Int)) = false := decide_eq_false (by omega)
      have d3 : decide (Frm.endB ls k < cu) = false := decide_eq_false (by omega)
      clear hcu hc0
      generalize hE : Frm.endB ls k = E at *
      have HE := Lib.hid hE; clear hE hEn
      go_wp2
      go_loopw [10, 11, 12] (fun wa en i w2 => ∃ j W q : Nat, i = .int .i64 j ∧ j ≤ k ∧ W ≤ j ∧ wa = .int .i64 W ∧ en = .int .i64 (Frm.endB ls W : Nat) ∧ Hid (Frm.endB ls W ≤ cu ∧ ∀ m, W < m → m ≤ j → cu < Frm.endB ls m) ∧ w2 = wo.drewN q) (fun _ _ i _ => k - (intOf i).toNat)
      case atStart => exact ⟨0, 0, 0, rfl, Nat.zero_le _, Nat.le_refl _, rfl, rfl, ⟨by rw [Frm.endB_zero]; omega, fun m h1 h2 => by omega⟩, rfl⟩
      case round =>
        obtain ⟨j, W, q, rfl, hj, hW, rfl, rfl, hH, rfl⟩ := hrel
        have hEW : Frm.endB ls W ≤ 101000 := by have := hH.out.1; omega
        by_cases hjk : j < k
        · obtain ⟨ge, oe, rfl, _, hce⟩ := HCE.out.cell (by omega)
          have hcj := hce j (.int .i64 (Frm.endB ls (j + 1) : Nat)) (by simp [endVs, hjk])
          have t1 : (j : Int) < k := by omega
          have HJ := Lib.hid (show Frm.endB ls (j + 1) = Frm.endB ls (j + 1) from rfl)
          clear hce
          by_cases hle : Frm.endB ls (j + 1) ≤ cu
          · have dl : decide ((Frm.endB ls (j + 1) : Int) ≤ (cu : Int)) = true := decide_eq_true (by omega)
            have dl' : decide (Frm.endB ls (j + 1) ≤ cu) = true := decide_eq_true (by omega)
            have HLe := Lib.hid hle; clear hle
            generalize hEj : Frm.endB ls (j + 1) = Ej at *
            have HEj := Lib.hid hEj; clear hEj
            go_wp2
            go_quiet (fail)
            go_wp2
            go_roundw
            case rel => exact ⟨j + 1, j + 1, _, by go_num, by omega, Nat.le_refl _, by go_num, by rw [HEj.out], ⟨by rw [HEj.out]; exact HLe.out, fun m h1 h2 => by omega⟩, rfl⟩
            case measure => simp [intOf]; omega
          · have dl : decide ((Frm.endB ls (j + 1) : Int) ≤ (cu : Int)) = false := decide_eq_false (by omega)
            have dl' : decide (Frm.endB ls (j + 1) ≤ cu) = false := decide_eq_false (by omega)
            have HLe := Lib.hid hle; clear hle
            generalize hEj : Frm.endB ls (j + 1) = Ej at *
            have HEj := Lib.hid hEj; clear hEj
            go_wp2
            go_roundw
            case rel =>
              refine ⟨j + 1, W, q, by go_num, by omega, by omega, rfl, rfl, ⟨hH.out.1, fun m h1 h2 => ?_⟩, rfl⟩
              by_cases e : m = j + 1
              · subst e; have := HLe.out; rw [HEj.out]; omega
              · exact hH.out.2 m h1 (by omega)
            case measure => simp [intOf]; omega
        · obtain rfl : j = k := by omega
          have hcut := Lib.hid (HBT.out.take cu hcu')
          have hA := Lib.hid (Frm.allB_rows ls (fun p hp => by have := HLS.out p hp; omega) cu W (by rw [HH.out.len]; exact hW) hH.out.1
            (fun hlt => hH.out.2 (W + 1) (by omega) (by rw [HH.out.len] at hlt; omega)) (by rw [HH.out.len, HE.out]; exact hcu'))
          have hAll : Calls Try.prog 15 #[.slice A5 cu c5] (wo.drewN q) (AllPost (wo.drewN q) ((Frm.catB ls).take cu)) := all_any _ _ _ _ _ (hcut.out.drewN _) (by omega)
          have HALL := Lib.hid hAll; clear hAll
          have hE0 : A5 = none → E ≤ 0 := fun hn => by
            rcases Nat.eq_zero_or_pos E with h | h
            · omega
            · obtain ⟨_, _, e, _⟩ := HBT.out.cell h; rw [hn] at e; cases e
          have hWl : W ≤ ls.length := by rw [HH.out.len]; exact hW
          have hEcu : Frm.endB ls W ≤ cu := hH.out.1
          rcases A5 with _ | a5
          all_goals
            try have hE1 := hE0 rfl
            clear hE0
            go_wp2_with fail
            refine HALL.out.mono ?_
            rintro e w3 ⟨v, vs, rfl, hrow, hbs, hb3⟩
            rw [hA.out] at hbs ⊢
            dsimp only at *
            have hR : RowBs w3 (wo.drewN q).heap.size v (ls.take W) := ⟨vs, hrow, hbs⟩
            clear hrow hbs
            obtain ⟨Av, cv, hv, hvc, hvm⟩ := hR.form
            rw [show (ls.take W).length = W by rw [List.length_take]; omega] at hv hvc
            subst hv
            unfold maxLen at hvm
            have HR := Lib.hid hR; clear hR
            have hbw3 : Below w.heap.size w w3 := (below_drewN hbel q).trans (hb3.mono hbel.size)
            have HBY := Lib.hid (HH.out.below hbw3)
            generalize hEW' : Frm.endB ls W = EW at *
            clear hEW'
            have t1 : ((W : Int) != (W : Int)) = false := by simp
            have t2 : ((EW : Int) != (EW : Int)) = false := by simp
            by_cases hz : EW = cu
            all_goals
              have hzz : Hid ((if EW = cu then 0 else 1) = (if EW = cu then 0 else 1)) := rfl
              first | rw [if_pos hz] | rw [if_neg hz]
              have t3 : ((EW : Int) == (cu : Int)) = decide (EW = cu) := by
                rw [Bool.eq_iff_iff]; simp; omega
              first | rw [decide_eq_true hz] at t3 | rw [decide_eq_false hz] at t3
              have HZ := Lib.hid hz; clear hz
              go_wp2
              clear t1 t2 t3 HALL hA
              go_loopw [16] (fun i w4 => ∃ m q : Nat, i = .int .i64 m ∧ m ≤ W ∧ w4 = w3.drewN q) (fun i _ => W - (intOf i).toNat)
              case atStart => exact ⟨0, 0, rfl, Nat.zero_le _, rfl⟩
              case round =>
                obtain ⟨m, q', rfl, hm, rfl⟩ := hrel
                by_cases hmW : m < W
                · obtain ⟨gv, A7, c7, rfl, hc7, hb7⟩ := HR.out.at_ m (by rw [List.length_take]; omega)
                  obtain ⟨b8, o8, rfl, _, hc8⟩ := HBY.out.cell (by omega)
                  obtain ⟨A8, c8, hc8', hb8⟩ := hc8 m (by rw [HH.out.len]; omega)
                  rw [List.getElem_take] at hc7 hb7
                  have hs7 := strs hb7
                  have hs8 := strs hb8
                  clear hb7 hb8 hc8
                  generalize ls[m] = x at *
                  have u1 : (m : Int) < (W : Int) := by omega
                  have u2 : (m : Int) < (j : Int) := by omega
                  have u5 : (!(x == x)) = false := by simp
                  go_wp2
                  go_quiet (fail)
                  go_wp2
                  go_roundw
                  case rel => exact ⟨m + 1, _, by go_num, by omega, rfl⟩
                  case measure => simp [intOf]; omega
                · go_wp2
                  go_ret
                  exact ⟨rfl, below_drewN hbw3 _⟩
end Go.Proofs.Ytdnbejhaocpacaa
