/-
  Layer 7, the document's: number.
  Layer 7, the document's: Ranges.
-/
import Derived.Test.YtoljbbmjbgepiaaGreatDoorMUniPlain
import Derived.Test.YtoljbbmjbgepiaaGreatDoorMRHad4
import Derived.Deep.RegionHeld3
import Derived.Test.YtoljbbmjbgepiaaGreatDoorMHad
import Derived.Test.YtoljbbmjbgepiaaGreatDoorMOrdAll
namespace Go.Proofs.YtoljbbmjbgepiaaGreatDoor
open Go.RowKit Go.Maps Go.Sort

theorem conv1 (w : World) (v : Int) : (convert 65 9 (.slice (some ⟨w.heap.size, 0, none⟩) 1 1)).run Tryz.prog (w.alloc (.cells #[.int .u8 v] 5)) = .ok (.string ⟨[UInt8.ofNat v.toNat].toArray⟩) (w.alloc (.cells #[.int .u8 v] 5)) := by
  have := run_convert_bytes_arg (P := Tryz.prog) (w.alloc (.cells #[.int .u8 v] 5)) 65 5 Tryz.underlying65 Tryz.underlying5 w.heap.size 0 1 1 [v] rfl (fun i hi => by
    obtain rfl : i = 0 := by omega
    rw [cell_of_row _ w.heap.size _ #[.int .u8 v] 5 (0, 0) (heap_alloc_new w _)]; rfl) 9 Tryz.underlying9
  rw [this]
  simp [strOfNums]
theorem conv1d (w : World) (v : Int) : (convert 65 9 (.slice (some ⟨w.heap.size, 0, none⟩) 1 1)).run Tryz.prog (w.alloc (.cells #[.int .u8 v] 5)).drew = .ok (.string ⟨[UInt8.ofNat v.toNat].toArray⟩) (w.alloc (.cells #[.int .u8 v] 5)).drew := by
  have := run_convert_bytes_arg (P := Tryz.prog) (w.alloc (.cells #[.int .u8 v] 5)).drew 65 5 Tryz.underlying65 Tryz.underlying5 w.heap.size 0 1 1 [v] rfl (fun i hi => by
    obtain rfl : i = 0 := by omega
    show (w.alloc (.cells #[.int .u8 v] 5)).cell? _ = _
    rw [cell_of_row _ w.heap.size _ #[.int .u8 v] 5 (0, 0) (heap_alloc_new w _)]; rfl) 9 Tryz.underlying9
  rw [this]
  simp [strOfNums]
/-- a byte that lies in a block -/
theorem convAt (w : World) (b : Nat) (v : Int) (h : w.cell? ⟨b, 0, none⟩ = some (.int .u8 v)) : (convert 65 9 (.slice (some ⟨b, 0, none⟩) 1 1)).run Tryz.prog w = .ok (.string ⟨[UInt8.ofNat v.toNat].toArray⟩) w := by
  have := run_convert_bytes_arg (P := Tryz.prog) w 65 5 Tryz.underlying65 Tryz.underlying5 b 0 1 1 [v] rfl (fun i hi => by
    obtain rfl : i = 0 := by omega
    rw [h]; rfl) 9 Tryz.underlying9
  rw [this]
  simp [strOfNums]

def NumPost (w : World) (n : Nat) (e : Ending) (w' : World) : Prop := e = .returned (.string ⟨(numB n).toArray⟩) ∧ Below w.heap.size w w'
set_option maxRecDepth 100000 in
set_option maxHeartbeats 2000000 in
theorem rnum_any (n : Nat) : ∀ (_ : n < 4611686018427387904) (w : World), Calls Tryz.prog 80 #[.int .i64 n] w (NumPost w n) := by
  induction n using Nat.strongRecOn with
  | _ n ih =>
    intro hn w
    by_cases hlo : n < 128
    · have HB := Lib.hid (numB_lo hlo)
      have kc := conv1
      have t1 : (n : Int) < 128 := by omega
      clear ih
      go_enter Tryz.func80, Tryz.ntmps80
      go_wp2
      go_ret
      refine ⟨?_, (Below.refl _ _).alloc (Nat.le_refl _) _⟩
      rw [HB.out]; first | rfl | (simp; done)
    · obtain ⟨q, r, hq, hr, hqr, hr8⟩ : ∃ q r : Nat, q = n / 128 ∧ r = n % 128 ∧ q < n ∧ r < 128 := ⟨_, _, rfl, rfl, by omega, by omega⟩
      have HB := Lib.hid (show numB n = UInt8.ofNat (r + 128) :: numB q by rw [numB_hi hlo, hq, hr])
      have HIH := Lib.hid (show ∀ W, Calls Tryz.prog 80 #[.int .i64 (q : Int)] W (NumPost W q) from fun W => ih q hqr (by omega) W)
      have t1 : ¬ (n : Int) < 128 := by omega
      have HS := Lib.hid (show ∀ W : World, (W.alloc (.cells #[.int .u8 (128 + (r : Int))] 5)).heap.size = W.heap.size + 1 from fun W => by simp)
      have hln : (numB q).length ≤ 9000000000000000000 := by have := numB_short (n := q) (by omega); omega
      have HLZ := Lib.hid (show ¬ 9223372036854775807 < 1 + (numB q).length by omega)
      obtain ⟨cc, hcc⟩ : ∃ cc, cc = UInt8.ofNat (128 + (r : Int)).toNat := ⟨_, rfl⟩
      have HF := Lib.hid (show ∀ W : World, Below w.heap.size w W → NumPost w n (.returned (.string (⟨#[cc]⟩ ++ ⟨(numB q).toArray⟩))) W from fun W hW => ⟨by
        have := str_app [cc] (numB q)
        rw [HB.out]
        rw [show UInt8.ofNat (r + 128) = cc by rw [hcc, show (128 + (r : Int)).toNat = r + 128 by omega]]
        exact congrArg (fun z => Ending.returned (Value.string z)) this.symm, hW⟩)
      have HCC := Lib.hid hcc
      have hb1 : Below w.heap.size w (w.alloc (.cells #[.int .u8 (128 + (r : Int))] 5)).drew := ((Below.refl _ _).alloc (Nat.le_refl _) _).drew
      have HBA := Lib.hid (show ∀ W, Below (w.alloc (.cells #[.int .u8 (128 + (r : Int))] 5)).drew.heap.size (w.alloc (.cells #[.int .u8 (128 + (r : Int))] 5)).drew W → Below w.heap.size w W from fun W h => hb1.trans (h.mono hb1.size))
      have HBB := Lib.hid (show ∀ W, Below w.drew.heap.size w.drew W → Below w.heap.size w W from fun W h => (Below.refl w.heap.size w).drew.trans h)
      clear hcc hb1
      have HW := Lib.hid (show ∀ w2 : World, Below (w.alloc (.cells #[.int .u8 (128 + (r : Int))] 5)).drew.heap.size (w.alloc (.cells #[.int .u8 (128 + (r : Int))] 5)).drew w2 → w2.cell? ⟨w.heap.size, 0, none⟩ = some (.int .u8 (128 + (r : Int))) from fun w2 h2 => (h2.cell (p := ⟨w.heap.size, 0, none⟩) (by simp)).trans (cell_of_row _ w.heap.size 0 _ _ (0, 0) (heap_alloc_new w _)))
      obtain ⟨e1, e2, e5, e3, e4⟩ : (n : Int).tmod 128 = (r : Int) ∧ (n : Int).tdiv 128 = (q : Int) ∧ IntKind.i64.wrap (q : Int) = (q : Int) ∧ IntKind.i64.wrap (128 + (r : Int)) = 128 + (r : Int) ∧ IntKind.u8.wrap (128 + (r : Int)) = 128 + (r : Int) := ⟨by rw [hr]; exact (Int.ofNat_tmod n 128).symm, by rw [hq]; exact (Int.ofNat_tdiv n 128).symm, IntWalk.i64_in _ (by omega), IntWalk.i64_in _ (by omega), by simp [IntKind.wrap, IntKind.bits, IntKind.signed]; omega⟩
      clear ih hlo hq hr
      go_enter Tryz.func80, Tryz.ntmps80
      go_wp2
      have kc := conv1d w (128 + (r : Int))
      rw [← HCC.out] at kc
      have hlz : ¬ 9223372036854775807 < 1 + (numB q).length := HLZ.out
      go_region_law ((go_simp; go_at_call 80; (with_reducible refine (HIH.out _).mono ?_); rintro r9 w2 ⟨rfl, hb2⟩; have HB2 := Lib.hid hb2; (first | (have kc3 := convAt _ _ _ (HW.out _ hb2); rw [← HCC.out] at kc3) | (have kc4 := conv1 w2 (128 + (r : Int)); rw [← HCC.out] at kc4)); clear hb2))
      all_goals
        clear e1 e2 e3 e4 e5 hlz
        go_wp2
        go_ret
        first
          | exact HF.out _ (HBA.out _ HB2.out)
          | exact HF.out _ (HBB.out _ HB2.out)
          | exact HF.out _ ((HBB.out _ HB2.out).alloc (HBB.out _ HB2.out).size _)
end Go.Proofs.YtoljbbmjbgepiaaGreatDoor
namespace Go.Proofs.YtoljbbmjbgepiaaGreatDoor
open Go.RowKit Go.Maps Go.Sort

theorem arr_info : (Tryz.prog.info? 121).map (fun i => (i.zero, i.size, i.bytes)) = some (some (.agg #[.int .i64 0, .int .i64 0]), 2, 16) := by kernel_rfl
theorem arr_one (a b : Int) : ∀ u ∈ [Value.int .i64 a, .int .i64 b], u.oneCell' = true := by intro u hu; simp at hu; rcases hu with rfl | rfl <;> rfl
def OwnA (w : World) (base : Nat) (v : Value) (rs : Rg) : Prop := w.ownsRow base 121 2 v rs.length (rgCells rs)
def RngPost (w : World) (rs : Rg) (e : Ending) (w' : World) : Prop := ∃ v, e = .returned v ∧ OwnA w' w.heap.size v rs ∧ Below w.heap.size w w'
def RngRel (w : World) (l : List Int) (v i : Value) (wr : World) : Prop := ∃ k : Nat, i = .int .i64 k ∧ k ≤ l.length ∧ OwnA wr w.heap.size v (rgs (l.take k)) ∧ Below w.heap.size w wr
theorem rgs_snoc (l : List Int) (n : Int) : rgs (l ++ [n]) = joinN (rgs l) n := by unfold rgs; rw [List.foldl_append]; rfl
theorem rgs_take (l : List Int) (k : Nat) (hk : k < l.length) : rgs (l.take (k + 1)) = joinN (rgs (l.take k)) l[k] := by
  rw [List.take_add_one, List.getElem?_eq_getElem hk, Option.toList_some, rgs_snoc]
theorem joinN_len (out : Rg) (n : Int) : (joinN out n).length ≤ out.length + 1 := by
  rcases List.eq_nil_or_concat out with rfl | ⟨i, l, rfl⟩
  · simp [joinN]
  · rw [List.concat_eq_append]; unfold joinN; rw [List.getLast?_append, List.getLast?_singleton, Option.some_or]; simp only; split <;> simp
theorem rgs_len (l : List Int) : (rgs l).length ≤ l.length := by
  unfold rgs
  have : ∀ (l : List Int) (out : Rg), (l.foldl joinN out).length ≤ out.length + l.length := fun l => by
    induction l with
    | nil => intro out; simp
    | cons n l ih => intro out; have := ih (joinN out n); have := joinN_len out n; simp only [List.foldl_cons, List.length_cons]; omega
  have := this l []
  simpa using this
theorem joinN_nil (n : Int) : joinN [] n = [(n, n + 1)] := rfl
/-- by its last range -/
theorem joinN_at {out : Rg} {j : Nat} (hj : j = out.length) (h0 : 0 < j) (n : Int) : joinN out n = if (out[j - 1]'(by omega)).2 = n then out.set (j - 1) ((out[j - 1]'(by omega)).1, n + 1) else out ++ [(n, n + 1)] := by
  rcases List.eq_nil_or_concat out with rfl | ⟨i, l, rfl⟩
  · simp at hj; omega
  · simp only [List.concat_eq_append] at *
    have hjl : j - 1 = i.length := by rw [hj]; simp
    unfold joinN
    rw [List.getLast?_append, List.getLast?_singleton, Option.some_or]
    simp only
    have hg : (i ++ [l])[j - 1]'(by simp; omega) = l := by simp only [hjl]; simp
    rw [hg]
    split
    · rw [hjl]; simp
    · rfl
set_option maxRecDepth 100000 in
set_option maxHeartbeats 4000000 in
theorem rranges_any (w : World) (S : Nat → Prop) (v : Value) (l : List Int) (h : IntsV w S v l) (hn : l.length ≤ 90000) (hb0 : ∀ n ∈ l, 1 ≤ n ∧ n ≤ 1099511627776) :
    Calls Tryz.prog 81 #[v] w (RngPost w (rgs l)) := by
  have HH := Lib.hid h; have HB0 := Lib.hid hb0
  obtain ⟨A, c, hv, _, _⟩ := h
  subst hv
  obtain ⟨i0, hi, hz0, hz1, hz2⟩ := info_parts arr_info
  have HI := Lib.hid hi; have HZ0 := Lib.hid hz0; have HZ1 := Lib.hid hz1; have HZ2 := Lib.hid hz2
  clear hi hz0 hz1 hz2 hb0
  go_enter Tryz.func81, Tryz.ntmps81
  go_wp2
  go_loopw [3, 4] (fun v i wr => RngRel w l v i wr) (fun _ i _ => l.length - (intOf i).toNat)
  case atStart => exact ⟨0, rfl, Nat.zero_le _, World.ownsRow_lit w #[] 0 (Nat.le_refl _) (by simp [maxLen]) rfl, (Below.refl _ _).alloc (Nat.le_refl _) _⟩
  case round =>
    obtain ⟨k, rfl, hk, hown, hbel⟩ := hrel
    have hs0 := hbel.size
    have hrl := rgs_len (l.take k)
    rw [List.length_take] at hrl
    by_cases hkn : k < l.length
    · obtain ⟨b, off, rfl, hb, hc⟩ := HH.out.at_ k hkn
      have hc' : wr.cell? ⟨b, off + k, none⟩ = some (.int .i64 l[k]) := (hbel.cell (p := ⟨b, off + k, none⟩) hb).trans hc
      have HTK := Lib.hid (rgs_take l k hkn)
      have hyb := HB0.out l[k] (List.getElem_mem hkn)
      have HC0 := Lib.hid hc
      generalize l[k] = y at *
      generalize rgs (l.take k) = out at *
      have hov := hown
      obtain ⟨VV, hVV⟩ : ∃ VV, VV = u3 := ⟨_, rfl⟩
      rw [← hVV] at hov
      have HAPP := Lib.hid (show ∀ (wq : World) v' w2, Below w.heap.size w wq → OwnA wq w.heap.size VV out → w2.ownsRow w.heap.size 121 2 v' (out.length + 1) (rgCells out ++ [.int .i64 y, .int .i64 (y + 1)]) → (wq.alloc (.cells #[.int .i64 y, .int .i64 (y + 1)] 121)).drew.grownBy w2 VV.ownBlock → rgs (l.take (k + 1)) = out ++ [(y, y + 1)] → RngRel w l v' (.int .i64 ((k + 1 : Nat) : Int)) w2 from fun wq v' w2 hbq hoq ho2 hg2 he => ⟨k + 1, rfl, by omega, by
        rw [he]; unfold OwnA; rw [rgCells_append, List.length_append]; exact ho2, Below.grown (hbq.alloc hbq.size _).drew hg2 (by have := hbq.size; simp; omega) (fun k' hk' => (World.ownsRow.lt hoq k' hk').1)⟩)
      have HHVV := Lib.hid hVV
      have HO := Lib.hid hown
      clear hown hc hov
      have t1 : (k : Int) < l.length := by omega
      have HCZ := Lib.hid (show ∀ (wq w2 : World) (v : Value), Below w.heap.size w wq → OwnA wq w.heap.size v out → (wq.alloc (.cells #[.int .i64 y, .int .i64 (y + 1)] 121)).drew.grownBy w2 v.ownBlock → w2.cell? ⟨b, off + k, none⟩ = some (.int .i64 y) from fun wq w2 v hq ho hg => ((Below.grown (hq.alloc hq.size _).drew hg (by have := hq.size; simp; omega) (fun k' hk' => (World.ownsRow.lt ho k' hk').1)).cell (p := ⟨b, off + k, none⟩) hb).trans HC0.out)
      have ey : IntKind.i64.wrap (y + 1) = y + 1 := IntWalk.i64_in _ (by omega)
      by_cases h0 : 0 < out.length
      · obtain ⟨g, cp, hvf, _, hgl⟩ := World.ownsRow.form HO.out h0
        have hVf : VV = .slice (some ⟨g, 0, none⟩) out.length cp := hVV.trans hvf
        subst hvf
        clear hVV
        obtain ⟨j, hj⟩ : ∃ j, j = out.length := ⟨_, rfl⟩
        have hj0 : 0 < j := by omega
        have hjl : j - 1 < out.length := by omega
        have HJ := Lib.hid (joinN_at hj hj0 y)
        have y0 : wr.cell? ⟨g, (j - 1) * 2 + 1, none⟩ = some (.int .i64 (out[j - 1]'hjl).2) := by
          rw [World.ownsRow.cellAt HO.out ((j - 1) * 2 + 1) (by omega)]; exact (rgCells_get out (j - 1) hjl).2
        have y1 : wr.frozen? ⟨g, (j - 1) * 2 + 1, none⟩ = false := World.ownsRow.frozenAt HO.out _
        have HST := Lib.hid (show ∀ t, (rgCells out).set ((j - 1) * 2 + 1) (.int .i64 t) = rgCells (out.set (j - 1) ((out[j - 1]'hjl).1, t)) from fun t => rgCells_set1 out (j - 1) hjl t)
        generalize out[j - 1]'hjl = r at *
        rw [hVf] at HAPP
        have HLJ := Lib.hid hj
        have hjk : j ≤ 90000 := by omega
        rw [← hj] at HO HAPP ⊢
        clear hj h0 hjl hVf HHVV
        have ej : (j : Int) - 1 = ((j - 1 : Nat) : Int) := by omega
        have j1 : ((j - 1 : Nat) : Int) < j := by omega
        have wj : IntKind.i64.wrap ((j - 1 : Nat) : Int) = ((j - 1 : Nat) : Int) := IntWalk.i64_in _ (by omega)
        have d0 : decide (0 < (j : Int)) = true := decide_eq_true (by omega)
        have d1 : (0 : Int) < (j : Int) := by omega
        have d0' : decide (0 < j) = true := decide_eq_true hj0
        by_cases hry : r.2 = y
        · have hbe : (r.2 == y) = true := by simp [hry]
          have HT := Lib.hid (show rgs (l.take (k + 1)) = out.set (j - 1) (r.1, y + 1) by rw [HTK.out, HJ.out, if_pos hry])
          clear hry HJ HTK HAPP
          go_wp2
          go_quiet (fail)
          have hbq : Below w.heap.size w (wr.drewN nq) := below_drewN hbel nq
          have HOQ := Lib.hid (show OwnA (wr.drewN nq) w.heap.size (.slice (some ⟨g, 0, none⟩) j cp) out from HO.out)
          have hcq : (wr.drewN nq).cell? ⟨b, off + k, none⟩ = some (.int .i64 y) := hc'
          have y0q : (wr.drewN nq).cell? ⟨g, (j - 1) * 2 + 1, none⟩ = some (.int .i64 r.2) := y0
          have y1q : (wr.drewN nq).frozen? ⟨g, (j - 1) * 2 + 1, none⟩ = false := y1
          clear hc' y0 y1 HO hbe d0 d1 d0'
          generalize wr.drewN nq = wq at *
          go_wp2
          go_still_tail 10, (by kernel_rfl)
          change wpList _ _ _ _ _ (wq.drewN 1)
          have hbq2 : Below w.heap.size w (wq.drewN 1) := below_drewN hbq 1
          have HOQ2 := Lib.hid (show OwnA (wq.drewN 1) w.heap.size (.slice (some ⟨g, 0, none⟩) j cp) out from HOQ.out)
          have y0z : (wq.drewN 1).cell? ⟨g, (j - 1) * 2 + 1, none⟩ = some (.int .i64 r.2) := y0q
          have y1z : (wq.drewN 1).frozen? ⟨g, (j - 1) * 2 + 1, none⟩ = false := y1q
          clear hcq y0q y1q HOQ
          generalize wq.drewN 1 = wz at *
          have HR := Lib.hid (show RngRel w l (.slice (some ⟨g, 0, none⟩) j cp) (.int .i64 ((k + 1 : Nat) : Int)) (wz.setCell ⟨g, (j - 1) * 2 + 1, none⟩ (.int .i64 (y + 1))) from ⟨k + 1, rfl, by omega, by
            rw [HT.out]
            have h9 := HOQ2.out
            unfold OwnA at h9 ⊢
            rw [HLJ.out] at h9
            have h8 := (World.ownsRow.stored h9 ((j - 1) * 2 + 1) (.int .i64 (y + 1))).1
            rw [HST.out] at h8
            rw [List.length_set]
            rw [HLJ.out] at h8 ⊢
            exact h8, hbq2.setCell (by assumption) _⟩)
          clear ej j1 wj
          go_wp2
          go_roundw
          case rel => exact HR.out
          case measure => simp [intOf]; omega
        · have hbe : (r.2 == y) = false := by simp [hry]
          have HT := Lib.hid (show rgs (l.take (k + 1)) = out ++ [(y, y + 1)] by rw [HTK.out, HJ.out, if_neg hry])
          clear hry HJ HTK
          go_wp2
          go_quiet (fail)
          have hbq : Below w.heap.size w (wr.drewN nq) := below_drewN hbel nq
          have HOQ := Lib.hid (show OwnA (wr.drewN nq) w.heap.size (.slice (some ⟨g, 0, none⟩) j cp) out from HO.out)
          have hcq : (wr.drewN nq).cell? ⟨b, off + k, none⟩ = some (.int .i64 y) := hc'
          clear hc' y0 y1 HO hbe d0 d1 d0' ej j1 wj
          generalize wr.drewN nq = wq at *
          go_wp2
          have HNZ := Lib.hid (show Cel (wq.alloc (.cells #[.int .i64 y, .int .i64 (y + 1)] 121)).drew (wq.heap.size + 1) 2 (some ⟨wq.heap.size, 0, none⟩) 1 1 [.int .i64 y, .int .i64 (y + 1)] from Cel.drewN (Cel.new (size := 2) (n := 1) wq #[.int .i64 y, .int .i64 (y + 1)] _ (by unfold maxLen; omega) rfl) 1)
          have HOZ := Lib.hid (show (wq.alloc (.cells #[.int .i64 y, .int .i64 (y + 1)] 121)).drew.ownsRow w.heap.size 121 2 (.slice (some ⟨g, 0, none⟩) j cp) out.length (rgCells out) from World.ownsRow.alloc HOQ.out _)
          have hsq := hbq.size
          go_region_held3 (fun wx => wx.cell? ⟨b, off + k, none⟩ = some (.int .i64 y)) (first | assumption | go_keep) (first | (refine step_app rfl (.tmp 40) (.tmp 51) 116 rfl 121 i0 _ 2 16 Tryz.underlying116 HI.out HZ0.out HZ1.out HZ2.out rfl (by decide) w.heap.size (.slice (some ⟨g, 0, none⟩) j cp) out.length (rgCells out) rfl HOZ.out (wq.heap.size + 1) _ _ _ [.int .i64 y, .int .i64 (y + 1)] rfl HNZ.out (arr_one _ _) (by unfold maxLen; omega) (by omega) (by have := hbq.size; first | omega | (simp; done) | (simp; omega)) ?_; intro v' w2 hown2 hg2 _; have HO2 := Lib.hid hown2; have HG2 := Lib.hid hg2; have hcz := HCZ.out wq w2 _ hbq HOQ.out hg2; clear hown2 hg2))
          have HR := Lib.hid (by have h9 := HAPP.out; rw [HLJ.out] at h9; have h8 := HOQ.out; rw [HLJ.out] at h8; exact h9 wq v' w2 hbq h8 HO2.out HG2.out HT.out)
          clear hcq hcz
          go_wp2
          go_roundw
          case rel => exact HR.out
          case measure => simp [intOf]; omega
      · have ho0 : out = [] := List.eq_nil_of_length_eq_zero (by omega)
        have HT := Lib.hid (show rgs (l.take (k + 1)) = out ++ [(y, y + 1)] by rw [HTK.out, ho0, joinN_nil]; rfl)
        obtain ⟨B, cp, hvf⟩ := ownsRow_form HO.out
        have hVf : VV = .slice B out.length cp := hVV.trans hvf
        subst hvf
        rw [hVf] at HAPP
        have hol : out.length = 0 := by rw [ho0]; rfl
        rw [hol]
        rw [hol] at HAPP HO
        clear hVV hVf HHVV HTK h0
        have HL0 := Lib.hid hol; have HO0 := Lib.hid ho0
        clear hol ho0
        go_wp2
        go_quiet (fail)
        have hbq : Below w.heap.size w (wr.drewN nq) := below_drewN hbel nq
        have HOQ := Lib.hid (show OwnA (wr.drewN nq) w.heap.size (.slice B 0 cp) out from HO.out)
        have hcq : (wr.drewN nq).cell? ⟨b, off + k, none⟩ = some (.int .i64 y) := hc'
        clear hc' HO
        generalize wr.drewN nq = wq at *
        go_wp2
        have HNZ := Lib.hid (show Cel (wq.alloc (.cells #[.int .i64 y, .int .i64 (y + 1)] 121)).drew (wq.heap.size + 1) 2 (some ⟨wq.heap.size, 0, none⟩) 1 1 [.int .i64 y, .int .i64 (y + 1)] from Cel.drewN (Cel.new (size := 2) (n := 1) wq #[.int .i64 y, .int .i64 (y + 1)] _ (by unfold maxLen; omega) rfl) 1)
        have HOZ := Lib.hid (show (wq.alloc (.cells #[.int .i64 y, .int .i64 (y + 1)] 121)).drew.ownsRow w.heap.size 121 2 (.slice B 0 cp) out.length (rgCells out) from World.ownsRow.alloc HOQ.out _)
        have hsq := hbq.size
        go_region_held3 (fun wx => wx.cell? ⟨b, off + k, none⟩ = some (.int .i64 y)) (first | assumption | go_keep) (first | (refine step_app rfl (.tmp 40) (.tmp 51) 116 rfl 121 i0 _ 2 16 Tryz.underlying116 HI.out HZ0.out HZ1.out HZ2.out rfl (by decide) w.heap.size (.slice B 0 cp) out.length (rgCells out) rfl HOZ.out (wq.heap.size + 1) _ _ _ [.int .i64 y, .int .i64 (y + 1)] rfl HNZ.out (arr_one _ _) (by unfold maxLen; omega) (by omega) (by have := hbq.size; first | omega | (simp; done) | (simp; omega)) ?_; intro v' w2 hown2 hg2 _; have HO2 := Lib.hid hown2; have HG2 := Lib.hid hg2; have hcz := HCZ.out wq w2 _ hbq HOQ.out hg2; clear hown2 hg2))
        have HR := Lib.hid (by have h9 := HAPP.out; have h7 := HO2.out; rw [HL0.out] at h7; exact h9 wq v' w2 hbq HOQ.out h7 HG2.out HT.out)
        clear hcq hcz
        go_wp2
        go_roundw
        case rel => exact HR.out
        case measure => simp [intOf]; omega
    · have t1 : ¬ (k : Int) < l.length := by omega
      have HKK := Lib.hid (show l.take k = l from List.take_of_length_le (by omega))
      obtain ⟨B, cp, hvf⟩ := ownsRow_form hown
      subst hvf
      have HO := Lib.hid hown
      clear hown
      go_wp2
      go_ret
      exact ⟨_, rfl, by have := HO.out; rw [HKK.out] at this; rw [HKK.out]; exact this, hbel⟩
end Go.Proofs.YtoljbbmjbgepiaaGreatDoor
