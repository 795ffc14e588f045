/-
  Layer 7: Count.
-/
import Derived.Test.YtoljbbmjbgepiaaGreatDoorMItkHad
import Derived.Test.YtoljbbmjbgepiaaGreatDoorMCntPlain
namespace Go.Proofs.YtoljbbmjbgepiaaGreatDoor
open Go.RowKit Go.Maps Go.Sort Go.Shelf

theorem cntR_take (rs : Rg) (k : Nat) (hk : k < rs.length) : cntR (rs.take (k + 1)) = cntR (rs.take k) + (rs[k].2 - rs[k].1) := by
  rw [List.take_add_one, List.getElem?_eq_getElem hk, Option.toList_some, cntR_append, cntR_cons]
  show _ + (_ + 0) = _
  omega
theorem cntR_part {rs : Rg} (h : RgOk rs) (k : Nat) : 0 ≤ cntR (rs.take k) ∧ cntR (rs.take k) ≤ cntR rs := by
  have h1 : 0 ≤ cntR (rs.take k) := cntR_nonneg fun r hr => (h.each r (List.mem_of_mem_take hr)).2.1
  have h2 : 0 ≤ cntR (rs.drop k) := cntR_nonneg fun r hr => (h.each r (List.mem_of_mem_drop hr)).2.1
  have h3 : cntR rs = cntR (rs.take k) + cntR (rs.drop k) := by rw [← cntR_append, List.take_append_drop]
  omega
def CnRel (w : World) (G : Nat → Prop) (bs bm r : Nat) (m : Had) (V : List UInt8 → Value) (n : Value) (wr : World) : Prop := ∃ todo cnt, n = .int .i64 (cntT todo m) ∧ MapR wr bm r (m.map fun p => (p.1, V p.1)) todo cnt ∧ HadAt wr G bs bm m V ∧ Below w.heap.size w wr
def CnIn (w1 : World) (c0 : Int) (rs : Rg) (n i : Value) (wz : World) : Prop := ∃ k : Nat, i = .int .i64 k ∧ k ≤ rs.length ∧ n = .int .i64 (c0 + cntR (rs.take k)) ∧ Below w1.heap.size w1 wz
def CntPost (w : World) (c : Int) (e : Ending) (w' : World) : Prop := e = .returned (.int .i64 c) ∧ Below w.heap.size w w'

set_option maxRecDepth 100000 in
set_option maxHeartbeats 4000000 in
theorem count_any (w : World) (G : Nat → Prop) (bs bm : Nat) (m : Had) (V : List UInt8 → Value) (h : HadAt w G bs bm m V) (hl : cntH m ≤ 1000000) (hr : ∀ p ∈ m, p.2.length ≤ 100000) :
    Calls Tryz.prog 43 #[.pointer (some ⟨bs, 0, none⟩)] w (CntPost w (cntH m)) := by
  have HH := Lib.hid h; have HR := Lib.hid hr
  have c0 := h.cell
  have HM' := Lib.hid h.map
  have HGL := Lib.hid h.lt
  have HOK := Lib.hid h.ok
  clear h hr
  go_enter Tryz.func43, Tryz.ntmps43
  go_wp2_with (at_range; refine wpList_range_S _ rfl _ 109 112 rfl Tryz.underlying109 bm (m.map fun p => (p.1, V p.1)) rfl HM'.out ?_; intro w0 hrg0 hg0 hs0)
  go_frame
  clear c0
  have hb0 : Below w.heap.size w w0 := ⟨hg0.os, hg0.tape, hg0.output, hg0.size, fun k hk => hg0.block k hk (by simp)⟩
  have HST := Lib.hid (show CnRel w G bs bm w.heap.size m V (.int .i64 0) w0 from ⟨_, _, by
      rw [show (fun k => (getB (m.map fun p => (p.1, V p.1)) k).isSome) = fun k => (getB m k).isSome from ?_, cntT_start]
      funext s
      unfold getB
      rw [List.find?_map]
      have e : ((fun p : List UInt8 × Value => p.1 == s) ∘ fun p : List UInt8 × Rg => (p.1, V p.1)) = fun p => p.1 == s := rfl
      rw [e]; cases m.find? fun p => p.1 == s <;> rfl, hrg0, HH.out.up hb0, hb0⟩)
  clear hg0 hrg0 hb0
  go_loopw [3] (fun n wr => CnRel w G bs bm w.heap.size m V n wr) (fun _ wr => wr.rangeLeft bm w.heap.size)
  case atStart => exact HST.out
  case round =>
    obtain ⟨todo, cnt, rfl, hrg, hhad, hbel⟩ := hrel
    have HRG := Lib.hid hrg; have HHD := Lib.hid hhad
    obtain ⟨hle, hge⟩ := cntT_le (todo := todo) HOK.out
    clear hrg hhad
    go_wp2_with (at_next; refine wpList_next_S _ rfl _ rfl bm w.heap.size (m.map fun p => (p.1, V p.1)) todo cnt rfl HRG.out ?_ ?_)
    · intro hdone
      have HF := Lib.hid (cntT_end m hdone)
      clear hdone
      go_wp2
      go_ret
      exact ⟨ret_int HF.out, hbel⟩
    · intro k v w1 cnt1 htk hget hkl hrg1 hlt1 hgr hsz1 hen
      obtain ⟨rs, hgk, rfl⟩ := getB_rowV hget
      have hmem := getB_mem hgk
      have hpo := HOK.out.each _ hmem
      have hpl := HR.out _ hmem
      simp only at hpo hpl
      have S1 := HHD.out.grown hgr (fun hx => by have := HGL.out _ hx; omega)
      have hob := S1.own _ hmem
      simp only at hob
      obtain ⟨A2, c2, hvb, hC2⟩ := hob.celForm
      have HC2 := Lib.hid hC2
      have hb1 : Below w.heap.size w w1 := ⟨hgr.os.trans hbel.os, hgr.tape.trans hbel.tape, hgr.output.trans hbel.output, Nat.le_trans hbel.size hgr.size, fun b hb => (hgr.block b (Nat.lt_of_lt_of_le hb hbel.size) (fun e => by injection e with e; omega)).trans (hbel.block b hb)⟩
      have HSTEP := Lib.hid (show cntT (fun x => todo x && !(x == k)) m = cntT todo m + cntR rs by
        rw [cntT_step HOK.out.up htk]
        unfold hadRow; rw [hgk]; rfl)
      have hle2 := (cntT_le (todo := fun x => todo x && !(x == k)) HOK.out).1
      rw [HSTEP.out] at hle2
      have HFIN := Lib.hid (show ∀ wz, Below w1.heap.size w1 wz → CnRel w G bs bm w.heap.size m V (.int .i64 (cntT todo m + cntR rs)) wz ∧ wz.rangeLeft bm w.heap.size < wr.rangeLeft bm w.heap.size from fun wz hz => ⟨⟨_, cnt1, by rw [HSTEP.out], hrg1.up hz, S1.up hz, hb1.trans (hz.mono hb1.size)⟩, by
        rw [(hrg1.up hz).left_eq, HRG.out.left_eq]; exact hlt1⟩)
      have HPO := Lib.hid hpo.2.1
      rw [hvb] at hen
      rw [hvb]
      have HS0 := Lib.hid (show CnIn w1 (cntT todo m) rs (.int .i64 (cntT todo m)) (.int .i64 ((0 : Nat) : Int)) w1 from ⟨0, rfl, Nat.zero_le _, by simp [cntR], Below.refl _ _⟩)
      clear htk hget hrg1 hlt1 hgr hsz1 hgk hmem hpo S1 hob hvb hC2 hb1
      generalize cntT todo m = cc at *
      go_wp2
      go_loopw [3, 19] (fun n i wz => CnIn w1 cc rs n i wz) (fun _ i _ => rs.length - (intOf i).toNat)
      case atStart => exact HS0.out
      case round =>
        obtain ⟨j, rfl, hj, rfl, hbz⟩ := hrel
        generalize wr = wz at *
        have hpt := cntR_part HPO.out j
        by_cases hjn : j < rs.length
        · obtain ⟨b, off, rfl, hb, hc⟩ := Cel.cell (Cel.below HC2.out hbz) (by omega)
          have hg2 := rgCells_get rs j hjn
          have y0 := hc (j * 2) _ hg2.1
          have y1 := hc (j * 2 + 1) _ hg2.2
          have hea := HPO.out.each rs[j] (List.getElem_mem hjn)
          have HTK := Lib.hid (cntR_take rs j hjn)
          have hpt2 := cntR_part HPO.out (j + 1)
          rw [HTK.out] at hpt2
          clear hc hg2
          generalize rs[j] = r at *
          obtain ⟨ra, rb⟩ := r
          simp only at hea HTK y0 y1 hpt2
          rw [← Nat.add_assoc] at y1
          generalize cntR (rs.take j) = pp at *
          have t1 : (j : Int) < rs.length := by omega
          have HREL := Lib.hid (show CnIn w1 cc rs (.int .i64 (cc + pp + (rb - ra))) (.int .i64 ((j + 1 : Nat) : Int)) (wz.alloc (.cells #[.int .i64 ra, .int .i64 rb] 114)) from ⟨j + 1, rfl, hjn, by rw [HTK.out, Int.add_assoc], hbz.alloc hbz.size _⟩)
          go_wp2
          go_roundw
          case rel => exact HREL.out
          case measure => simp [intOf]; omega
        · have t1 : ¬ (j : Int) < rs.length := by omega
          have HJJ := Lib.hid (show rs.take j = rs from List.take_of_length_le (by omega))
          have HF2 := HFIN.out wz hbz
          rw [HJJ.out]
          have HFR := Lib.hid HF2.1; have HFM := Lib.hid HF2.2
          clear HF2
          go_wp2
          go_roundw
          case rel => exact HFR.out
          case measure => exact HFM.out
end Go.Proofs.YtoljbbmjbgepiaaGreatDoor
