/-
  The law SnapshotForgets, walked.
-/
import Derived.Test.YtbejfgmdkmddnaaGreatDoorSSnForX
namespace Go.Proofs.YtbejfgmdkmddnaaGreatDoor
open Go.RowKit Go.Maps Go.Sort Go.Shelf

theorem EvB.setItem {w : World} {g : Nat} {e : Ev} (h : EvB w g e) (p : List UInt8) : EvB (w.setCell ⟨g, 5, none⟩ (.string ⟨p.toArray⟩)) g { e with item := p } := heap_set_row h
theorem EvB.setVal {w : World} {g : Nat} {e : Ev} (h : EvB w g e) (o : Int) : EvB (w.setCell ⟨g, 6, none⟩ (.int .i64 o)) g { e with val := o } := heap_set_row h
theorem EvB.setText {w : World} {g : Nat} {e : Ev} (h : EvB w g e) (p : List UInt8) : EvB (w.setCell ⟨g, 7, none⟩ (.string ⟨p.toArray⟩)) g { e with text := p } := heap_set_row h
theorem admitted_gone {x : Itk} {f : Ev} (hk : f.kind = 14) (h : x.admitted f = 0) : f.per ∈ (x.admits f).gone := by
  unfold Itk.admitted at h
  unfold Itk.admits
  by_cases hr : x.refuses f = true
  · rw [if_pos hr] at h
    unfold Itk.verdict at h
    unfold Itk.refuses at hr
    by_cases hw : x.wrong f = true
    · rw [if_pos hw] at h; omega
    · rw [if_neg hw] at h
      have hw2 : x.wrong f = false := by simpa using hw
      rw [hw2, Bool.false_or] at hr
      rw [if_pos hr] at h; omega
  · rw [if_neg hr]
    unfold Itk.took
    rw [if_pos hk]
    show f.per ∈ f.per :: _
    simp
theorem offX_admits (slack : Int) (l : List Ev) (f : Ev) : (offX slack l).admits f = Itk.grown slack 0 (l.map ev0 ++ [⟨4, f, 0, []⟩]) := by
  rw [grown_snoc]
  unfold offX Itk.deed
  rw [if_neg (by show ¬ (4 : Int) < 4; decide), if_pos rfl]
theorem ItkAt.low30 {w : World} {F : Nat → Prop} {bi N : Nat} {x : Itk} (h : ItkAt w F bi N x) {b : Nat} (hb : F b) : b < w.heap.size := by
  obtain ⟨_, _, _, _, _, _, h6⟩ := h
  exact h6 b hb
/-- a row of drawn worlds -/
def LpR (w1 : World) (n : Nat) (i : Value) (W : World) : Prop := ∃ k : Nat, i = .int .i64 k ∧ k ≤ n ∧ Below w1.heap.size w1 W

set_option maxRecDepth 100000 in
set_option maxHeartbeats 8000000 in
theorem snforg_any (w : World) (slack : Int) (A : Option Addr) (n c : Nat) (ds : List Ev) (h : Evs w w.heap.size A n c ds) (hn : n ≤ 140737488355328) (f e : Ev) (hmx : MaxAt w) (hee : ErrsAt w) (htab : Lib.TabBelow Tryz.prog w.heap.size w "internal/strconv.uint64pow10" .u64 Lib.pow10Tab) :
    Calls Tryz.prog 5 #[.int .i64 slack, .slice A n c, f.agg, e.agg] w (Says true w) := by
  have hmlt := hmx.lt
  have HW0 := Lib.hid (show ∀ W, RowKit.Below w.heap.size w W → Says true w (.returned (.bool true)) W from fun W hW => ⟨rfl, hW⟩)
  have HEV := Lib.hid (show ∀ W, RowKit.Below w.heap.size w W → Evs W W.heap.size A n c ds from fun W hW => Cel.more (Cel.below h hW) hW.size)
  have HLE := Lib.hid (Evs.len h)
  have HMX := Lib.hid hmx; have HEE := Lib.hid hee; have HT := Lib.hid htab
  have hba : Below w.heap.size w (w.alloc (evObj f)) := (Below.refl _ _).alloc (Nat.le_refl _) _
  have hbb : Below w.heap.size w ((w.alloc (evObj f)).alloc (evObj e)) := hba.alloc hba.size _
  have hsa : (w.alloc (evObj f)).heap.size = w.heap.size + 1 := by simp
  have HF0 := Lib.hid ((EvB.new w f).up ((Below.refl _ _).alloc (Nat.le_refl _) (evObj e)))
  have HE0 := Lib.hid (show EvB ((w.alloc (evObj f)).alloc (evObj e)) (w.heap.size + 1) e by rw [← hsa]; exact EvB.new _ e)
  have HBB := Lib.hid hbb
  have hs0 : ((w.alloc (evObj f)).alloc (evObj e)).heap.size = w.heap.size + 2 := by simp
  clear h hba hbb hsa hmx hee htab
  unfold Ev.agg
  go_enter Tryz.func5, Tryz.ntmps5
  go_wp2_with fail
  generalize (w.alloc (evObj f)).alloc (evObj e) = w0 at *
  refine (lives30_any w0 (HMX.out.up HBB.out) (HEE.out.up HBB.out) (tab_up HT.out HBB.out)).mono ?_
  rintro r w1 ⟨rfl, hb1⟩
  have HB1 := Lib.hid (HBB.out.trans (hb1.mono HBB.out.size))
  have HF1 := Lib.hid (HF0.out.up hb1); have HE1 := Lib.hid (HE0.out.up hb1)
  have hs1 := hb1.size
  clear hb1
  obtain ⟨e0, e1, e2, e3, e4, e5, e6, e7⟩ := HF1.out.in_
  obtain ⟨d0, d1, d2, d3, d4, d5, d6, d7⟩ := HE1.out.in_
  by_cases hn30 : (30 : Int) < n
  · have HR := Lib.hid (HW0.out _ HB1.out)
    go_wp2
    go_ret
    exact HR.out
  have hbig : n ≤ 30 := by omega
  have HEV1 := Lib.hid (HEV.out w1 HB1.out)
  clear e0 e1 e2 e3 e4 e5 e6 e7 d0 d1 d2 d3 d4 d5 d6 d7
  go_wp2_with fail
  refine (some_any w1 A n c ds HEV1.out hn 300).mono ?_
  rintro r w2 ⟨rfl, hb2⟩
  have HB2 := Lib.hid (HB1.out.trans (hb2.mono HB1.out.size))
  have HF2 := Lib.hid (HF1.out.up hb2); have HE2 := Lib.hid (HE1.out.up hb2)
  have hs2 := hb2.size
  clear hb2 HEV1
  cases hsm : ds.any (fun d => bigB d 300)
  case true =>
    clear hsm
    have HR := Lib.hid (HW0.out w2 HB2.out)
    go_wp2
    go_ret
    exact HR.out
  have HSM := Lib.hid (sn_small hsm)
  clear hsm
  obtain ⟨e0, e1, e2, e3, e4, e5, e6, e7⟩ := HF2.out.in_
  obtain ⟨d0, d1, d2, d3, d4, d5, d6, d7⟩ := HE2.out.in_
  have hbA : Below w2.heap.size w2 (w2.alloc (.cells (evCells [f, e]).toArray 31)) := (Below.refl _ _).alloc (Nat.le_refl _) _
  have HEV2 := Lib.hid (show Evs (w2.alloc (.cells (evCells [f, e]).toArray 31)) (w2.alloc (.cells (evCells [f, e]).toArray 31)).heap.size (some ⟨w2.heap.size, 0, none⟩) 2 2 [f, e] from by
    have h3 := World.ownsRow_lit w2 (base := 0) (e := 31) (size := 8) (evCells [f, e]).toArray 2 (Nat.zero_le _) (by simp [maxLen]) rfl
    exact Cel.of_own h3)
  go_wp2_with fail
  clear e0 e1 e2 e3 e4 e5 e6 e7 d0 d1 d2 d3 d4 d5 d6 d7
  refine (some_any (w2.alloc (.cells (evCells [f, e]).toArray 31)) (some ⟨w2.heap.size, 0, none⟩) 2 2 [f, e] HEV2.out (by omega) 300).mono ?_
  rintro r w3 ⟨rfl, hb3⟩
  have hbB := hbA.trans (hb3.mono hbA.size)
  have HB3 := Lib.hid (HB2.out.trans (hbB.mono HB2.out.size))
  have HF3 := Lib.hid (HF2.out.up hbB); have HE3 := Lib.hid (HE2.out.up hbB)
  have hs3 := hbB.size
  clear hb3 hbA hbB HEV2
  cases hsm : [f, e].any (fun d => bigB d 300)
  case true =>
    clear hsm
    have HR := Lib.hid (HW0.out w3 HB3.out)
    go_wp2
    go_ret
    exact HR.out
  have HS2 := Lib.hid (sn_small hsm)
  clear hsm
  have hw3 : w.heap.size + 2 ≤ w3.heap.size := by omega
  go_wp2_with fail
  refine (itknew_any w3 slack 0).mono ?_
  rintro r w4 ⟨bi, F4, rfl, hI4, hb4, hF4⟩
  have HST := Lib.hid (show OfR w3 bi slack ds (.int .i64 ((0 : Nat) : Int)) w4 from ⟨0, F4, rfl, Nat.zero_le _, hI4, hb4, hF4⟩)
  clear hI4 hb4 hF4
  go_wp2
  go_loopw [10] (fun i W => OfR w3 bi slack ds i W) (fun i _ => n - (intOf i).toNat)
  case atStart => exact HST.out
  case round =>
    obtain ⟨k, F, rfl, hk, hI, hbel, hF⟩ := hrel
    have HI := Lib.hid hI; have HBQ := Lib.hid hbel; have HFQ := Lib.hid hF; have HB := Lib.hid (HB3.out.trans (hbel.mono HB3.out.size))
    have HF := Lib.hid (show ∀ b, F b → w.heap.size + 2 ≤ b from fun b hb => by have := hF b hb; omega)
    clear hI hbel hF HST
    by_cases hkn : k < n
    · have hkd : k < ds.length := by rw [HLE.out]; exact hkn
      have HEW := Lib.hid (HEV.out wr HB.out)
      obtain ⟨bA, off, hA, hb, hev⟩ := HEW.out.ev k hkd
      have HSK := Lib.hid (HSM.out _ (List.getElem_mem hkd))
      have HYN := Lib.hid (offX_take slack ds k hkd)
      subst hA
      obtain ⟨e0, e1, e2, e3, e4, e5, e6, e7⟩ := hev
      have t1 : (k : Int) < n := by omega
      generalize ds[k] = e at *
      generalize offX slack (ds.take k) = x at *
      clear hb
      go_wp2_with fail
      refine (offer_any wr F bi (2 * k) x HI.out (by omega) e HSK.out 0 (HMX.out.up HB.out) (fun hf => by have := HF.out _ hf; omega)).mono ?_
      rintro r w4 ⟨rfl, F4, hI4, hK4, hF4⟩
      have HREL := Lib.hid (show OfR w3 bi slack ds (.int .i64 ((k : Int) + 1)) w4 from ⟨k + 1, F4, rfl, hkd, by rw [HYN.out, show 2 * (k + 1) = 2 * k + 2 by omega]; exact hI4, HBQ.out.trans (hK4.below HBQ.out.size (fun b hb hf => by have := HFQ.out b hf; omega)), fun b hb => by
        rcases hF4 b hb with h | h
        · exact HFQ.out b h
        · have := HBQ.out.size; omega⟩)
      clear hI4 hK4 hF4 e0 e1 e2 e3 e4 e5 e6 e7
      go_wp2
      go_roundw
      case rel => exact HREL.out
      case measure => simp [intOf]; omega
    · have hke : ds.take k = ds := List.take_of_length_le (by have := HLE.out; omega)
      have t1 : ¬ (k : Int) < n := by omega
      rw [hke] at HI
      have hk60 : 2 * k ≤ 60 := by have := HLE.out; omega
      have hkl : ds.length ≤ 2 * k := by have := HLE.out; omega
      have HF5 := Lib.hid (HF3.out.up HBQ.out); have HE5 := Lib.hid (HE3.out.up HBQ.out)
      have hsR := HBQ.out.size
      have fz3 := HF5.out.frozen 3
      have HFa := Lib.hid (HF5.out.setKind 14)
      have fz5 := HFa.out.frozen 5
      have HFb := Lib.hid (show EvB ((wr.setCell ⟨w.heap.size, 3, none⟩ (.int .i64 14)).setCell ⟨w.heap.size, 5, none⟩ (.string ⟨#[]⟩)) w.heap.size { f with kind := 14, item := [] } from HFa.out.setItem [])
      have fz6 := HFb.out.frozen 6
      have HFc := Lib.hid (show EvB (((wr.setCell ⟨w.heap.size, 3, none⟩ (.int .i64 14)).setCell ⟨w.heap.size, 5, none⟩ (.string ⟨#[]⟩)).setCell ⟨w.heap.size, 6, none⟩ (.int .i64 0)) w.heap.size { f with kind := 14, item := [], val := 0 } from HFb.out.setVal 0)
      have fz7 := HFc.out.frozen 7
      have HFd := Lib.hid (show EvB ((((wr.setCell ⟨w.heap.size, 3, none⟩ (.int .i64 14)).setCell ⟨w.heap.size, 5, none⟩ (.string ⟨#[]⟩)).setCell ⟨w.heap.size, 6, none⟩ (.int .i64 0)).setCell ⟨w.heap.size, 7, none⟩ (.string ⟨#[]⟩)) w.heap.size { f with kind := 14, item := [], val := 0, text := [] } from HFc.out.setText [])
      have a3 := HF5.out.in_.2.2.2.1
      have a5 := HFa.out.in_.2.2.2.2.2.1
      have a6 := HFb.out.in_.2.2.2.2.2.2.1
      have a7 := HFc.out.in_.2.2.2.2.2.2.2
      have HK6 := Lib.hid (show Keep (fun b => b = w.heap.size) wr ((((wr.setCell ⟨w.heap.size, 3, none⟩ (.int .i64 14)).setCell ⟨w.heap.size, 5, none⟩ (.string ⟨#[]⟩)).setCell ⟨w.heap.size, 6, none⟩ (.int .i64 0)).setCell ⟨w.heap.size, 7, none⟩ (.string ⟨#[]⟩)) from
        (((keepCell wr w.heap.size 3 (.int .i64 14)).trans (keepCell _ w.heap.size 5 (.string ⟨#[]⟩)) (fun _ _ h => h)).trans (keepCell _ w.heap.size 6 (.int .i64 0)) (fun _ _ h => h)).trans (keepCell _ w.heap.size 7 (.string ⟨#[]⟩)) (fun _ _ h => h))
      go_upto_region 13 with fail
      clear fz3 fz5 fz6 fz7 a3 a5 a6 a7 HFa HFb HFc
      generalize (((wr.setCell ⟨w.heap.size, 3, none⟩ (.int .i64 14)).setCell ⟨w.heap.size, 5, none⟩ (.string ⟨#[]⟩)).setCell ⟨w.heap.size, 6, none⟩ (.int .i64 0)).setCell ⟨w.heap.size, 7, none⟩ (.string ⟨#[]⟩) = w6 at *
      have hs6 := HK6.out.size
      have HI6 := Lib.hid (HI.out.keep HK6.out.size (fun b hb => HK6.out.block b (ItkAt.low30 HI.out hb) (fun e => by have := HF.out b hb; omega)))
      have HE6 := Lib.hid (HE5.out.keep HK6.out (by show ¬ w.heap.size + 1 = w.heap.size; omega))
      have HB6 := Lib.hid (HB.out.trans (HK6.out.below HB.out.size (fun b hb e => by omega)))
      have HSF := Lib.hid (show ({ f with kind := 14, item := [], val := 0, text := [] } : Ev).small from by
        have h := HS2.out f (by simp)
        exact ⟨h.1, h.2.1, by show ([] : List UInt8).length ≤ _; simp, by show ([] : List UInt8).length ≤ _; simp⟩)
      have HKF := Lib.hid (show ({ f with kind := 14, item := [], val := 0, text := [] } : Ev).kind = 14 from rfl)
      have HSE := Lib.hid (HS2.out e (by simp))
      generalize ({ f with kind := 14, item := [], val := 0, text := [] } : Ev) = f' at *
      have HX := Lib.hid (offX_admits slack ds f')
      have HGN := Lib.hid (fun h0 => admitted_gone (x := offX slack ds) HKF.out h0)
      obtain ⟨e0, e1, e2, e3, e4, e5, e6, e7⟩ := HFd.out.in_
      go_wp2_with fail
      refine (admit_any w6 F bi (2 * k) (offX slack ds) HI6.out (by omega) f' HSF.out (HMX.out.up HB6.out)).mono ?_
      rintro r w7 ⟨rfl, F7, hI7, hK7, hF7⟩
      have HF7 := Lib.hid (HFd.out.keep hK7 (fun hf => by have := HF.out _ hf; omega))
      have HE7 := Lib.hid (HE6.out.keep hK7 (fun hf => by have := HF.out _ hf; omega))
      have HB7 := Lib.hid (HB6.out.trans (hK7.below HB6.out.size (fun b hb hf => by have := HF.out b hf; omega)))
      have HI7 := Lib.hid hI7
      have hs7 := hK7.size
      clear hI7 hK7 hF7 HI6 HE6 HFd e0 e1 e2 e3 e4 e5 e6 e7 HK6
      by_cases hv : (offX slack ds).admitted f' = 0
      case neg =>
        have HR := Lib.hid (HW0.out w7 HB7.out)
        generalize (offX slack ds).admitted f' = v at *
        go_wp2
        go_ret
        exact HR.out
      have HGG := Lib.hid (HGN.out hv)
      rw [hv]
      have HPI := Lib.hid (show PlayInv ((offX slack ds).admits f') by rw [HX.out]; exact PlayInv.grown slack 0 _)
      have HG := Lib.hid (show PtGood (2 * k + 2) ((offX slack ds).admits f') by
        have h1 := HI7.out
        rw [HX.out] at h1 ⊢
        exact PtGood.grown h1 (by simp; omega))
      clear hv HGN HX
      generalize (offX slack ds).admits f' = x at *
      have hsB := HB7.out.size
      go_wp2_with fail
      with_reducible refine (snsave_any w7 F7 bi (2 * k + 2) x HI7.out HG.out (by omega) 0 (by omega) (by omega) (HMX.out.up HB7.out) (tab_up HT.out HB7.out)).mono ?_
      rintro r w8 ⟨v8, rfl, ho8, hb8⟩
      obtain ⟨A8, c8, rfl⟩ := ho8.form
      have HB8 := Lib.hid (HB7.out.trans (hb8.mono hsB))
      have HF8 := Lib.hid (HF7.out.up hb8); have HE8 := Lib.hid (HE7.out.up hb8)
      have HY8 := Lib.hid ho8.byt
      have hs8 := hb8.size
      clear ho8 hb8 HI7
      go_wp2_with fail
      with_reducible refine (snload_good w8 A8 _ c8 x 0 (2 * k + 2) HY8.out HG.out (by omega) (by omega) (by omega) (HMX.out.up HB8.out) (HEE.out.up HB8.out) (tab_up HT.out HB8.out)).mono ?_
      rintro r w14 ⟨b9, F9, rfl, hI9, hb9, hF9⟩
      have HB9 := Lib.hid (HB8.out.trans (hb9.mono HB8.out.size))
      have HF9 := Lib.hid (HF8.out.up hb9); have HE9 := Lib.hid (HE8.out.up hb9)
      have HI9 := Lib.hid hI9
      have HN9 := Lib.hid (show ∀ b, F9 b → w.heap.size + 2 ≤ b from fun b hb => by have := hF9 b hb; have := HB8.out.size; omega)
      have hs9 := hb9.size
      clear hI9 hb9 hF9 HF8 HE8 HF7 HE7 HY8
      have hbA : Below w14.heap.size w14 (w14.alloc (.cells #[] 31)) := (Below.refl _ _).alloc (Nat.le_refl _) _
      have HOW := Lib.hid (show OwnE (w14.alloc (.cells #[] 31)) w14.heap.size (.slice (some ⟨w14.heap.size, 0, none⟩) 0 0) [] from World.ownsRow_lit w14 #[] 0 (Nat.le_refl _) (by simp [maxLen]) rfl)
      have HI15 := Lib.hid (HI9.out.up hbA)
      have HB15 := Lib.hid (HB9.out.trans (hbA.mono HB9.out.size))
      have HF15 := Lib.hid (HF9.out.up hbA); have HE15 := Lib.hid (HE9.out.up hbA)
      have hs15 : (w14.alloc (.cells #[] 31)).heap.size = w14.heap.size + 1 := by simp
      have hxt : x.taken.length ≤ 2 * k + 2 := HG.out.ok.taken
      have hxl : x.late.length ≤ 2 * k + 2 := HG.out.ok.late
      have HL9 := Lib.hid (show ∀ b, F9 b → b < w14.heap.size from fun b hb => ItkAt.low30 HI9.out hb)
      obtain ⟨i0, hi, hz0, hz1, hz2⟩ := info_parts ev_info
      have HI' := Lib.hid hi; have HZ0 := Lib.hid hz0; have HZ1 := Lib.hid hz1; have HZ2 := Lib.hid hz2
      clear hi hz0 hz1 hz2 hbA HI9 HF9 HE9
      go_wp2_with fail
      generalize w14.alloc (.cells #[] 31) = w15 at *
      refine (itaken_any w15 F9 b9 (2 * k + 2) x HI15.out (by omega)).mono ?_
      rintro r w16 ⟨v16, rfl, ho16, hb16⟩
      obtain ⟨Bt, ct, hv16, _⟩ := ho16.form
      subst hv16
      have HE16 := Lib.hid (show Evs w16 w16.heap.size Bt x.taken.length ct x.taken from Cel.of_own ho16)
      have HOW16 := Lib.hid (HOW.out.keep (fun b hb => hb16.block b (HOW.out.lt hb)))
      have HI16 := Lib.hid (HI15.out.up hb16)
      have HB16 := Lib.hid (HB15.out.trans (hb16.mono HB15.out.size))
      have HF16 := Lib.hid (HF15.out.up hb16); have HEE16 := Lib.hid (HE15.out.up hb16)
      have hs16 := hb16.size
      clear ho16 hb16 HOW HI15 HF15 HE15
      go_wp2_with (at_builtin; refine wpList_app (P := Tryz.prog) rfl (.tmp 78) (.tmp 80) 22 rfl 31 i0 _ 8 96 Tryz.underlying22 HI'.out HZ0.out HZ1.out HZ2.out rfl (by decide) w14.heap.size (.slice (some ⟨w14.heap.size, 0, none⟩) 0 0) 0 [] rfl HOW16.out w16.heap.size _ _ _ (evCells x.taken) rfl HE16.out (cells_ones _) ?c1 ?c2 ?c3 ?_)
      case c1 => unfold maxLen; omega
      case c2 => omega
      case c3 => omega
      intro v17 w17 ho17 hg17 hv17
      have HK17 := Lib.hid (show Keep (fun b => b = w14.heap.size) w16 w17 from Keep.of_grown hg17 (fun k h => by injection h with h; exact h.symm))
      have HI17 := Lib.hid (HI16.out.keep HK17.out.size (fun b hb => HK17.out.block b (ItkAt.low30 HI16.out hb) (fun e => by have := HL9.out b hb; omega)))
      have HF17 := Lib.hid (HF16.out.keep HK17.out (by show ¬ w.heap.size = w14.heap.size; have := HB9.out.size; omega))
      have HEE17 := Lib.hid (HEE16.out.keep HK17.out (by show ¬ w.heap.size + 1 = w14.heap.size; have := HB9.out.size; omega))
      have HB17 := Lib.hid (HB16.out.trans (HK17.out.below HB16.out.size (fun b hb e => by have := HB9.out.size; omega)))
      have HP17 := Lib.hid (show ∀ b, v17.ownBlock = some b → w14.heap.size ≤ b ∧ ¬ F9 b from fun b hb => by
        rcases hv17 with h' | h'
        · rw [h'] at hb
          have hb2 : w14.heap.size = b := by injection hb
          exact ⟨by omega, fun hf => by have := HL9.out b hf; omega⟩
        · rw [h'] at hb
          have hb2 : w16.heap.size = b := by injection hb
          exact ⟨by omega, fun hf => by have := HL9.out b hf; omega⟩)
      have HO17 := Lib.hid ho17
      have hs17 := hg17.size
      clear ho17 hg17 hv17 HE16 HOW16 HI16 HF16 HEE16
      go_wp2_with fail
      refine (ilate_any w17 F9 b9 (2 * k + 2) x HI17.out (by omega)).mono ?_
      rintro r w18 ⟨v18, rfl, ho18, hb18⟩
      obtain ⟨Bl, cl, hv18, _⟩ := ho18.form
      subst hv18
      have HE18 := Lib.hid (show Evs w18 w18.heap.size Bl x.late.length cl x.late from Cel.of_own ho18)
      have HO18 := Lib.hid (ownsRow_below HO17.out hb18 (Nat.le_refl _))
      have HI18 := Lib.hid (HI17.out.up hb18)
      have HB18 := Lib.hid (HB17.out.trans (hb18.mono HB17.out.size))
      have HF18 := Lib.hid (HF17.out.up hb18); have HEE18 := Lib.hid (HEE17.out.up hb18)
      have hs18 := hb18.size
      clear ho18 hb18 HO17 HI17 HF17 HEE17
      go_wp2_with (at_builtin; refine wpList_app (P := Tryz.prog) rfl (.tmp 81) (.tmp 83) 22 rfl 31 i0 _ 8 96 Tryz.underlying22 HI'.out HZ0.out HZ1.out HZ2.out rfl (by decide) w14.heap.size v17 _ _ rfl HO18.out w18.heap.size _ _ _ (evCells x.late) rfl HE18.out (cells_ones _) ?d1 ?d2 ?d3 ?_)
      case d1 => unfold maxLen; omega
      case d2 => omega
      case d3 => omega
      intro v19 w19 ho19 hg19 hv19
      have HK19 := Lib.hid (show Keep (fun b => v17.ownBlock = some b) w18 w19 from Keep.of_grown hg19 (fun k h => h))
      have HI19 := Lib.hid (HI18.out.keep HK19.out.size (fun b hb => HK19.out.block b (ItkAt.low30 HI18.out hb) (fun e => (HP17.out b e).2 hb)))
      have HF19 := Lib.hid (HF18.out.keep HK19.out (fun e => by have := (HP17.out _ e).1; have := HB9.out.size; omega))
      have HEE19 := Lib.hid (HEE18.out.keep HK19.out (fun e => by have := (HP17.out _ e).1; have := HB9.out.size; omega))
      have HB19 := Lib.hid (HB18.out.trans (HK19.out.below HB18.out.size (fun b hb e => by have := (HP17.out _ e).1; have := HB9.out.size; omega)))
      have hown : OwnE w19 w14.heap.size v19 (x.taken ++ x.late) := by
        unfold OwnE
        rw [evCells_append, List.length_append]
        simpa using ho19
      obtain ⟨B19, c19, hv19', _⟩ := hown.form
      subst hv19'
      have HE19 := Lib.hid (show Evs w19 w19.heap.size B19 (x.taken ++ x.late).length c19 (x.taken ++ x.late) from Cel.of_own hown)
      have hall : (x.taken ++ x.late).length ≤ 1000 := by simp; omega
      have HST := Lib.hid (show ∀ y ∈ x.taken ++ x.late, y.per = f'.per → y.kind = 14 from fun y hy hp => HPI.out.inv.stay y (List.mem_append.1 hy) (hp ▸ HGG.out))
      clear ho19 hg19 hv19 hown HE18 HO18 HI18 HF18 HEE18 HK19 HK17 HP17 hxt hxl
      generalize x.taken ++ x.late = all at *
      have HS0 := Lib.hid (show LpR w19 all.length (.int .i64 ((0 : Nat) : Int)) w19 from ⟨0, rfl, Nat.zero_le _, Below.refl _ _⟩)
      have hz19 := HB19.out.size
      clear HBQ HFQ HF HI HF5 HE5 HF3 HE3 HF2 HE2 HF1 HE1 HF0 HE0 HB HB3 HB2 HB1 HSM hke t1
      go_wp2
      go_loopw [17] (fun i W => LpR w19 all.length i W) (fun i _ => all.length - (intOf i).toNat)
      case atStart => exact HS0.out
      case round =>
        obtain ⟨k2, rfl, hk2, hbr⟩ := hrel
        have HBR := Lib.hid hbr
        have HEW := Lib.hid (show Evs wr wr.heap.size B19 all.length c19 all from evs_below HE19.out hbr)
        have HFW := Lib.hid (HF19.out.up hbr)
        have HEEW := Lib.hid (HEE19.out.up hbr)
        have HBW := Lib.hid (HB19.out.trans (hbr.mono HB19.out.size))
        clear hbr
        by_cases hkn2 : k2 < all.length
        · obtain ⟨b, off, hBt, hb, hev⟩ := HEW.out.ev k2 hkn2
          subst hBt
          have HMEM := Lib.hid (HST.out _ (List.getElem_mem hkn2))
          generalize all[k2] = y at *
          have HSS := Lib.hid (show ∀ W, RowKit.Below wr.heap.size wr W → EvAt W b (off + k2 * 8) y ∧ W.cell? ⟨w.heap.size, 4, none⟩ = some (.string ⟨f'.per.toArray⟩) from fun W hW => ⟨hev.below hW hb, (HFW.out.up hW).in_.2.2.2.2.1⟩)
          have t2 : (k2 : Int) < all.length := by omega
          clear hev
          by_cases hp : y.per = f'.per
          · have k14 : (y.kind == 14) = true := by simp [HMEM.out hp]
            have hp1 : (y.per == f'.per) = true := by simp [hp]
            have hp2 : decide (y.per = f'.per) = true := by simp [hp]
            have k15 : decide (y.kind = 14) = true := by simp [HMEM.out hp]
            clear hp
            go_upto_region 23 with fail
            refine wp_region_quiet (C := fun wx => RowKit.Below wr.heap.size wr wx) (by kernel_rfl) (by kernel_rfl) (below_drew (Below.refl _ _)) ?_
            simp only
            repeat (first
              | go_big_quiet_skip
              | (go_big_quiet_want; go_big_quiet_op; go_big_quiet_on)
              | (refine wpQuiet_step (fun K hK => ?_)
                 go_simp
                 first
                   | (refine hK _ ?_; clear hK K)
                   | (apply Exists.intro
                      refine ⟨fun wx hx => ?_, hK _ ?_⟩
                      · (obtain ⟨⟨q0, q1, q2, q3, q4, q5, q6, q7⟩, d4⟩ := HSS.out wx hx; go_simp; first | done | rfl | exact ⟨rfl, rfl⟩ | (rw [if_neg (by omega)]; first | done | rfl | exact ⟨rfl, rfl⟩))
                      clear hK K)))
            refine wpQuiet_nil ?_
            intro w20 hb20
            have HREL := Lib.hid (show LpR w19 all.length (.int .i64 ((k2 : Int) + 1)) w20 from ⟨k2 + 1, rfl, hkn2, HBR.out.trans (hb20.mono HBR.out.size)⟩)
            clear hb20
            go_wp2
            go_roundw
            case rel => exact HREL.out
            case measure => simp [intOf]; omega
          · have hp1 : (y.per == f'.per) = false := by simp [hp]
            have hp2 : decide (y.per = f'.per) = false := by simp [hp]
            clear hp
            go_upto_region 23 with fail
            refine wp_region_quiet (C := fun wx => RowKit.Below wr.heap.size wr wx) (by kernel_rfl) (by kernel_rfl) (below_drew (Below.refl _ _)) ?_
            simp only
            repeat (first
              | go_big_quiet_skip
              | (go_big_quiet_want; go_big_quiet_op; go_big_quiet_on)
              | (refine wpQuiet_step (fun K hK => ?_)
                 go_simp
                 first
                   | (refine hK _ ?_; clear hK K)
                   | (apply Exists.intro
                      refine ⟨fun wx hx => ?_, hK _ ?_⟩
                      · (obtain ⟨⟨q0, q1, q2, q3, q4, q5, q6, q7⟩, d4⟩ := HSS.out wx hx; go_simp; first | done | rfl | exact ⟨rfl, rfl⟩ | (rw [if_neg (by omega)]; first | done | rfl | exact ⟨rfl, rfl⟩))
                      clear hK K)))
            refine wpQuiet_nil ?_
            intro w20 hb20
            have HREL := Lib.hid (show LpR w19 all.length (.int .i64 ((k2 : Int) + 1)) w20 from ⟨k2 + 1, rfl, hkn2, HBR.out.trans (hb20.mono HBR.out.size)⟩)
            clear hb20
            go_wp2
            go_roundw
            case rel => exact HREL.out
            case measure => simp [intOf]; omega
        · have t2 : ¬ (k2 : Int) < all.length := by omega
          have HIW := Lib.hid (HI19.out.up HBR.out)
          generalize wr = w20 at *
          obtain ⟨_, _, _, _, d4, _, _, _⟩ := HFW.out.in_
          obtain ⟨_, _, _, _, e4, _, _, _⟩ := HEEW.out.in_
          have hfz := HEEW.out.frozen 4
          have HE21 := Lib.hid (HEEW.out.setPer f'.per)
          have HK21 := Lib.hid (keepCell w20 (w.heap.size + 1) 4 (.string ⟨f'.per.toArray⟩))
          have HI21 := Lib.hid (HIW.out.keep HK21.out.size (fun b hb => HK21.out.block b (ItkAt.low30 HIW.out hb) (fun e => by have := HN9.out b hb; omega)))
          have HB21 := Lib.hid (HBW.out.trans (HK21.out.below HBW.out.size (fun b hb e => by omega)))
          go_upto_region 26 with fail
          clear d4 e4 hfz
          generalize w20.setCell ⟨w.heap.size + 1, 4, none⟩ (.string ⟨f'.per.toArray⟩) = w21 at *
          have HSZ := Lib.hid (show ({ e with per := f'.per } : Ev).small from ⟨HSE.out.1, HSF.out.2.1, HSE.out.2.2⟩)
          have HPZ := Lib.hid (show ({ e with per := f'.per } : Ev).per ∈ x.gone from HGG.out)
          generalize ({ e with per := f'.per } : Ev) = z at *
          obtain ⟨e0, e1, e2, e3, e4, e5, e6, e7⟩ := HE21.out.in_
          by_cases hk14 : z.kind = 14
          · have k14 : (z.kind == 14) = true := by simp [hk14]
            have HR := Lib.hid (HW0.out w21 HB21.out)
            go_wp2
            go_ret
            exact HR.out
          · have k14 : (z.kind == 14) = false := by simp [hk14]
            have HFG := Lib.hid (HPI.out.forgot (now := 0) (by have := HG.out.clk.now; unfold boundI; omega) HPZ.out hk14)
            have HO := Lib.hid (offer_any w21 F9 b9 (2 * k + 2) x HI21.out (by omega) z HSZ.out 0 (HMX.out.up HB21.out) (fun hf => by have := HN9.out _ hf; omega))
            rw [HFG.out.1.1, HFG.out.1.2] at HO
            go_wp2_with fail
            refine HO.out.mono ?_
            rintro r w22 ⟨rfl, F22, hI22, hK22, hF22⟩
            have HR := Lib.hid (HW0.out w22 (HB21.out.trans (hK22.below HB21.out.size (fun b hb hf => by have := HN9.out b hf; omega))))
            clear hI22 hK22 hF22 e0 e1 e2 e3 e4 e5 e6 e7
            go_wp2
            go_ret
            exact HR.out
end Go.Proofs.YtbejfgmdkmddnaaGreatDoor
