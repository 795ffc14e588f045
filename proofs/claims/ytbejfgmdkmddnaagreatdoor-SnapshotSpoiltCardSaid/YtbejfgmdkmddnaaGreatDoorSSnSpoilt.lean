/-
  The law SnapshotSpoilt, walked.
-/
import Derived.Test.YtbejfgmdkmddnaaGreatDoorSSnHelp
import Derived.Test.YtbejfgmdkmddnaaGreatDoorSSnSpl
import Derived.Test.YtbejfgmdkmddnaaGreatDoorSItkAdmit
import Derived.Test.YtbejfgmdkmddnaaGreatDoorSOfStay
namespace Go.Proofs.YtbejfgmdkmddnaaGreatDoor
open Go.RowKit Go.Maps Go.Sort Go.Shelf

def AdR (w : World) (bi : Nat) (slack : Int) (ds : List Ev) (i : Value) (wr : World) : Prop := ∃ (k : Nat) (F : Nat → Prop), i = .int .i64 k ∧ k ≤ ds.length ∧ ItkAt wr F bi (2 * k) (admAll (Itk.new slack 0) (ds.take k)) ∧ Below w.heap.size w wr ∧ ∀ b, F b → w.heap.size ≤ b

set_option maxRecDepth 100000 in
set_option maxHeartbeats 8000000 in
theorem snspoilt_any (w : World) (slack : Int) (A : Option Addr) (n c : Nat) (ds : List Ev) (h : Evs w w.heap.size A n c ds) (hn : n ≤ 140737488355328) (at_ : Int) (y : UInt8) (hmx : MaxAt w) (hee : ErrsAt w) (htab : Lib.TabBelow Tryz.prog w.heap.size w "internal/strconv.uint64pow10" .u64 Lib.pow10Tab) :
    Calls Tryz.prog 3 #[.int .i64 slack, .slice A n c, .int .i64 at_, .int .u8 y.toNat] w (Says true w) := by
  have HH := Lib.hid h; clear h
  have HMX := Lib.hid hmx; have HEE := Lib.hid hee; have HT := Lib.hid htab
  have hml := hmx.lt
  clear hmx hee htab
  have HW0 := Lib.hid (show ∀ W, RowKit.Below w.heap.size w W → Says true w (.returned (.bool true)) W from fun W hW => ⟨rfl, hW⟩)
  have HEV := Lib.hid (show ∀ W, RowKit.Below w.heap.size w W → Evs W W.heap.size A n c ds from fun W hW => Cel.more (Cel.below HH.out hW) hW.size)
  go_enter Tryz.func3, Tryz.ntmps3
  go_wp2_with fail
  refine (lives30_any w HMX.out HEE.out HT.out).mono ?_
  rintro r w1 ⟨rfl, hb1⟩
  have HR1 := Lib.hid (HW0.out w1 hb1)
  by_cases hn30 : (30 : Int) < n
  · go_wp2
    go_ret
    exact HR1.out
  clear HR1
  have hbig : n ≤ 30 := by omega
  have HEV1 := Lib.hid (HEV.out w1 hb1)
  go_wp2_with fail
  refine (some_any w1 A n c ds HEV1.out hn 300).mono ?_
  rintro r w2 ⟨rfl, hb2⟩
  have HB2 := Lib.hid (hb1.trans (hb2.mono hb1.size))
  clear hb1 hb2 HEV1
  cases hsm : ds.any (fun d => bigB d 300)
  case true =>
    clear hsm
    have HR2 := Lib.hid (HW0.out w2 HB2.out)
    go_wp2
    go_ret
    exact HR2.out
  have HSM := Lib.hid (sn_small hsm)
  clear hsm
  have hlen := HH.out.len
  have HLE := Lib.hid hlen
  go_wp2_with fail
  refine (itknew_any w2 slack 0).mono ?_
  rintro r w3 ⟨bi, F3, rfl, hI3, hb3, hF3⟩
  have HB3 := Lib.hid (HB2.out.trans (hb3.mono HB2.out.size))
  have HST := Lib.hid (show AdR w bi slack ds (.int .i64 ((0 : Nat) : Int)) w3 from ⟨0, F3, rfl, Nat.zero_le _, hI3, HB3.out, fun b hb => by have := hF3 b hb; have := HB2.out.size; omega⟩)
  clear hI3 hb3 hF3 hlen
  go_wp2
  go_loopw [10] (fun i W => AdR w bi slack ds i W) (fun i _ => n - (intOf i).toNat)
  case atStart => exact HST.out
  case round =>
    obtain ⟨k, F, rfl, hk, hI, hbel, hF⟩ := hrel
    have HI := Lib.hid hI; have HB := Lib.hid hbel; have HF := Lib.hid hF
    clear hI hbel hF HST
    by_cases hkn : k < n
    · have hkd : k < ds.length := by rw [HLE.out]; exact hkn
      have HEW := Lib.hid (HEV.out wr HB.out)
      obtain ⟨b, off, hA, hb, hev⟩ := HEW.out.ev k hkd
      have HSK := Lib.hid (HSM.out _ (List.getElem_mem hkd))
      have HYN := Lib.hid (admAll_take (Itk.new slack 0) ds k hkd)
      subst hA
      obtain ⟨e0, e1, e2, e3, e4, e5, e6, e7⟩ := hev
      have t1 : (k : Int) < n := by omega
      generalize ds[k] = e at *
      generalize admAll (Itk.new slack 0) (ds.take k) = x at *
      clear hb
      go_wp2_with fail
      refine (admit_any wr F bi (2 * k) x HI.out (by omega) e HSK.out (HMX.out.up HB.out)).mono ?_
      rintro r w4 ⟨rfl, F4, hI4, hK4, hF4⟩
      have HREL := Lib.hid (show AdR w bi slack ds (.int .i64 ((k : Int) + 1)) w4 from ⟨k + 1, F4, rfl, hkd, by rw [HYN.out, show 2 * (k + 1) = 2 * k + 2 by omega]; exact hI4, HB.out.trans (hK4.below HB.out.size (fun b hb hf => by have := HF.out b hf; omega)), fun b hb => by
        rcases hF4 b hb with h | h
        · exact HF.out b h
        · have := HB.out.size; omega⟩)
      clear hI4 hK4 hF4 e0 e1 e2 e3 e4 e5 e6 e7
      go_wp2
      go_roundw
      case rel => exact HREL.out
      case measure => simp [intOf]; omega
    · have hke : ds.take k = ds := List.take_of_length_le (by have := HLE.out; omega)
      have t1 : ¬ (k : Int) < n := by omega
      rw [hke] at HI
      have HG := Lib.hid (HI.out.admGood (by have := HLE.out; omega))
      have hk60 : 2 * k ≤ 60 := by have := HLE.out; omega
      generalize admAll (Itk.new slack 0) ds = x at *
      have hs0 := HB.out.size
      have HTL := Lib.hid (HG.out.text_len (by omega) (n := (n : Int)) (by omega) (by omega))
      have HOK := Lib.hid (show (snD (snX n x)).ok = true from by
        have h2 := snD_snT (HG.out.snFit (by omega) (n := (n : Int)) (by omega) (by omega)) []
        rw [List.append_nil] at h2
        have h3 : snX n x = snT n x.clk.slack x.clk.idle (encC x.clk) (encH x.had) x.taken x.late (goneR x) := rfl
        rw [h3, h2]; rfl)
      have HSV := Lib.hid (snsave_any wr F bi (2 * k) x HI.out HG.out (by omega) n (by omega) (by omega) (HMX.out.up HB.out) (tab_up HT.out HB.out))
      unfold SvPost at HSV
      have HPL := Lib.hid (piecesB_len2 (snX n x) (by have := HTL.out; omega))
      have HNE := Lib.hid (show 0 < (piecesB (snX n x)).length from by
        rcases Nat.eq_zero_or_pos (piecesB (snX n x)).length with h0 | h0
        · have h1 : snX n x = [] := piecesB_inj (b := []) (by rw [List.eq_nil_of_length_eq_zero h0]; rfl)
          exact absurd h1 (by unfold snX snT lineB wSnap; simp)
        · exact h0)
      generalize snX (n : Int) x = T at *
      go_wp2_with fail
      with_reducible refine HSV.out.mono ?_
      rintro r w4 ⟨v4, rfl, ho4, hb4⟩
      obtain ⟨g, c4, rfl, hg1, hg2⟩ := ho4.head30 HNE.out
      have HB4 := Lib.hid (HB.out.trans (hb4.mono hs0))
      have HO4 := Lib.hid ho4
      have HCUT := Lib.hid (fun m (hm : m < (piecesB T).length) => pieces_cut HOK.out hm)
      have HTRN := Lib.hid (fun m (hm : m < (piecesB T).length) z hz => pieces_turned (T := T) (at_ := m) hm (y := z) hz)
      have hPL := HPL.out; have hTL := HTL.out; have hNE := HNE.out
      have HR4 := Lib.hid (HW0.out w4 HB4.out)
      generalize piecesB T = l at *
      clear ho4 hb4 HSV HOK HPL
      by_cases hc0 : at_ < 0
      · go_wp2
        go_ret
        exact HR4.out
      by_cases hc1 : (l.length : Int) ≤ at_
      · go_wp2
        go_ret
        exact HR4.out
      clear HR4
      obtain ⟨m, rfl⟩ := Int.eq_ofNat_of_zero_le (by omega : 0 ≤ at_)
      have hm : m < l.length := by omega
      have HLD := Lib.hid (show Calls Tryz.prog 15 #[.slice (some ⟨g, 0, none⟩) m c4] w4 (fun e w' => (∃ er : Int, (er = 2 ∨ er = 3) ∧ e = .returned (.tuple #[.pointer none, .int .i64 0, .int .i64 er])) ∧ Below w4.heap.size w4 w') from by
        have hby := HO4.out.byt.take m (by omega)
        rcases HCUT.out m hm with h1 | ⟨h1, h2, h3⟩
        · exact (snload_state w4 _ m c4 _ hby (by omega) 3 (.inl ⟨h1, rfl⟩)).mono fun e w' ⟨q1, q2⟩ => ⟨⟨3, .inr rfl, q1⟩, q2⟩
        · exact (snload_form w4 _ m c4 _ hby (by omega) h1 (by omega) h3 (HMX.out.up HB4.out) (HEE.out.up HB4.out)).mono fun e w' ⟨q1, q2⟩ => ⟨⟨2, .inl rfl, q1⟩, q2⟩)
      have hcap := HO4.out.byt.cap
      have hmx4 := HO4.out.byt.max
      unfold maxLen at hmx4
      have hmc : m ≤ c4 := by omega
      clear HCUT
      go_wp2_with fail
      with_reducible refine HLD.out.mono ?_
      rintro r w5 ⟨⟨er, her, rfl⟩, hb5⟩
      have HB5 := Lib.hid (HB4.out.trans (hb5.mono HB4.out.size))
      have HO5 := Lib.hid (HO4.out.keepB9 (fun b hb => by injection hb with hb; subst hb; exact hb5.block _ hg2))
      have HR5 := Lib.hid (HW0.out w5 HB5.out)
      have HER := Lib.hid (show er ≠ 0 by omega)
      have hs5 := hb5.size
      have her0 : (er == 0) = false := by rw [beq_eq_false_iff_ne]; exact HER.out
      clear hb5 HLD her
      by_cases hy0 : y = 0
      · subst hy0
        go_wp2
        go_ret
        exact HR5.out
      have hy1 : ¬ (y.toNat : Int) = 0 := fun h => hy0 (UInt8.toNat_inj.1 (by simpa using h))
      have HCL := Lib.hid (HO5.out.byt.cell hNE)
      obtain ⟨_, _, e0, _, hcell⟩ := HCL.out
      have hck := hcell m hm
      simp only [Option.some.injEq, Addr.mk.injEq, and_true] at e0
      obtain ⟨rfl, rfl⟩ := e0
      rw [Nat.zero_add] at hck
      have hfz : w5.frozen? ⟨g, m, none⟩ = false := World.ownsRow.frozenAt (n := l.length) HO5.out m
      have hgd : l.getD m 0 = l[m] := by simp [List.getD, hm]
      have HT9 := Lib.hid (HTRN.out m hm (l[m] ^^^ y) (by
        rw [hgd]
        intro hc
        apply hy0
        have h1 : l[m] ^^^ (l[m] ^^^ y) = l[m] ^^^ l[m] := by rw [hc]
        rw [← UInt8.xor_assoc, UInt8.xor_self, UInt8.zero_xor] at h1
        exact h1))
      have HS9 := Lib.hid (HO5.out.stored30 m (l[m] ^^^ y) rfl)
      have hle9 : (l.set m (l[m] ^^^ y)).length = l.length := List.length_set ..
      have HL9 := Lib.hid hle9
      generalize l.set m (l[m] ^^^ y) = l9 at *
      generalize l[m] = z at *
      have hzb := z.toNat_lt
      have hyb := y.toNat_lt
      have hxor : bits .xor .u8 (z.toNat : Int) (y.toNat : Int) = ((z ^^^ y).toNat : Int) := by rw [u8_xor_nat _ _ hzb hyb, UInt8.toNat_xor]
      have HLD := Lib.hid (show Calls Tryz.prog 15 #[.slice (some ⟨g, 0, none⟩) l.length c4] (w5.setCell ⟨g, m, none⟩ (.int .u8 (z ^^^ y).toNat)) (fun e w' => e = .returned (.tuple #[.pointer none, .int .i64 0, .int .i64 4]) ∧ Below (w5.setCell ⟨g, m, none⟩ (.int .u8 (z ^^^ y).toNat)).heap.size (w5.setCell ⟨g, m, none⟩ (.int .u8 (z ^^^ y).toNat)) w') from by
        have h1 := HS9.out.1.byt
        exact snload_state _ _ l.length c4 l9 h1 (by omega) 4 (.inr ⟨HT9.out, rfl⟩))
      have HBS := Lib.hid (show Below w.heap.size w (w5.setCell ⟨g, m, none⟩ (.int .u8 (z ^^^ y).toNat)) from HB5.out.setCell (p := ⟨g, m, none⟩) (by show w.heap.size ≤ g; omega) _)
      have t1 : (m : Int) < (l.length : Int) := by omega
      clear hcell hgd hle9 HS9 HT9 HTRN HCL
      generalize (z ^^^ y).toNat = u at *
      go_wp2_with fail
      with_reducible refine HLD.out.mono ?_
      rintro r w6 ⟨rfl, hb6⟩
      have HR6 := Lib.hid (HW0.out w6 (HBS.out.trans (hb6.mono HBS.out.size)))
      go_wp2
      go_ret
      exact HR6.out
theorem snspoilt_u8 (w : World) (slack : Int) (A : Option Addr) (n c : Nat) (ds : List Ev) (h : Evs w w.heap.size A n c ds) (hn : n ≤ 140737488355328) (at_ : Int) (by_ : Int) (lo : 0 ≤ by_) (hi : by_ ≤ 255) (hmx : MaxAt w) (hee : ErrsAt w) (htab : Lib.TabBelow Tryz.prog w.heap.size w "internal/strconv.uint64pow10" .u64 Lib.pow10Tab) :
    Calls Tryz.prog 3 #[.int .i64 slack, .slice A n c, .int .i64 at_, .int .u8 by_] w (Says true w) := by
  obtain ⟨y, hy⟩ : ∃ y : UInt8, (y.toNat : Int) = by_ := ⟨UInt8.ofNat by_.toNat, by simp; omega⟩
  subst hy
  exact snspoilt_any w slack A n c ds h hn at_ y hmx hee htab
end Go.Proofs.YtbejfgmdkmddnaaGreatDoor
