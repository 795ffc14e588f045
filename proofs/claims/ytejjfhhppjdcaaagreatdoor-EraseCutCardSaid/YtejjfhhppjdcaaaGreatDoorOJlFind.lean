/-
  Layer 5: journal.number: decimal digits.
  Layer 5: a journal's files are found on a disk.
-/
import Derived.Test.YtejjfhhppjdcaaaGreatDoorOStepApp
import Derived.Test.YtejjfhhppjdcaaaGreatDoorOSeg
import Derived.Deep.DeepCutAuto
import Derived.RegionTactic
import Derived.Test.YtejjfhhppjdcaaaGreatDoorOJLives
import Derived.Test.YtejjfhhppjdcaaaGreatDoorORJl9
namespace Go.Proofs.YtejjfhhppjdcaaaGreatDoor
open Go.RowKit

/-- a number's digits have no nought ahead -/
theorem decDigits_head (k : Nat) : (Lib.decDigits k).length = 1 ∨ (Lib.decDigits k)[0]'(List.length_pos_iff.2 (decDigits_ne k)) ≠ 48 := by
  induction k using Nat.strongRecOn with
  | _ k ih =>
    by_cases h : k < 10
    · left; rw [Lib.decDigits, dif_pos h]; rfl
    · right
      have hlen := List.length_pos_iff.2 (decDigits_ne (k / 10))
      have e : (Lib.decDigits k)[0]'(List.length_pos_iff.2 (decDigits_ne k)) = (Lib.decDigits (k / 10))[0]'hlen := by
        have : Lib.decDigits k = Lib.decDigits (k / 10) ++ [UInt8.ofNat (48 + k % 10)] := by
          conv => lhs; rw [Lib.decDigits, dif_neg h]
        simp only [this]
        rw [List.getElem_append_left]
      rw [e]
      by_cases h2 : k / 10 < 10
      · have e2 : Lib.decDigits (k / 10) = [UInt8.ofNat (48 + k / 10)] := by rw [Lib.decDigits, dif_pos h2]
        simp only [e2, List.getElem_cons_zero]
        intro hc
        have := congrArg UInt8.toNat hc
        simp at this
        omega
      · rcases ih (k / 10) (by omega) with h3 | h3
        · exfalso
          rw [Lib.decDigits, dif_neg h2, List.length_append] at h3
          have := List.length_pos_iff.2 (decDigits_ne (k / 10 / 10))
          simp only [List.length_cons, List.length_nil] at h3
          omega
        · exact h3
set_option maxHeartbeats 1000000 in
theorem jnum_any (w : World) (l : List UInt8) (hn : 1 ≤ l.length) (hm : l.length ≤ 1000000) (hd : ∀ c ∈ l, 48 ≤ c.toNat ∧ c.toNat ≤ 57) (h0 : l.length = 1 ∨ l[0] ≠ 48) :
    Calls Tryz.prog 100 #[.string ⟨l.toArray⟩] w fun e w' => e = .returned (.bool true) ∧ w = w' := by
  have HD := Lib.hid (show ∀ (k : Nat) (hk : k < l.length), 48 ≤ l[k].toNat ∧ l[k].toNat ≤ 57 from fun k hk => hd _ (List.getElem_mem hk))
  have hne : l.isEmpty = false := by cases l with
    | nil => simp at hn
    | cons _ _ => rfl
  have g0 : (⟨l.toArray⟩ : ByteArray)[0]'(by have := hn; simp [ByteArray.size]; omega) = l[0] := rfl
  have hx0 := HD.out 0 (by omega)
  have hc0 : (((l[0].toNat : Int) == 48) && decide ((1 : Int) < l.length)) = false := by
    rcases h0 with h1 | h1
    · rw [decide_eq_false (show ¬ (1 : Int) < l.length by omega), Bool.and_false]
    · have : ¬ l[0].toNat = 48 := fun e => h1 (UInt8.toNat_inj.1 e)
      have : ((l[0].toNat : Int) == 48) = false := by simp; omega
      rw [this]; rfl
  go_enter Tryz.func100, Tryz.ntmps100
  clear hc0
  go_upto_region 1 with fail
  go_cut [15] (fun v wc => v = .bool false ∧ w = wc)
  case first =>
    rcases h0 with h1 | h1
    · have e1 : ¬ (1 : Int) < l.length := by omega
      by_cases h48 : l[0].toNat = 48
      · have e2 : ((l[0].toNat : Int) == 48) = true := by simp; omega
        go_wp2_with fail
        go_meet
        exact ⟨rfl, rfl⟩
      · have e2 : ((l[0].toNat : Int) == 48) = false := by simp; omega
        go_wp2_with fail
        go_meet
        exact ⟨rfl, rfl⟩
    · have h48 : ¬ l[0].toNat = 48 := fun e => h1 (UInt8.toNat_inj.1 e)
      have e2 : ((l[0].toNat : Int) == 48) = false := by simp; omega
      go_wp2_with fail
      go_meet
      exact ⟨rfl, rfl⟩
  case rest =>
    obtain ⟨rfl, rfl⟩ := hcut
    clear h0 g0 hx0
    go_wp2
    go_loop [3, 18] (fun _ i => ∃ k : Nat, i = .int .i64 k ∧ k ≤ l.length) (fun _ i => l.length - (intOf i).toNat)
    case atStart => exact ⟨0, rfl, Nat.zero_le _⟩
    case round =>
      obtain ⟨k, rfl, hk⟩ := hrel
      by_cases hkn : k < l.length
      · have g0 : (⟨l.toArray⟩ : ByteArray)[k]'(by simpa [ByteArray.size] using hkn) = l[k] := rfl
        obtain ⟨a1, a2⟩ := HD.out k hkn
        generalize l[k] = x at *
        have b1 : ¬ (x.toNat : Int) < 48 := by omega
        have b2 : ¬ (57 : Int) < x.toNat := by omega
        go_wp2
        go_round
        case rel => exact ⟨k + 1, by go_num, by omega⟩
        case measure => simp [intOf]; omega
      · go_wp2
        go_ret
        exact ⟨rfl, rfl⟩
end Go.Proofs.YtejjfhhppjdcaaaGreatDoor
namespace Go.Proofs.YtejjfhhppjdcaaaGreatDoor
open Go.RowKit Go.Maps Go.Sort Go.Shelf

theorem putB_new {α : Type} {m : Row α} {k : List UInt8} (v : α) (h : getB m k = none) : (putB k v m).length = m.length + 1 := by
  unfold putB
  rw [insB_length, List.filter_eq_self.2 (fun p hp => ?_)]
  unfold getB at h
  rw [Option.map_eq_none_iff, List.find?_eq_none] at h
  have := h p hp
  simpa using this
/-- the map of the names that were gone through -/
def FdRow (R : Row Value) (ks : List (List UInt8)) : Prop := R.length = ks.length ∧ ∀ x, getB R x = if x ∈ ks then some (.bool true) else none
theorem FdRow.put {R : Row Value} {ks : List (List UInt8)} (h : FdRow R ks) {x : List UInt8} (hx : x ∉ ks) : FdRow (putB x (.bool true) R) (ks ++ [x]) := by
  refine ⟨?_, fun y => ?_⟩
  · rw [putB_new _ (by rw [h.2, if_neg hx]), h.1]; simp
  · by_cases e : y = x
    · subst e; rw [getB_put_same, if_pos (by simp)]
    · rw [getB_put_other _ _ e, h.2]
      simp [e]
def FdRel1 (w2 : World) (bm : Nat) (ns : List (List UInt8)) (i : Value) (W : World) : Prop := ∃ (k : Nat) (R : Row Value), i = .int .i64 k ∧ k ≤ ns.length ∧ MapS W bm R ∧ FdRow R (ns.take k) ∧ Keep (fun b => b = bm) w2 W
def FdRel2 (w3 : World) (m : Nat) (i : Value) (W : World) : Prop := ∃ k q : Nat, i = .int .i64 k ∧ k ≤ m ∧ W = w3.drewN q
theorem cut_seg (s : List UInt8) (q : Nat) : Lib.trimPrefix (segF s q) (s ++ [46]) = Lib.decDigits q ∧ Lib.hasPrefix (segF s q) (s ++ [46]) = true := by
  have h : Lib.hasPrefix (segF s q) (s ++ [46]) = true := by
    unfold Lib.hasPrefix segF
    rw [List.isPrefixOf_iff_prefix]
    exact ⟨Lib.decDigits q, by simp⟩
  refine ⟨?_, h⟩
  unfold Lib.trimPrefix
  rw [if_pos h]
  unfold segF
  rw [show s ++ 46 :: Lib.decDigits q = (s ++ [46]) ++ Lib.decDigits q by simp, List.drop_left]
set_option maxRecDepth 100000 in
set_option maxHeartbeats 4000000 in
theorem jlfind_any (w : World) (G F : Nat → Prop) (bj bd : Nat) (v : Value) (j : Jl) (h : JlAt w G F bj bd v j) (m : Nat) (hns : Rising (j.dk.files.map (·.1)) (fileNs j.name m)) (hm : m ≤ 90) (hnm : j.name.length ≤ 24) :
    Calls Tryz.prog 63 #[.pointer (some ⟨bj, 0, none⟩)] w fun e w' => e = .returned (.bool true) ∧ JlAt w' G F bj bd v { j with files := m } ∧ Keep (fun b => b = bj) w w' := by
  have hmm := @run_makeMap Tryz.prog
  obtain ⟨c0, c1, c2, c3, c4, c5, c6⟩ := h.cells
  have c3f := h.frozen 3
  have hbj := h.lt _ h.fj
  have HJ := Lib.hid h
  have hb1 : Below w.heap.size w (w.alloc (.map #[] 0)) := (Below.refl _ _).alloc (Nat.le_refl _) _
  have HB1 := Lib.hid hb1
  obtain ⟨ns, hnsd⟩ : ∃ ns, ns = j.dk.files.map (·.1) := ⟨_, rfl⟩
  rw [← hnsd] at hns
  have HNS := Lib.hid hns
  have hlen : ns.length = m := by
    have h1 : ns.Nodup := List.Pairwise.imp (S := fun a b => a ≠ b) (fun {a b} h e => lt_irr a (by subst e; exact h)) hns.1
    have h2 : (fileNs j.name m).Nodup := by
      unfold fileNs
      exact List.pairwise_map.2 (List.Pairwise.imp (S := fun a b => segF j.name a ≠ segF j.name b) (fun {a b} h e => h (segF_inj e)) List.nodup_range)
    have h3 : ns.Perm (fileNs j.name m) := (List.perm_ext_iff_of_nodup h1 h2).2 hns.2
    have := h3.length_eq
    rw [this]; simp [fileNs]
  have HND := Lib.hid (show ∀ k (hk : k < ns.length), ns[k] ∉ ns.take k from fun k hk hc => by
    have h1 : ns.Pairwise (· < ·) := hns.1
    obtain ⟨i, hi, e⟩ := List.getElem_of_mem hc
    rw [List.getElem_take] at e
    have hik : i < k := by rw [List.length_take] at hi; omega
    have := List.pairwise_iff_getElem.1 h1 i k (by omega) hk hik
    rw [e] at this
    exact lt_irr _ this)
  have HSG := Lib.hid (show ∀ k (hk : k < ns.length), ∃ q, q < m ∧ ns[k] = segF j.name q from fun k hk => by
    obtain ⟨q, hq, e⟩ := List.mem_map.1 ((hns.2 _).1 (List.getElem_mem hk))
    exact ⟨q, List.mem_range.1 hq, e.symm⟩)
  have HIN := Lib.hid (show ∀ q, q < m → segF j.name q ∈ ns from fun q hq => (hns.2 _).2 (List.mem_map.2 ⟨q, List.mem_range.2 hq, rfl⟩))
  have HNM := Lib.hid (show Calls Tryz.prog 20 #[.pointer (some ⟨bd, 0, none⟩)] (w.alloc (.map #[] 0)) (SrcPost (w.alloc (.map #[] 0)) ns) from by
    rw [hnsd]; exact dknames_any (w.alloc (.map #[] 0)) G bd j.dk (h.dk.up hb1))
  have HCP := Lib.hid (show ∀ W q, Calls Tryz.prog 99 #[.string ⟨(segF j.name q).toArray⟩, .string (⟨j.name.toArray⟩ ++ ⟨#[46]⟩)] W (fun e w' => e = .returned (.tuple #[.string ⟨(Lib.decDigits q).toArray⟩, .bool true]) ∧ w' = W) from fun W q => by
    have := Tryz.strings_CutPrefix ⟨(segF j.name q).toArray⟩ (⟨j.name.toArray⟩ ++ ⟨#[46]⟩) W
    have e : ((⟨j.name.toArray⟩ : ByteArray) ++ ⟨#[46]⟩).data.toList = j.name ++ [46] := by
      rw [show (⟨#[46]⟩ : ByteArray) = ⟨[46].toArray⟩ from rfl, str_app]
    rw [e] at this
    rw [show (⟨(segF j.name q).toArray⟩ : ByteArray).data.toList = segF j.name q from rfl, (cut_seg j.name q).1, (cut_seg j.name q).2] at this
    exact this)
  have t0 : ¬ 9223372036854775807 < j.name.length + 1 := by omega
  have HL := Lib.hid hlen
  clear c2 c4 c5 c6 hb1 hns hnsd hlen h
  go_enter Tryz.func63, Tryz.ntmps63
  go_wp2_with fail
  with_reducible refine HNM.out.mono ?_
  rintro r w2 ⟨vn, rfl, hrow, hb2⟩
  obtain ⟨An, cn, hvn⟩ := ownsRow_form hrow
  have HB2 := Lib.hid (HB1.out.trans (hb2.mono HB1.out.size))
  have hs1 : (w.alloc (.map #[] 0)).heap.size = w.heap.size + 1 := by simp
  have hs2 := hb2.size
  subst hvn
  have HST0 := Lib.hid (show FdRel1 w2 w.heap.size ns (.int .i64 0) w2 from ⟨0, [], rfl, Nat.zero_le _, (MapS.made w).block (hb2.block _ (by simp)), ⟨rfl, fun x => by simp [getB]⟩, Keep.refl _ _⟩)
  have HSN := Lib.hid (show ∀ W, Keep (fun b => b = w.heap.size) w2 W → Strs W W.heap.size An ns.length cn ns from fun W hW => by
    rcases Nat.eq_zero_or_pos ns.length with h0 | h0
    · rw [h0, List.eq_nil_of_length_eq_zero h0]; exact Cel.nil _ _ _ _ _ (by have := Cel.max (Cel.of_own hrow); exact this)
    · refine Cel.keepG (Cel.of_own hrow) (fun b off e hb => ?_) hW
      have h1 := hrow.2
      rcases h1 with ⟨e', hl⟩ | ⟨g, cap, cur, e', hbg, _⟩
      · injection e' with e1 e2; omega
      · injection e' with e1 e2
        rw [e] at e1; injection e1 with e1; injection e1 with e1
        omega)
  have HCJ := Lib.hid (show ∀ W, Keep (fun b => b = w.heap.size) w2 W → W.cell? ⟨bj, 0, none⟩ = some (.pointer (some ⟨bd, 0, none⟩)) ∧ W.cell? ⟨bj, 1, none⟩ = some (.string ⟨j.name.toArray⟩) ∧ W.cell? ⟨bj, 3, none⟩ = some (.int .i64 j.files) ∧ W.frozen? ⟨bj, 3, none⟩ = false from fun W hW => by
    have hbw : Below w.heap.size w W := HB2.out.trans (hW.below (by omega) (fun k hk e => by omega))
    exact ⟨(hbw.cell (p := ⟨bj, 0, none⟩) hbj).trans c0, (hbw.cell (p := ⟨bj, 1, none⟩) hbj).trans c1, (hbw.cell (p := ⟨bj, 3, none⟩) hbj).trans c3, (hbw.frozen (p := ⟨bj, 3, none⟩) hbj).trans c3f⟩)
  clear c0 c1 c3 c3f hrow hb2 hmm
  go_wp2
  go_loopw [5, 6, 7, 16] (fun _ _ _ i W => FdRel1 w2 w.heap.size ns i W) (fun _ _ _ i _ => ns.length - (intOf i).toNat)
  case atStart => exact HST0.out
  case round =>
    obtain ⟨k, R, rfl, hk, hmp, hfr, hkp⟩ := hrel
    have HMP := Lib.hid hmp; have HFR := Lib.hid hfr; have HKP := Lib.hid hkp
    obtain ⟨d0, d1, d3, d3f⟩ := HCJ.out wr hkp
    have hsr := hkp.size
    by_cases hkn : k < ns.length
    · obtain ⟨b, off, hAe, hbb, hc⟩ := (HSN.out wr hkp).at_ k hkn
      subst hAe
      obtain ⟨q, hqm, hq⟩ := HSG.out k hkn
      have HPU := Lib.hid (hfr.put (HND.out k hkn))
      have hTK : ns.take (k + 1) = ns.take k ++ [ns[k]] := by rw [List.take_add_one, List.getElem?_eq_getElem hkn, Option.toList_some]
      rw [← hTK, hq] at HPU
      rw [hq] at hc
      have hRl : R.length = k := by rw [hfr.1, List.length_take]; omega
      have HNU := Lib.hid (show Calls Tryz.prog 100 #[.string ⟨(Lib.decDigits q).toArray⟩] wr (fun e w' => e = .returned (.bool true) ∧ wr = w') from by
        have h2 := digits_two (k := q) (by omega)
        exact jnum_any wr (Lib.decDigits q) h2.1 (by omega) (decDigits_byte q) (decDigits_head q))
      have hsl := (segF_len j.name (k := q) (by omega)).2
      have t1 : (k : Int) < ns.length := by omega
      have hl90 : ns.length ≤ 90 := by rw [HL.out]; exact hm
      clear hmp hfr hkp hTK hq
      go_wp2_with fail
      refine (HCP.out wr q).mono ?_
      rintro r w3 ⟨rfl, rfl⟩
      go_wp2_with fail
      refine HNU.out.mono ?_
      rintro r w4 ⟨rfl, rfl⟩
      go_wp2_with (at_mapUpdate; refine wpList_mapS_put rfl (.tmp 35) (.tmp 36) _ 134 4 rfl Tryz.underlying134 w.heap.size R rfl HMP.out (by unfold maxLen; omega) (segF j.name q) rfl (by unfold maxLen; omega) (.bool true) rfl ?_)
      intro w5 hm5 hg5
      have HRL := Lib.hid (show FdRel1 w2 w.heap.size ns (.int .i64 ((k : Int) + 1)) w5 from ⟨k + 1, _, rfl, by omega, hm5, HPU.out, HKP.out.trans (Keep.of_grown hg5 (fun b e => by injection e with e; exact e.symm)) (fun _ _ h => h)⟩)
      clear hm5 hg5 d0 d1 d3 d3f hc
      go_wp2
      go_roundw
      case rel => exact HRL.out
      case measure => simp [intOf]; omega
    · obtain rfl : k = ns.length := by omega
      have hte : ns.take ns.length = ns := List.take_of_length_le (Nat.le_refl _)
      rw [hte] at hfr
      have hRl : R.length = m := by rw [hfr.1, HL.out]
      have t1 : ¬ (ns.length : Int) < ns.length := by omega
      have HLK := Lib.hid (show ∀ q z, q < m → (Instr.lookup 134 (.map (some w.heap.size)) (.string ⟨(segF j.name q).toArray⟩) false).run Tryz.prog (wr.drewN z) = .ok (.bool true) (wr.drewN z) from fun q z hq => by
        have h1 : MapS (wr.drewN z) w.heap.size R := HMP.out.block rfl
        have hs := (segF_len j.name (k := q) (by omega)).2
        have := h1.look (segF j.name q) (by unfold maxLen; omega) 134 4 Tryz.underlying134 (.bool false) (zeroB (wr.drewN z))
        rw [hfr.2, if_pos (HIN.out q hq)] at this
        exact this)
      have HLN := Lib.hid (show ∀ z ty, (Builtin.len_ #[134] ty #[.map (some w.heap.size)]).run Tryz.prog (wr.drewN z) = .ok (.int .i64 (m : Int)) (wr.drewN z) from fun z ty => by
        have h1 : MapS (wr.drewN z) w.heap.size R := HMP.out.block rfl
        have := h1.len 134 _ Tryz.underlying134 ty
        rw [hRl] at this; exact this)
      have HFI := Lib.hid (show ∀ q z, q < m → Calls Tryz.prog 64 #[.pointer (some ⟨bj, 0, none⟩), .int .i64 q] (wr.drewN z) (FilePostJ (wr.drewN z) (segF j.name q)) from fun q z hq => jlfile_any (wr.drewN z) bj j.name d1 (by omega) q (by omega))
      have HR := Lib.hid (show ∀ z, JlAt ((wr.drewN z).setCell ⟨bj, 3, none⟩ (.int .i64 (m : Int))) G F bj bd v { j with files := m } ∧ Keep (fun b => b = bj) w ((wr.drewN z).setCell ⟨bj, 3, none⟩ (.int .i64 (m : Int))) from fun z => by
        have hbw : Below w.heap.size w (wr.drewN z) := below_drewN (HB2.out.trans (HKP.out.below (by omega) (fun k hk e => by omega))) z
        have h2 := HJ.out.up hbw
        refine ⟨h2.setc rfl rfl ?_, (Keep.of_below (F := fun b => b = bj) hbw).setCell (p := ⟨bj, 3, none⟩) (fun _ => rfl) _⟩
        rw [heap_set_row h2.blk]; simp [jlObj])
      have HST2 := Lib.hid (show FdRel2 wr m (.int .i64 0) wr from ⟨0, 0, rfl, Nat.zero_le _, rfl⟩)
      have hln0 : ∀ ty, (Builtin.len_ #[134] ty #[.map (some w.heap.size)]).run Tryz.prog wr = .ok (.int .i64 (m : Int)) wr := fun ty => HLN.out 0 ty
      clear hmp hfr hkp hte d0 d1
      go_wp2
      go_loopw [8, 40] (fun _ i W => FdRel2 wr m i W) (fun _ i _ => m - (intOf i).toNat)
      case atStart => exact HST2.out
      case round =>
        obtain ⟨k, z, rfl, hk, rfl⟩ := hrel
        by_cases hkm : k < m
        · have t2 : (k : Int) < m := by omega
          go_wp2_with fail
          refine (HFI.out k z hkm).mono ?_
          rintro r w5 ⟨rfl, z', hw5⟩
          rw [World.drewN_drewN] at hw5
          subst hw5
          have hlk := HLK.out k (z + z') hkm
          have HRL := Lib.hid (show FdRel2 wr m (.int .i64 ((k : Int) + 1)) (wr.drewN (z + z')) from ⟨k + 1, z + z', rfl, by omega, rfl⟩)
          go_wp2
          go_roundw
          case rel => exact HRL.out
          case measure => simp [intOf]; omega
        · have t2 : ¬ (k : Int) < m := by omega
          have e3 : (wr.drewN z).cell? ⟨bj, 3, none⟩ = some (.int .i64 j.files) := d3
          have e3f : (wr.drewN z).frozen? ⟨bj, 3, none⟩ = false := d3f
          have hlnz : ∀ ty, (Builtin.len_ #[134] ty #[.map (some w.heap.size)]).run Tryz.prog (wr.drewN z) = .ok (.int .i64 (m : Int)) (wr.drewN z) := fun ty => HLN.out z ty
          have HRR := Lib.hid (HR.out z)
          clear d3 d3f
          generalize wr.drewN z = w7 at *
          go_wp2
          go_ret
          exact ⟨rfl, HRR.out⟩
end Go.Proofs.YtejjfhhppjdcaaaGreatDoor
