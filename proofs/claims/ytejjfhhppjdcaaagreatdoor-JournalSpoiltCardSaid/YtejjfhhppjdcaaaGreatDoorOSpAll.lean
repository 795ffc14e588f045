/-
  Layer 5: bytes of a file that are bad, or too few: load refuses them.
  Layer 5: Open of a disk one of whose files is bad.
  Layer 5: a file that lacks ahead of another one is missed.
  Layer 5, plain: a journal's files of which one is taken away, cut, or spoilt.
-/
import Derived.Test.YtejjfhhppjdcaaaGreatDoorOJlOpen
import Derived.Test.YtejjfhhppjdcaaaGreatDoorOCrPlain
import Derived.Test.YtejjfhhppjdcaaaGreatDoorODkArm
namespace Go.Proofs.YtejjfhhppjdcaaaGreatDoor
open Go.RowKit Go.Maps Go.Sort Go.Shelf

/-- what load refuses -/
def LdBad (l : List UInt8) (per : Nat) (last : Bool) : Prop := (Frm.allB l).2.2 = 2 ∨ per < (Frm.allB l).1.length ∨ (last = false ∧ ((Frm.allB l).2.2 = 1 ∨ (Frm.allB l).1.length < per))
def LdBadPost (w : World) (r : Ending) (w' : World) : Prop := (∃ st : Int, r = .returned (.tuple #[.int .i64 0, .int .i64 st, .int .i64 4])) ∧ RowKit.Below w.heap.size w w'
set_option maxRecDepth 100000 in
set_option maxHeartbeats 4000000 in
theorem jlload_bad (w : World) (G F : Nat → Prop) (bj bd : Nat) (v : Value) (j : Jl) (h : JlAt w G F bj bd v j) (A : Option Addr) (n c : Nat) (l : List UInt8) (hb : Byt w w.heap.size A n c l) (hn : n ≤ 1000000) (last : Bool) (hbad : LdBad l j.per last) :
    Calls Tryz.prog 65 #[.pointer (some ⟨bj, 0, none⟩), .slice A n c, .bool last] w (LdBadPost w) := by
  obtain ⟨c0, c1, c2, c3, c4, c5, c6⟩ := h.cells
  have hall := all_any w A n c l hb hn
  unfold AllPost at hall
  unfold LdBad at hbad
  obtain ⟨st, hst⟩ : ∃ st : Nat, st = (Frm.allB l).2.2 := ⟨_, rfl⟩
  obtain ⟨ps, hps⟩ : ∃ ps, ps = (Frm.allB l).1 := ⟨_, rfl⟩
  obtain ⟨en, hen⟩ : ∃ en : Int, en = (Frm.allB l).2.1 := ⟨_, rfl⟩
  rw [← hst, ← hps] at hbad
  rw [← hst, ← hps, ← hen] at hall
  have HAL := Lib.hid hall
  have hbj := h.lt _ h.fj
  clear hall hst hps hen h c0 c1 c3 c4 c5 c6
  go_enter Tryz.func65, Tryz.ntmps65
  go_wp2
  refine wp_scope_jumps 0 (fun _ _ => False) (fun _ _ => 0) rfl ?first ?pass
  case pass => intro a W h; exact h.elim
  go_wp2_with fail
  refine HAL.out.mono ?_
  rintro r w1 ⟨v9, vs, rfl, hrow, hbs, hb1⟩
  obtain ⟨A9, c9, h9⟩ := ownsRow_form hrow
  subst h9
  have hvl : vs.length = ps.length := hbs.1
  rw [hvl]
  have e2 : w1.cell? ⟨bj, 2, none⟩ = some (.int .i64 j.per) := (hb1.cell (p := ⟨bj, 2, none⟩) hbj).trans c2
  have HR := Lib.hid (show LdBadPost w (.returned (.tuple #[.int .i64 0, .int .i64 (st : Int), .int .i64 4])) w1 from ⟨⟨_, rfl⟩, hb1⟩)
  clear hrow hbs c2 hb1 HAL
  by_cases h2 : st = 2
  · subst h2
    go_wp2
    go_ret3
    exact HR.out
  have t0 : ((st : Int) == 2) = false := by simp; omega
  by_cases h3 : j.per < ps.length
  · have t1 : (j.per : Int) < ps.length := by omega
    go_wp2
    go_ret3
    exact HR.out
  have t1 : ¬ (j.per : Int) < ps.length := by omega
  obtain ⟨rfl, h4⟩ : last = false ∧ (st = 1 ∨ ps.length < j.per) := by
    rcases hbad with h | h | h
    · exact absurd h h2
    · exact absurd h h3
    · exact h
  by_cases h5 : st = 1
  · subst h5
    go_wp2
    go_ret3
    exact HR.out
  have t2 : ((st : Int) == 1) = false := by simp; omega
  have t3 : (ps.length : Int) < j.per := by omega
  go_wp2
  go_ret3
  exact HR.out
end Go.Proofs.YtejjfhhppjdcaaaGreatDoor
namespace Go.Proofs.YtejjfhhppjdcaaaGreatDoor
open Go.RowKit Go.Maps Go.Sort Go.Shelf

/-- the files ahead of q are whole, and full; file q is what load refuses -/
structure OpBad (d : Dk) (s : List UInt8) (per fc : Nat) (L : List (Option Ev)) (q : Nat) : Prop where
  ok : d.Ok
  up : d.down = false
  nms : Rising (d.files.map (·.1)) (fileNs s fc)
  nm : s.length ≤ 24
  per1 : 1 ≤ per
  per2 : per ≤ 4096
  fc9 : fc ≤ 90
  num : L.length ≤ 1000
  may : ∀ e, some e ∈ L → mayB e = true
  lt : q < fc
  seg : ∀ k, k < q → (d.file (segF s k)).data = bytesL (segL per k L)
  all : ∀ k, k < q → Frm.allB (bytesL (segL per k L)) = ((segL per k L).map bytesE, ((bytesL (segL per k L)).length, 0))
  full : ∀ k, k < q → (k + 1) * per ≤ L.length
  sz : ∀ k, k < q → (bytesL (segL per k L)).length ≤ 1000000
  szq : (d.file (segF s q)).data.length ≤ 1000000
  bad : LdBad (d.file (segF s q)).data per (decide (q + 1 = fc))
theorem OpBad.there {d : Dk} {s : List UInt8} {per fc q : Nat} {L : List (Option Ev)} (h : OpBad d s per fc L q) {k : Nat} (hk : k ≤ q) : d.found (segF s k) = 0 := by
  have h9 := h.fc9
  have hl := h.lt
  have h2 := segF_len s (k := k) (by omega)
  have hn := h.nm
  have ha : d.asked (segF s k) = 0 := Dk.asked_fine h.up h2.1 (by omega)
  have h1 : segF s k ∈ d.files.map (·.1) := (h.nms.2 _).2 (List.mem_map.2 ⟨k, List.mem_range.2 (by omega), rfl⟩)
  obtain ⟨p, hp, e⟩ := List.mem_map.1 h1
  have h3 : getB d.files (segF s k) = some p.2 := by rw [← e]; exact getB_of_mem h.ok.up hp
  unfold Dk.found
  rw [ha, if_neg (by simp), h3]; simp
/-- the journal while files are loaded -/
def ObRel (w : World) (G : Nat → Prop) (bj bd : Nat) (d : Dk) (s : List UInt8) (per fc : Nat) (L : List (Option Ev)) (q : Nat) (i : Value) (W : World) : Prop :=
  ∃ (k : Nat) (v : Value) (F' : Nat → Prop), i = .int .i64 k ∧ k ≤ q ∧ JlAt W G F' bj bd v ⟨d, s, per, fc, L.take (k * per), 0, 0⟩ ∧ (∀ b, F' b → w.heap.size ≤ b) ∧ Keep G w W
def OpBadPost (w : World) (G : Nat → Prop) (er : Int) (e : Ending) (w' : World) : Prop := e = .returned (.tuple #[.pointer none, .int .i64 er]) ∧ Keep G w w'
set_option maxRecDepth 100000 in
set_option maxHeartbeats 8000000 in
theorem jlopen_bad (w : World) (G : Nat → Prop) (bd : Nat) (d : Dk) (h : DkIn w G bd d) (s : List UInt8) (hs : nameB s = true) (per fc q : Nat) (L : List (Option Ev)) (ho : OpBad d s per fc L q) (hmx : MaxAt w) (hmg : ¬ G 1) :
    Calls Tryz.prog 18 #[.pointer (some ⟨bd, 0, none⟩), .string ⟨s.toArray⟩, .int .i64 per] w (OpBadPost w G 4) := by
  have hnl := (nameB_len hs).2
  have HNB := Lib.hid (show Calls Tryz.prog 61 #[.string ⟨s.toArray⟩] w fun e w' => e = .returned (.bool true) ∧ w = w' from by have := name_all w s; rw [hs] at this; exact this)
  have HDN := Lib.hid (show Calls Tryz.prog 62 #[.pointer (some ⟨bd, 0, none⟩)] w fun e w' => e = .returned (.bool false) ∧ w = w' from by
    obtain ⟨_, bm, B, V, h⟩ := h
    have := dkdown_any w G bd bm d B V h; rw [ho.up] at this; exact this)
  have hlt := h.lt
  have hp := ho.per1
  have hp2 := ho.per2
  have hfc9 := ho.fc9
  have hqf := ho.lt
  have hb1 : Below w.heap.size w (w.alloc (jlObj bd (.slice none 0 0) (Jl.new d s per))) := (Below.refl _ _).alloc (Nat.le_refl _) _
  have HJ1 := Lib.hid (show JlAt (w.alloc (jlObj bd (.slice none 0 0) (Jl.new d s per))) G (· = w.heap.size) w.heap.size bd (.slice none 0 0) (Jl.new d s per) from by
    refine ⟨h.up hb1, heap_alloc_new w _, World.ownsRow_nil _ _ _ _, rfl, fun b hb => (by cases hb), fun b hb hg => ?_, fun b hb => ?_⟩
    · have := hlt b hg; subst hb; omega
    · subst hb; simp)
  have HB1 := Lib.hid hb1
  have HF := Lib.hid (jlfind_any _ G (· = w.heap.size) w.heap.size bd _ _ HJ1.out fc ho.nms hfc9 hnl)
  have HO := Lib.hid ho
  have hmlt := hmx.lt
  have HMX := Lib.hid hmx
  have HML := Lib.hid (show ∀ W, Keep G w W → MaxAt W from fun W hW => HMX.out.kp hW hmg)
  have HLT := Lib.hid hlt
  clear hb1 h hs ho hlt hmx hmg
  go_enter Tryz.func18, Tryz.ntmps18
  go_wp2_with fail
  refine HNB.out.mono ?_
  rintro r w0 ⟨rfl, rfl⟩
  go_wp2_with fail
  refine HDN.out.mono ?_
  rintro r w0 ⟨rfl, rfl⟩
  go_wp2_with fail
  refine HF.out.mono ?_
  rintro r w2 ⟨rfl, hj2, hk2⟩
  have hs1 := HB1.out.size
  have HJ2 := Lib.hid hj2
  have hs2 := hk2.size
  have HR0 := Lib.hid (show ObRel w G w.heap.size bd d s per fc L q (.int .i64 0) w2 from by
    refine ⟨0, .slice none 0 0, (· = w.heap.size), rfl, Nat.zero_le _, ?_, fun b hb => by omega, (Keep.of_below HB1.out).trans hk2 (fun b hb e => by omega)⟩
    have e : (⟨d, s, per, fc, L.take (0 * per), 0, 0⟩ : Jl) = { Jl.new d s per with files := fc } := by unfold Jl.new; simp
    rw [e]; exact HJ2.out)
  have c3 := hj2.cells.2.2.2.1
  clear hj2 hk2
  obtain ⟨bj, hbj⟩ : ∃ bj, bj = w.heap.size := ⟨_, rfl⟩
  rw [← hbj] at HR0 c3 ⊢
  clear hbj
  go_wp2
  go_loopw [9, 10, 11, 12, 13, 14, 40] (fun _ _ _ _ _ _ i W => ObRel w G bj bd d s per fc L q i W) (fun _ _ _ _ _ _ i _ => fc - (intOf i).toNat)
  case atStart => exact HR0.out
  case round =>
    obtain ⟨k, v, F1, rfl, hk, hj, hF1, hkp⟩ := hrel
    have HJ := Lib.hid hj; have HF1 := Lib.hid hF1; have HKP := Lib.hid hkp
    have hsr := hkp.size
    have t1 : (k : Int) < fc := by omega
    obtain ⟨c0, c1, c2, c3', c4, c5, c6⟩ := hj.cells
    have c1 : wr.cell? ⟨bj, 1, none⟩ = some (.string ⟨s.toArray⟩) := c1
    obtain ⟨B, hB⟩ : ∃ B, B = (d.file (segF s k)).data := ⟨_, rfl⟩
    have hbsz : B.length ≤ 1000000 := by
      by_cases e : k < q
      · rw [hB, HO.out.seg k e]; exact HO.out.sz k e
      · rw [hB, show k = q by omega]; exact HO.out.szq
    have HB := Lib.hid hB
    have HRD := Lib.hid (show ∀ z, Calls Tryz.prog 24 #[.pointer (some ⟨bd, 0, none⟩), .string ⟨(segF s k).toArray⟩] (wr.drewN z) (RdPost (wr.drewN z) B 0) from fun z => by
      have h1 := HJ.out.dk
      have h0 := HO.out.there hk
      have := dkread_any (wr.drewN z) G bd d (h1.up (below_drewN (Below.refl _ _) z)) (segF s k) (by have := (segF_len s (k := k) (by omega)).2; omega)
      rw [h0, show d.read (segF s k) = B from by unfold Dk.read; rw [if_pos h0, HB.out]] at this
      exact this)
    clear hj hF1 hkp c0 c2 c4 c5 c6 hB
    go_wp2_with fail
    refine (jlfile_any wr bj s c1 (by omega) k (by omega)).mono ?_
    rintro r w3 ⟨rfl, q3, rfl⟩
    go_wp2_with fail
    refine (HRD.out q3).mono ?_
    rintro r w4 ⟨v4, rfl, ho4, hb4⟩
    obtain ⟨A4, c4, hv4⟩ := ho4.form
    subst hv4
    have HB4 := Lib.hid (show Below wr.heap.size wr w4 from (below_drewN (Below.refl _ _) q3).trans hb4)
    have hs4 : wr.heap.size ≤ w4.heap.size := HB4.out.size
    have HJ4 := Lib.hid (HJ.out.up HB4.out)
    have d3 : w4.cell? ⟨bj, 3, none⟩ = some (.int .i64 (fc : Int)) := HJ4.out.cells.2.2.2.1
    have HK4 := Lib.hid (show Keep G w w4 from HKP.out.trans (Keep.of_below (F := fun _ => False) HB4.out) (fun _ _ h => h.elim))
    have HBY := Lib.hid ho4.byt
    have tb : ((k : Int) == (fc : Int) - 1) = decide (k + 1 = fc) := by
      rw [Bool.eq_iff_iff]; simp; omega
    by_cases hkq : k < q
    · have hkl : decide (k + 1 = fc) = false := by simp; omega
      have hBe : B = bytesL (segL per k L) := by rw [HB.out]; exact HO.out.seg k hkq
      have hall := HO.out.all k hkq
      rw [← hBe] at hall
      have HLD := Lib.hid (show Calls Tryz.prog 65 #[.pointer (some ⟨bj, 0, none⟩), .slice A4 B.length c4, .bool (decide (k + 1 = fc))] w4 (LdPost w4 G F1 bj bd ⟨d, s, per, fc, L.take (k * per), 0, 0⟩ (segL per k L) (B.length : Int) 0) from by
        have := jlload_any w4 G F1 bj bd v _ HJ4.out A4 B.length c4 B HBY.out hbsz (decide (k + 1 = fc)) (segL per k L) 0 (by rw [hall]) (by rw [hall]) (by omega)
          (fun e he => HO.out.may e (by unfold segL at he; exact List.mem_of_mem_drop (List.mem_of_mem_take he)))
          (segL_le _ _ _)
          (by
            right
            refine ⟨by omega, ?_⟩
            rw [segL_length]
            have := HO.out.full k hkq
            rw [Nat.succ_mul] at this; show per ≤ _; omega)
          hp2 (by show (L.take (k * per)).length ≤ 1000; have := HO.out.num; rw [List.length_take]; omega) (HML.out _ HK4.out)
          (fun hf => by have := HF1.out _ hf; omega)
        rw [hall] at this
        exact this)
      rw [hkl] at tb HLD
      clear hall hBe ho4 hb4 HRD c1 c3'
      generalize B.length = n at *
      go_wp2_with fail
      with_reducible refine HLD.out.mono ?_
      rintro r w5 ⟨rfl, v5, F5, hj5, hF5, hk5⟩
      have hs5 := hk5.size
      have HR5 := Lib.hid (show ObRel w G bj bd d s per fc L q (.int .i64 ((k : Int) + 1)) w5 from by
        refine ⟨k + 1, v5, F5, rfl, by omega, ?_, fun b hb => ?_, HK4.out.trans hk5 (fun b hb hf => by have := HF1.out b hf; omega)⟩
        · have e : (⟨d, s, per, fc, L.take (k * per) ++ segL per k L, 0, 0⟩ : Jl) = ⟨d, s, per, fc, L.take ((k + 1) * per), 0, 0⟩ := by rw [OpIn.take]
          rw [← e]; exact hj5
        · rcases hF5 b hb with h | h
          · exact HF1.out b h
          · omega)
      clear hj5 hF5 hk5 HLD
      go_wp2
      go_roundw
      case rel => exact HR5.out
      case measure => simp [intOf]; omega
    · obtain rfl : k = q := by omega
      have HLD := Lib.hid (show Calls Tryz.prog 65 #[.pointer (some ⟨bj, 0, none⟩), .slice A4 B.length c4, .bool (decide (k + 1 = fc))] w4 (LdBadPost w4) from
        jlload_bad w4 G F1 bj bd v _ HJ4.out A4 B.length c4 B HBY.out hbsz (decide (k + 1 = fc)) (by rw [HB.out]; exact HO.out.bad))
      clear ho4 hb4 HRD c1 c3'
      generalize B.length = n at *
      go_wp2_with fail
      with_reducible refine HLD.out.mono ?_
      rintro r w5 ⟨⟨st, rfl⟩, hb5⟩
      have HR5 := Lib.hid (show OpBadPost w G 4 (.returned (.tuple #[.pointer none, .int .i64 4])) w5 from ⟨rfl, HK4.out.trans (Keep.of_below (F := fun _ => False) hb5) (fun _ _ h => h.elim)⟩)
      clear hb5 HLD
      go_wp2
      go_ret2
      exact HR5.out
end Go.Proofs.YtejjfhhppjdcaaaGreatDoor
namespace Go.Proofs.YtejjfhhppjdcaaaGreatDoor
open Go.RowKit Go.Maps Go.Sort Go.Shelf

set_option maxRecDepth 100000 in
set_option maxHeartbeats 4000000 in
theorem jlfind_gap (w : World) (G F : Nat → Prop) (bj bd : Nat) (v : Value) (j : Jl) (h : JlAt w G F bj bd v j) (m : Nat) (q0 : Nat) (hq0 : q0 + 1 < m) (hns : Rising (j.dk.files.map (·.1)) ((fileNs j.name m).filter fun x => decide (x ≠ segF j.name q0))) (hm : m ≤ 90) (hnm : j.name.length ≤ 24) :
    Calls Tryz.prog 63 #[.pointer (some ⟨bj, 0, none⟩)] w fun e w' => e = .returned (.bool false) ∧ Keep (fun b => b = bj) w w' := by
  have hmm := @run_makeMap Tryz.prog
  obtain ⟨c0, c1, c2, c3, c4, c5, c6⟩ := h.cells
  have c3f := h.frozen 3
  have hbj := h.lt _ h.fj
  have HJ := Lib.hid h
  have hb1 : Below w.heap.size w (w.alloc (.map #[] 0)) := (Below.refl _ _).alloc (Nat.le_refl _) _
  have HB1 := Lib.hid hb1
  obtain ⟨ns, hnsd⟩ : ∃ ns, ns = j.dk.files.map (·.1) := ⟨_, rfl⟩
  rw [← hnsd] at hns
  have HNS := Lib.hid hns
  have hin : segF j.name q0 ∈ fileNs j.name m := List.mem_map.2 ⟨q0, List.mem_range.2 (by omega), rfl⟩
  have hlen : ns.length = m - 1 := by
    have h1 : ns.Nodup := List.Pairwise.imp (S := fun a b => a ≠ b) (fun {a b} h e => lt_irr a (by subst e; exact h)) hns.1
    have h2 : (fileNs j.name m).Nodup := by
      unfold fileNs
      exact List.pairwise_map.2 (List.Pairwise.imp (S := fun a b => segF j.name a ≠ segF j.name b) (fun {a b} h e => h (segF_inj e)) List.nodup_range)
    have h3 : ns.Perm ((fileNs j.name m).filter fun x => decide (x ≠ segF j.name q0)) := (List.perm_ext_iff_of_nodup h1 (h2.filter _)).2 hns.2
    have h4 : (fileNs j.name m).filter (fun x => decide (x ≠ segF j.name q0)) = (fileNs j.name m).erase (segF j.name q0) := by
      rw [h2.erase_eq_filter]
      congr 1; funext x; rw [Bool.eq_iff_iff]; simp [bne]
    rw [h3.length_eq, h4, List.length_erase_of_mem hin]; simp [fileNs]
  have hM : ∃ M, M = m - 1 := ⟨_, rfl⟩
  have HND := Lib.hid (show ∀ k (hk : k < ns.length), ns[k] ∉ ns.take k from fun k hk hc => by
    have h1 : ns.Pairwise (· < ·) := hns.1
    obtain ⟨i, hi, e⟩ := List.getElem_of_mem hc
    rw [List.getElem_take] at e
    have hik : i < k := by rw [List.length_take] at hi; omega
    have := List.pairwise_iff_getElem.1 h1 i k (by omega) hk hik
    rw [e] at this
    exact lt_irr _ this)
  have HSG := Lib.hid (show ∀ k (hk : k < ns.length), ∃ q, q < m ∧ ns[k] = segF j.name q from fun k hk => by
    obtain ⟨q, hq, e⟩ := List.mem_map.1 (List.mem_filter.1 ((hns.2 _).1 (List.getElem_mem hk))).1
    exact ⟨q, List.mem_range.1 hq, e.symm⟩)
  have HIN := Lib.hid (show ∀ q, q < q0 → segF j.name q ∈ ns from fun q hq => (hns.2 _).2 (List.mem_filter.2 ⟨List.mem_map.2 ⟨q, List.mem_range.2 (by omega), rfl⟩, by simp; intro e; have := segF_inj e; omega⟩))
  have HOUT := Lib.hid (show segF j.name q0 ∉ ns from fun hc => by have := (List.mem_filter.1 ((hns.2 _).1 hc)).2; simp at this)
  have HNM := Lib.hid (show Calls Tryz.prog 20 #[.pointer (some ⟨bd, 0, none⟩)] (w.alloc (.map #[] 0)) (SrcPost (w.alloc (.map #[] 0)) ns) from by
    rw [hnsd]; exact dknames_any (w.alloc (.map #[] 0)) G bd j.dk (h.dk.up hb1))
  have HCP := Lib.hid (show ∀ W q, Calls Tryz.prog 99 #[.string ⟨(segF j.name q).toArray⟩, .string (⟨j.name.toArray⟩ ++ ⟨#[46]⟩)] W (fun e w' => e = .returned (.tuple #[.string ⟨(Lib.decDigits q).toArray⟩, .bool true]) ∧ w' = W) from fun W q => by
    have := Tryz.strings_CutPrefix ⟨(segF j.name q).toArray⟩ (⟨j.name.toArray⟩ ++ ⟨#[46]⟩) W
    have e : ((⟨j.name.toArray⟩ : ByteArray) ++ ⟨#[46]⟩).data.toList = j.name ++ [46] := by
      rw [show (⟨#[46]⟩ : ByteArray) = ⟨[46].toArray⟩ from rfl, str_app]
    rw [e] at this
    rw [show (⟨(segF j.name q).toArray⟩ : ByteArray).data.toList = segF j.name q from rfl, (cut_seg j.name q).1, (cut_seg j.name q).2] at this
    exact this)
  have t0 : ¬ 9223372036854775807 < j.name.length + 1 := by omega
  have HL := Lib.hid hlen
  clear c2 c4 c5 c6 hb1 hns hnsd hlen h hin
  obtain ⟨M, hM⟩ := hM
  go_enter Tryz.func63, Tryz.ntmps63
  go_wp2_with fail
  with_reducible refine HNM.out.mono ?_
  rintro r w2 ⟨vn, rfl, hrow, hb2⟩
  obtain ⟨An, cn, hvn⟩ := ownsRow_form hrow
  have HB2 := Lib.hid (HB1.out.trans (hb2.mono HB1.out.size))
  have hs1 : (w.alloc (.map #[] 0)).heap.size = w.heap.size + 1 := by simp
  have hs2 := hb2.size
  subst hvn
  have HST0 := Lib.hid (show FdRel1 w2 w.heap.size ns (.int .i64 0) w2 from ⟨0, [], rfl, Nat.zero_le _, (MapS.made w).block (hb2.block _ (by simp)), ⟨rfl, fun x => by simp [getB]⟩, Keep.refl _ _⟩)
  have HSN := Lib.hid (show ∀ W, Keep (fun b => b = w.heap.size) w2 W → Strs W W.heap.size An ns.length cn ns from fun W hW => by
    rcases Nat.eq_zero_or_pos ns.length with h0 | h0
    · rw [h0, List.eq_nil_of_length_eq_zero h0]; exact Cel.nil _ _ _ _ _ (by have := Cel.max (Cel.of_own hrow); exact this)
    · refine Cel.keepG (Cel.of_own hrow) (fun b off e hb => ?_) hW
      have h1 := hrow.2
      rcases h1 with ⟨e', hl⟩ | ⟨g, cap, cur, e', hbg, _⟩
      · injection e' with e1 e2; omega
      · injection e' with e1 e2
        rw [e] at e1; injection e1 with e1; injection e1 with e1
        omega)
  have HCJ := Lib.hid (show ∀ W, Keep (fun b => b = w.heap.size) w2 W → W.cell? ⟨bj, 0, none⟩ = some (.pointer (some ⟨bd, 0, none⟩)) ∧ W.cell? ⟨bj, 1, none⟩ = some (.string ⟨j.name.toArray⟩) ∧ W.cell? ⟨bj, 3, none⟩ = some (.int .i64 j.files) ∧ W.frozen? ⟨bj, 3, none⟩ = false from fun W hW => by
    have hbw : Below w.heap.size w W := HB2.out.trans (hW.below (by omega) (fun k hk e => by omega))
    exact ⟨(hbw.cell (p := ⟨bj, 0, none⟩) hbj).trans c0, (hbw.cell (p := ⟨bj, 1, none⟩) hbj).trans c1, (hbw.cell (p := ⟨bj, 3, none⟩) hbj).trans c3, (hbw.frozen (p := ⟨bj, 3, none⟩) hbj).trans c3f⟩)
  clear c0 c1 c3 c3f hrow hb2 hmm
  go_wp2
  go_loopw [5, 6, 7, 16] (fun _ _ _ i W => FdRel1 w2 w.heap.size ns i W) (fun _ _ _ i _ => ns.length - (intOf i).toNat)
  case atStart => exact HST0.out
  case round =>
    obtain ⟨k, R, rfl, hk, hmp, hfr, hkp⟩ := hrel
    have HMP := Lib.hid hmp; have HFR := Lib.hid hfr; have HKP := Lib.hid hkp
    obtain ⟨d0, d1, d3, d3f⟩ := HCJ.out wr hkp
    have hsr := hkp.size
    by_cases hkn : k < ns.length
    · obtain ⟨b, off, hAe, hbb, hc⟩ := (HSN.out wr hkp).at_ k hkn
      subst hAe
      obtain ⟨q, hqm, hq⟩ := HSG.out k hkn
      have HPU := Lib.hid (hfr.put (HND.out k hkn))
      have hTK : ns.take (k + 1) = ns.take k ++ [ns[k]] := by rw [List.take_add_one, List.getElem?_eq_getElem hkn, Option.toList_some]
      rw [← hTK, hq] at HPU
      rw [hq] at hc
      have hRl : R.length = k := by rw [hfr.1, List.length_take]; omega
      have HNU := Lib.hid (show Calls Tryz.prog 100 #[.string ⟨(Lib.decDigits q).toArray⟩] wr (fun e w' => e = .returned (.bool true) ∧ wr = w') from by
        have h2 := digits_two (k := q) (by omega)
        exact jnum_any wr (Lib.decDigits q) h2.1 (by omega) (decDigits_byte q) (decDigits_head q))
      have hsl := (segF_len j.name (k := q) (by omega)).2
      have t1 : (k : Int) < ns.length := by omega
      have hl90 : ns.length ≤ 90 := by rw [HL.out]; omega
      clear hmp hfr hkp hTK hq
      go_wp2_with fail
      refine (HCP.out wr q).mono ?_
      rintro r w3 ⟨rfl, rfl⟩
      go_wp2_with fail
      refine HNU.out.mono ?_
      rintro r w4 ⟨rfl, rfl⟩
      go_wp2_with (at_mapUpdate; refine wpList_mapS_put rfl (.tmp 35) (.tmp 36) _ 134 4 rfl Tryz.underlying134 w.heap.size R rfl HMP.out (by unfold maxLen; omega) (segF j.name q) rfl (by unfold maxLen; omega) (.bool true) rfl ?_)
      intro w5 hm5 hg5
      have HRL := Lib.hid (show FdRel1 w2 w.heap.size ns (.int .i64 ((k : Int) + 1)) w5 from ⟨k + 1, _, rfl, by omega, hm5, HPU.out, HKP.out.trans (Keep.of_grown hg5 (fun b e => by injection e with e; exact e.symm)) (fun _ _ h => h)⟩)
      clear hm5 hg5 d0 d1 d3 d3f hc
      go_wp2
      go_roundw
      case rel => exact HRL.out
      case measure => simp [intOf]; omega
    · obtain rfl : k = ns.length := by omega
      have hte : ns.take ns.length = ns := List.take_of_length_le (Nat.le_refl _)
      rw [hte] at hfr
      have hRl : R.length = M := by rw [hfr.1, HL.out, hM]
      have hfrq : getB R (segF j.name q0) = none := by rw [hfr.2, if_neg HOUT.out]
      have t1 : ¬ (ns.length : Int) < ns.length := by omega
      have HLK := Lib.hid (show ∀ q z, q ≤ q0 → (Instr.lookup 134 (.map (some w.heap.size)) (.string ⟨(segF j.name q).toArray⟩) false).run Tryz.prog (wr.drewN z) = .ok (.bool (decide (q < q0))) (wr.drewN z) from fun q z hq => by
        have h1 : MapS (wr.drewN z) w.heap.size R := HMP.out.block rfl
        have hs := (segF_len j.name (k := q) (by omega)).2
        have := h1.look (segF j.name q) (by unfold maxLen; omega) 134 4 Tryz.underlying134 (.bool false) (zeroB (wr.drewN z))
        by_cases e : q < q0
        · rw [hfr.2, if_pos (HIN.out q e)] at this
          rw [show decide (q < q0) = true by simp [e]]; exact this
        · rw [show q = q0 by omega, hfrq] at this
          rw [show q = q0 by omega, show decide (q0 < q0) = false by simp]; exact this)
      have HLN := Lib.hid (show ∀ z ty, (Builtin.len_ #[134] ty #[.map (some w.heap.size)]).run Tryz.prog (wr.drewN z) = .ok (.int .i64 (M : Int)) (wr.drewN z) from fun z ty => by
        have h1 : MapS (wr.drewN z) w.heap.size R := HMP.out.block rfl
        have := h1.len 134 _ Tryz.underlying134 ty
        rw [hRl] at this; exact this)
      have HFI := Lib.hid (show ∀ q z, q ≤ q0 → Calls Tryz.prog 64 #[.pointer (some ⟨bj, 0, none⟩), .int .i64 q] (wr.drewN z) (FilePostJ (wr.drewN z) (segF j.name q)) from fun q z hq => jlfile_any (wr.drewN z) bj j.name d1 (by omega) q (by omega))
      have HR := Lib.hid (show ∀ z, Keep (fun b => b = bj) w (wr.drewN z) from fun z => by
        have hbw : Below w.heap.size w (wr.drewN z) := below_drewN (HB2.out.trans (HKP.out.below (by omega) (fun k hk e => by omega))) z
        exact Keep.of_below (F := fun b => b = bj) hbw)
      have HST2 := Lib.hid (show FdRel2 wr q0 (.int .i64 0) wr from ⟨0, 0, rfl, Nat.zero_le _, rfl⟩)
      have hln0 : ∀ ty, (Builtin.len_ #[134] ty #[.map (some w.heap.size)]).run Tryz.prog wr = .ok (.int .i64 (M : Int)) wr := fun ty => HLN.out 0 ty
      clear hmp hfr hkp hte d0 d1
      go_wp2
      go_loopw [8, 40] (fun _ i W => FdRel2 wr q0 i W) (fun _ i _ => m - (intOf i).toNat)
      case atStart => exact HST2.out
      case round =>
        obtain ⟨k, z, rfl, hk, rfl⟩ := hrel
        have t2 : (k : Int) < M := by omega
        go_wp2_with fail
        refine (HFI.out k z hk).mono ?_
        rintro r w5 ⟨rfl, z', hw5⟩
        rw [World.drewN_drewN] at hw5
        subst hw5
        have hlk := HLK.out k (z + z') hk
        by_cases hkm : k < q0
        · have hdk : decide (k < q0) = true := by simp [hkm]
          rw [hdk] at hlk
          have HRL := Lib.hid (show FdRel2 wr q0 (.int .i64 ((k : Int) + 1)) (wr.drewN (z + z')) from ⟨k + 1, z + z', rfl, by omega, rfl⟩)
          go_wp2
          go_roundw
          case rel => exact HRL.out
          case measure => simp [intOf]; omega
        · have hdk : decide (k < q0) = false := by simp [hkm]
          rw [hdk] at hlk
          have HRR := Lib.hid (HR.out (z + z'))
          go_wp2
          go_ret
          exact ⟨rfl, HRR.out⟩
set_option maxRecDepth 100000 in
set_option maxHeartbeats 2000000 in
theorem jlopen_gap (w : World) (G : Nat → Prop) (bd : Nat) (d : Dk) (h : DkIn w G bd d) (hd : d.down = false) (s : List UInt8) (hs : nameB s = true) (per : Nat) (hp : 1 ≤ per) (hp2 : per ≤ 4096) (m q0 : Nat) (hq0 : q0 + 1 < m) (hns : Rising (d.files.map (·.1)) ((fileNs s m).filter fun x => decide (x ≠ segF s q0))) (hm : m ≤ 90) :
    Calls Tryz.prog 18 #[.pointer (some ⟨bd, 0, none⟩), .string ⟨s.toArray⟩, .int .i64 per] w (OpBadPost w G 13) := by
  have hnl := (nameB_len hs).2
  have HNB := Lib.hid (show Calls Tryz.prog 61 #[.string ⟨s.toArray⟩] w fun e w' => e = .returned (.bool true) ∧ w = w' from by have := name_all w s; rw [hs] at this; exact this)
  have HDN := Lib.hid (show Calls Tryz.prog 62 #[.pointer (some ⟨bd, 0, none⟩)] w fun e w' => e = .returned (.bool false) ∧ w = w' from by
    obtain ⟨_, bm, B, V, h⟩ := h
    have := dkdown_any w G bd bm d B V h; rw [hd] at this; exact this)
  have hlt := h.lt
  have hb1 : Below w.heap.size w (w.alloc (jlObj bd (.slice none 0 0) (Jl.new d s per))) := (Below.refl _ _).alloc (Nat.le_refl _) _
  have HJ1 := Lib.hid (show JlAt (w.alloc (jlObj bd (.slice none 0 0) (Jl.new d s per))) G (· = w.heap.size) w.heap.size bd (.slice none 0 0) (Jl.new d s per) from by
    refine ⟨h.up hb1, heap_alloc_new w _, World.ownsRow_nil _ _ _ _, rfl, fun b hb => (by cases hb), fun b hb hg => ?_, fun b hb => ?_⟩
    · have := hlt b hg; subst hb; omega
    · subst hb; simp)
  have HB1 := Lib.hid hb1
  have HF := Lib.hid (jlfind_gap _ G (· = w.heap.size) w.heap.size bd _ _ HJ1.out m q0 hq0 hns hm hnl)
  have HK := Lib.hid (show ∀ W, Keep (fun b => b = w.heap.size) (w.alloc (jlObj bd (.slice none 0 0) (Jl.new d s per))) W → OpBadPost w G 13 (.returned (.tuple #[.pointer none, .int .i64 13])) W from fun W hW => ⟨rfl, (Keep.of_below HB1.out).trans hW (fun b hb e => by omega)⟩)
  clear hb1 h hs hd hlt hns
  go_enter Tryz.func18, Tryz.ntmps18
  go_wp2_with fail
  refine HNB.out.mono ?_
  rintro r w0 ⟨rfl, rfl⟩
  go_wp2_with fail
  refine HDN.out.mono ?_
  rintro r w0 ⟨rfl, rfl⟩
  go_wp2_with fail
  refine HF.out.mono ?_
  rintro r w2 ⟨rfl, hk2⟩
  have HR := Lib.hid (HK.out w2 hk2)
  clear hk2 HF HK
  go_wp2
  go_ret2
  exact HR.out
set_option maxRecDepth 100000 in
set_option maxHeartbeats 2000000 in
theorem jlopen_arg (w : World) (bd : Nat) (s : List UInt8) (per : Int) (hb : nameB s = false ∨ per < 1 ∨ 4096 < per) :
    Calls Tryz.prog 18 #[.pointer (some ⟨bd, 0, none⟩), .string ⟨s.toArray⟩, .int .i64 per] w (fun e w' => e = .returned (.tuple #[.pointer none, .int .i64 1]) ∧ w' = w) := by
  have HNB := Lib.hid (name_all w s)
  go_enter Tryz.func18, Tryz.ntmps18
  go_wp2_with fail
  refine HNB.out.mono ?_
  rintro r w0 ⟨rfl, rfl⟩
  cases hn : nameB s
  case false =>
    go_wp2
    go_ret2
    exact ⟨rfl, rfl⟩
  by_cases h1 : per < 1
  · go_wp2
    go_ret2
    exact ⟨rfl, rfl⟩
  have h2 : 4096 < per := by
    rcases hb with h | h | h
    · rw [hn] at h; cases h
    · exact absurd h h1
    · exact h
  go_wp2
  go_ret2
  exact ⟨rfl, rfl⟩
end Go.Proofs.YtejjfhhppjdcaaaGreatDoor
namespace Go.Proofs.YtejjfhhppjdcaaaGreatDoor
open Go.RowKit Go.Maps Go.Sort

theorem allB_turned : ∀ (l : List (List UInt8)), (∀ p ∈ l, p.length ≤ 65536) → ∀ (i : Nat) (y : UInt8), i < (Frm.catB l).length → y ≠ (Frm.catB l).getD i 0 → (Frm.allB ((Frm.catB l).set i y)).2.2 = 2
  | [], _, i, y, hi, _ => by simp [Frm.catB] at hi
  | p :: l, hp, i, y, hi, hy => by
    have hpl := hp p (by simp)
    have e : Frm.catB (p :: l) = Frm.sealB p ++ Frm.catB l := rfl
    rw [e] at hi hy ⊢
    by_cases h : i < (Frm.sealB p).length
    · rw [List.set_append_left _ _ h]
      have h2 : i < p.length + 10 := by rw [Frm.sealB_length] at h; exact h
      have h3 := Frm.openB_turned p (Frm.catB l) hpl i h2 y (by
        intro e2
        apply hy
        rw [e2]
        simp only [List.getD_eq_getElem?_getD]
        rw [List.getElem?_append_left h])
      have hne : (Frm.sealB p).set i y ++ Frm.catB l ≠ [] := by
        intro hc
        have := congrArg List.length hc
        simp only [List.length_append, List.length_set, List.length_nil] at this
        omega
      rw [Frm.allB_stop _ hne (by rw [h3]; simp), h3]
    · have h' : (Frm.sealB p).length ≤ i := by omega
      rw [List.set_append_right _ _ h', Frm.allB_cons p _ hpl]
      refine allB_turned l (fun x hx => hp x (by simp [hx])) _ y (by rw [List.length_append] at hi; omega) ?_
      intro e2
      apply hy
      rw [e2]
      simp only [List.getD_eq_getElem?_getD]
      rw [List.getElem?_append_right h']
theorem bytesE_small {L : List (Option Ev)} (h : ∀ e, some e ∈ L → mayB e = true) : ∀ p ∈ L.map bytesE, p.length ≤ 65536 := fun p hp => by
  obtain ⟨x, hx, rfl⟩ := List.mem_map.1 hp
  cases x with
  | none => simp [bytesE]
  | some e => have := (mayB_fit (h e hx)).len; simp only [bytesE]; omega
/-- bytes of entries, one of which is another one -/
theorem bytesL_turned {L : List (Option Ev)} (h : ∀ e, some e ∈ L → mayB e = true) {i : Nat} {y : UInt8} (hi : i < (bytesL L).length) (hy : y ≠ (bytesL L).getD i 0) : (Frm.allB ((bytesL L).set i y)).2.2 = 2 := by
  rw [bytesL_cat] at hi hy ⊢
  exact allB_turned _ (bytesE_small h) i y hi hy
theorem bytesL_whole {L : List (Option Ev)} (h : ∀ e, some e ∈ L → mayB e = true) : Frm.allB (bytesL L) = (L.map bytesE, ((bytesL L).length, 0)) := by
  obtain ⟨t, e1, e2⟩ := bytesL_cut L h _ (Nat.le_refl _)
  have hw : wholeB L (bytesL L).length = L.length := by
    have h1 := wholeB_ge L (bytesL L).length _ (Nat.le_refl _) (by rw [List.take_length]; exact Nat.le_refl _)
    have h2 := wholeB_le L (bytesL L).length
    omega
  rw [hw, List.take_length, List.take_length] at e1 e2
  have ht : t = [] := by
    have := congrArg List.length e1
    rw [List.length_append] at this
    exact List.eq_nil_of_length_eq_zero (by omega)
  rw [e2, ht]; simp
section
variable {j : Jl}
theorem Jl.Good.segm (h : j.Good) (k : Nat) : ∀ e, some e ∈ segL j.per k j.es → mayB e = true := fun e he => h.sm e (by unfold segL at he; exact List.mem_of_mem_drop (List.mem_of_mem_take he))
theorem Jl.Good.segsz (h : j.Good) (hn : j.es.length ≤ 80) (k : Nat) : (bytesL (segL j.per k j.es)).length ≤ 100000 := by
  have h1 := bytesL_max (h.segm k)
  have h2 : (segL j.per k j.es).length ≤ j.es.length := by rw [segL_length]; omega
  omega
theorem Jl.Good.seglen (h : j.Good) {k : Nat} (hk : k + 1 < j.files) : (segL j.per k j.es).length = j.per := by
  have h1 := DInv.below h.inv hk
  have h2 := DInv.m1 h.inv
  rw [segL_length]
  rw [Nat.succ_mul] at h1; omega
theorem Jl.Good.segpos (h : j.Good) {k : Nat} (hk : k < j.files) : 0 < (segL j.per k j.es).length := by
  have hp := h.fine.per1
  have h1 : k * j.per < j.es.length := by
    have h2 : k < nseg j.es.length j.per := by rw [← h.fc]; exact hk
    unfold nseg at h2
    have h3 := (Nat.le_div_iff_mul_le (by omega)).1 h2
    rw [Nat.succ_mul] at h3; omega
  rw [segL_length]; omega
/-- a file is replaced by bytes that load refuses -/
theorem Jl.Good.opBad (h : j.Good) (hn : j.es.length ≤ 80) (hp2 : j.per ≤ 4096) {q : Nat} (hq : q < j.files) (B : List UInt8) (hB : B.length ≤ 100000) (hbad : LdBad B j.per (decide (q + 1 = j.files))) :
    j.dk.replaceE (segF j.name q) B = 0 ∧ OpBad (j.dk.replace (segF j.name q) B) j.name j.per j.files j.es q := by
  have hi : DInv j.dk.files j.name j.per j.files j.es j.lasts := h.inv
  have hfs := h.fine.small
  have hl := segF_len j.name (k := q) (by omega)
  have hnm := h.fine.nm
  have ha : j.dk.asked (segF j.name q) = 0 := Dk.asked_fine h.fine.up hl.1 (by omega)
  obtain ⟨st, hg, _⟩ := hi.here q hq
  have hu := h.fine.used
  have hf : j.dk.fullB (segF j.name q) (B.length - (j.dk.file (segF j.name q)).data.length) = false := by
    unfold Dk.fullB
    rw [Bool.or_eq_false_iff]
    refine ⟨?_, by rw [hg]; rfl⟩
    rw [decide_eq_false_iff_not]; omega
  obtain ⟨e1, e2⟩ := Dk.repl_yes ha hf
  obtain ⟨s1, s2⟩ := Dk.step_dark h.fine.dark
  rw [s2, s1] at e1
  rw [s2] at e2
  simp only [if_true] at e1 e2
  have hok := h.ok.replace (segF j.name q) B
  have hfile : ∀ k, k < j.files → k ≠ q → (j.dk.replace (segF j.name q) B).file (segF j.name k) = ⟨bytesL (segL j.per k j.es), (bytesL (segL j.per k (j.es.take j.lasts))).length, ((j.dk.file (segF j.name k)).stays)⟩ := fun k hk hne => by
    obtain ⟨st', hg', _⟩ := hi.here k hk
    rw [e1]
    unfold Dk.file Dk.put
    rw [getB_put_other _ _ (fun e => hne (segF_inj e)), hg']; rfl
  have hfq : (j.dk.replace (segF j.name q) B).file (segF j.name q) = ⟨B, B.length, true⟩ := by
    rw [e1]; unfold Dk.file Dk.put; rw [getB_put_same]; rfl
  have hnms := h.names
  rw [← h.fc] at hnms
  refine ⟨e2, hok, ?_, ?_, hnm, h.fine.per1, hp2, by omega, by omega, h.sm, hq, fun k hk => ?_, fun k hk => bytesL_whole (h.segm k), fun k hk => ?_, fun k hk => ?_, ?_, ?_⟩
  · rw [e1]; exact h.fine.up
  · refine rising_of hok.up fun s => ?_
    rw [e1]
    show (getB (putB (segF j.name q) ⟨B, B.length, true⟩ j.dk.files) s).isSome = true ↔ _
    by_cases e : s = segF j.name q
    · subst e
      rw [getB_put_same]
      exact ⟨fun _ => List.mem_map.2 ⟨q, List.mem_range.2 hq, rfl⟩, fun _ => rfl⟩
    · rw [getB_put_other _ _ e, ← hnms.2]
      constructor
      · intro hs
        obtain ⟨f, hf⟩ := Option.isSome_iff_exists.1 hs
        exact List.mem_map.2 ⟨_, getB_mem hf, rfl⟩
      · intro hs
        obtain ⟨p, hp, rfl⟩ := List.mem_map.1 hs
        rw [getB_of_mem h.ok.up hp]; rfl
  · rw [hfile k (by omega) (by omega)]
  · have := DInv.below hi (k := k) (by omega)
    have h2 := DInv.m1 hi
    omega
  · have := h.segsz hn k; omega
  · rw [hfq]; show B.length ≤ 1000000; omega
  · rw [hfq]; exact hbad
/-- a file is taken away, ahead of another one -/
theorem Jl.Good.gap (h : j.Good) {q : Nat} (_hq : q + 1 < j.files) : Rising ((j.dk.cut (segF j.name q)).files.map (·.1)) ((fileNs j.name j.files).filter fun x => decide (x ≠ segF j.name q)) := by
  have hnms := h.names
  rw [← h.fc] at hnms
  refine rising_of (h.ok.cut _).up fun s => ?_
  show (getB (delB (segF j.name q) j.dk.files) s).isSome = true ↔ _
  rw [getB_del, List.mem_filter, ← hnms.2]
  by_cases e : s = segF j.name q
  · rw [if_pos e]; simp [e]
  · rw [if_neg e]
    simp only [decide_not, Bool.not_eq_true', decide_eq_false_iff_not, e, not_false_eq_true, and_true]
    constructor
    · intro hs
      obtain ⟨f, hf⟩ := Option.isSome_iff_exists.1 hs
      exact List.mem_map.2 ⟨_, getB_mem hf, rfl⟩
    · intro hs
      obtain ⟨p, hp, rfl⟩ := List.mem_map.1 hs
      rw [getB_of_mem h.ok.up hp]; rfl
/-- the last file is taken away -/
theorem Jl.Good.cutLast (h : j.Good) {q : Nat} (hq : q + 1 = j.files) : (⟨j.dk.cut (segF j.name q), j.name, j.per, q, j.es.take (q * j.per), q * j.per, 0⟩ : Jl).Good := by
  have hi : DInv j.dk.files j.name j.per j.files j.es j.lasts := h.inv
  have hp := h.fine.per1
  have hm0 := hi.m0
  have hm1 := hi.m1
  have hqe : j.files - 1 = q := by omega
  rw [hqe] at hm0
  have hle : q * j.per ≤ j.es.length := by omega
  have hlen : (j.es.take (q * j.per)).length = q * j.per := by rw [List.length_take]; omega
  have hns : nseg (q * j.per) j.per = q := by
    unfold nseg
    have h1 : q * j.per + j.per - 1 = q * j.per + (j.per - 1) := by omega
    rw [h1, Nat.mul_comm, Nat.mul_add_div (by omega), Nat.div_eq_of_lt (by omega)]; omega
  refine good_of_dinv ⟨h.ok.up.del _, fun k hk => ?_, fun p hp' => ?_, ?_, ?_, ?_, ?_, hp⟩ (h.ok.cut _) h.fine.dark h.fine.up h.fine.nm ?_ (fun e he => h.sm e (List.mem_of_mem_take he))
  · obtain ⟨st, hg, hst⟩ := hi.here k (by omega)
    have ht : st = true := hst.resolve_right (by omega)
    have hbl : (k + 1) * j.per ≤ q * j.per := Nat.mul_le_mul_right _ (by omega)
    refine ⟨true, ?_, .inl rfl⟩
    show getB (delB (segF j.name q) j.dk.files) (segF j.name k) = _
    rw [getB_del, if_neg (fun e => by have := segF_inj e; omega), hg, ht]
    rw [segL_take j.es hbl, segL_take j.es (show (k + 1) * j.per ≤ j.lasts by omega), List.take_take, Nat.min_self, segL_take j.es hbl]
  · obtain ⟨h1, h2⟩ := delB_mem.1 hp'
    obtain ⟨k, hk, e⟩ := hi.only p h1
    refine ⟨k, ?_, e⟩
    have : k ≠ q := fun hc => h2 (by rw [e, hc])
    omega
  · rw [hlen, hns]; exact Nat.le_refl _
  · rw [hlen, Nat.mul_div_cancel _ (by omega)]; omega
  · have := Nat.mul_le_mul_right j.per (show q - 1 ≤ q by omega); omega
  · rw [hlen]; exact Nat.le_refl _
  · rw [hlen, hns]
/-- the last file is cut -/
theorem Jl.Good.cutFile (h : j.Good) (hn : j.es.length ≤ 80) (hp2 : j.per ≤ 4096) {q : Nat} (hq : q + 1 = j.files) {cut : Nat} (hc : cut < (bytesL (segL j.per q j.es)).length) :
    j.dk.replaceE (segF j.name q) ((bytesL (segL j.per q j.es)).take cut) = 0 ∧ ∃ t, OpIn (j.dk.replace (segF j.name q) ((bytesL (segL j.per q j.es)).take cut)) j.name j.per j.files (j.es.take (q * j.per + wholeB (j.es.drop (q * j.per)) cut)) t ∧
      q * j.per + wholeB (j.es.drop (q * j.per)) cut ≤ j.es.length := by
  have hi : DInv j.dk.files j.name j.per j.files j.es j.lasts := h.inv
  have hp := h.fine.per1
  have hfs := h.fine.small
  have hl := segF_len j.name (k := q) (by omega)
  have hnm := h.fine.nm
  have hm0 := hi.m0
  have hm1 := hi.m1
  have hlast := hi.last
  rw [show j.files - 1 = q by omega] at hm0
  have ha : j.dk.asked (segF j.name q) = 0 := Dk.asked_fine h.fine.up hl.1 (by omega)
  obtain ⟨st, hg, _⟩ := hi.here q (by omega)
  have hu := h.fine.used
  obtain ⟨A, hA⟩ : ∃ A, A = segL j.per q j.es := ⟨_, rfl⟩
  obtain ⟨b, hb⟩ : ∃ b, b = q * j.per := ⟨_, rfl⟩
  have hAd : A = j.es.drop b := by rw [hA, segL_last j.es (by rw [hq]; exact hlast), hb]
  have hAl : A.length = j.es.length - b := by rw [hAd, List.length_drop]
  have hAm : ∀ e, some e ∈ A → mayB e = true := fun e he => h.sm e (by rw [hAd] at he; exact List.mem_of_mem_drop he)
  have hsz := h.segsz hn q
  rw [← hA] at hc hsz ⊢
  rw [← hb, ← hAd]
  obtain ⟨W, hW⟩ : ∃ W, W = wholeB A cut := ⟨_, rfl⟩
  rw [← hW]
  have hWl : W ≤ A.length := by rw [hW]; exact wholeB_le _ _
  have hf : j.dk.fullB (segF j.name q) (((bytesL A).take cut).length - (j.dk.file (segF j.name q)).data.length) = false := by
    unfold Dk.fullB
    rw [Bool.or_eq_false_iff]
    refine ⟨?_, by rw [hg]; rfl⟩
    rw [decide_eq_false_iff_not, List.length_take]; omega
  obtain ⟨e1, e2⟩ := Dk.repl_yes ha hf
  obtain ⟨s1, s2⟩ := Dk.step_dark h.fine.dark
  rw [s2, s1] at e1
  rw [s2] at e2
  simp only [if_true] at e1 e2
  have hok := h.ok.replace (segF j.name q) ((bytesL A).take cut)
  have hbj : b ≤ j.es.length := by omega
  have hfile : ∀ k, k + 1 < j.files → (j.dk.replace (segF j.name q) ((bytesL A).take cut)).file (segF j.name k) = ⟨bytesL (segL j.per k j.es), (bytesL (segL j.per k j.es)).length, true⟩ := fun k hk => by
    obtain ⟨st', hg', hst'⟩ := hi.here k (by omega)
    have ht : st' = true := hst'.resolve_right (by omega)
    rw [segL_take j.es (hi.below hk), ht] at hg'
    rw [e1]
    unfold Dk.file Dk.put
    rw [getB_put_other _ _ (fun e => by have := segF_inj e; omega), hg']; rfl
  have hfq : (j.dk.replace (segF j.name q) ((bytesL A).take cut)).file (segF j.name q) = ⟨(bytesL A).take cut, ((bytesL A).take cut).length, true⟩ := by
    rw [e1]; unfold Dk.file Dk.put; rw [getB_put_same]; rfl
  have hnms := h.names
  rw [← h.fc] at hnms
  have hful : ∀ k, k + 1 < j.files → segL j.per k (j.es.take (b + W)) = segL j.per k j.es := fun k hk => segL_take j.es (by
    have : (k + 1) * j.per ≤ q * j.per := Nat.mul_le_mul_right _ (by omega)
    omega)
  have hlen : (j.es.take (b + W)).length = b + W := by rw [List.length_take]; omega
  have hsegl : segL j.per q (j.es.take (b + W)) = A.take W := by rw [segL_takeM, ← hA, ← hb, Nat.add_sub_cancel_left]
  obtain ⟨t, c1, c2⟩ := bytesL_cut A hAm cut (by omega)
  rw [← hW] at c1 c2
  have hmayt : ∀ e, some e ∈ j.es.take (b + W) → mayB e = true := fun e he => h.sm e (List.mem_of_mem_take he)
  refine ⟨e2, t, ⟨hok, by rw [e1]; exact h.fine.dark, by rw [e1]; exact h.fine.up, rising_of hok.up fun s => ?_, hnm, hp, hp2, by omega, by omega, hmayt, fun k hk => ?_, fun k hk => ?_, fun k hk => ?_, ?_, ?_, fun k hk => ?_⟩, by omega⟩
  · rw [e1]
    show (getB (putB (segF j.name q) _ j.dk.files) s).isSome = true ↔ _
    by_cases e : s = segF j.name q
    · subst e
      rw [getB_put_same]
      exact ⟨fun _ => List.mem_map.2 ⟨q, List.mem_range.2 (by omega), rfl⟩, fun _ => rfl⟩
    · rw [getB_put_other _ _ e, ← hnms.2]
      constructor
      · intro hs
        obtain ⟨f, hf⟩ := Option.isSome_iff_exists.1 hs
        exact List.mem_map.2 ⟨_, getB_mem hf, rfl⟩
      · intro hs
        obtain ⟨p, hp, rfl⟩ := List.mem_map.1 hs
        rw [getB_of_mem h.ok.up hp]; rfl
  · by_cases e : k = q
    · rw [if_pos (by omega), e, hfq, hsegl]; exact c1
    · rw [if_neg (by omega), hfile k (by omega), hful k (by omega)]; simp
  · by_cases e : k = q
    · rw [if_pos (by omega), e, hsegl, ← c1, c2]
      by_cases ht : t = []
      · simp [ht]
      · rw [if_pos ht, if_pos ⟨by omega, ht⟩]
    · rw [if_neg (by omega), List.append_nil, hful k (by omega), bytesL_whole (h.segm k), if_neg (by omega)]
  · have : (k + 1) * j.per ≤ q * j.per := Nat.mul_le_mul_right _ (by omega)
    rw [hlen]; omega
  · rw [hlen, ← hq, Nat.succ_mul, ← hb]
    have h2 : A.length ≤ j.per := by rw [hA]; exact segL_le _ _ _
    omega
  · rw [hlen]
    have : q ≤ (b + W) / j.per := by rw [Nat.le_div_iff_mul_le (by omega), ← hb]; omega
    omega
  · by_cases e : k = q
    · rw [if_pos (by omega), e, hsegl, ← c1, List.length_take]; omega
    · rw [if_neg (by omega), List.append_nil, hful k (by omega)]
      have := h.segsz hn k; omega
/-- what is refused of a file that was cut, ahead of the last one -/
theorem Jl.Good.cutBad (h : j.Good) {q : Nat} (hq : q + 1 < j.files) {cut : Nat} (hc : cut < (bytesL (segL j.per q j.es)).length) : LdBad ((bytesL (segL j.per q j.es)).take cut) j.per (decide (q + 1 = j.files)) := by
  obtain ⟨t, c1, c2⟩ := bytesL_cut (segL j.per q j.es) (h.segm q) cut (by omega)
  have hl := h.seglen hq
  right; right
  refine ⟨by simp; omega, ?_⟩
  rw [c2]
  by_cases ht : t = []
  · right
    rw [List.length_map, List.length_take]
    have h1 := wholeB_le (segL j.per q j.es) cut
    have h2 : wholeB (segL j.per q j.es) cut ≠ (segL j.per q j.es).length := fun e => by
      have h3 := wholeB_lo (segL j.per q j.es) cut
      rw [e, List.take_length] at h3; omega
    omega
  · left
    rw [if_pos ht]
end
end Go.Proofs.YtejjfhhppjdcaaaGreatDoor
