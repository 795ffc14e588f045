/-
  The law JournalFuses, walked.
-/
import Derived.Test.YtejjfhhppjdcaaaGreatDoorOJOpens
import Derived.Test.YtejjfhhppjdcaaaGreatDoorOKpRow
import Derived.Test.YtejjfhhppjdcaaaGreatDoorOJFz
import Derived.Test.YtejjfhhppjdcaaaGreatDoorODkArm
namespace Go.Proofs.YtejjfhhppjdcaaaGreatDoor
open Go.RowKit Go.Maps Go.Sort Go.Shelf

def FuRel (w : World) (bj bd per : Nat) (ds : List Dj) (v t i : Value) (W : World) : Prop :=
  ∃ (k : Nat) (sb : Bool) (G F : Nat → Prop) (j : Jl) (sent : List Ev), i = .int .i64 k ∧ k ≤ ds.length ∧ t = .bool sb ∧ (sb = true ↔ j.stuck ≠ 0) ∧ FzM w G F bj bd per j v (sent.map some) sent W ∧ sent.length ≤ sumL (ds.take k) ∧ (∀ e ∈ sent, mayB e = true)
/-- a row of events apart from a disk -/
structure RwS (w : World) (v : Value) (sent : List Ev) (G : Nat → Prop) (W : World) : Prop where
  kp : RowKit.Below w.heap.size w W
  row : OwnE W w.heap.size v sent
  ap : ∀ b, v.ownBlock = some b → ¬ G b
  lo : ∀ b, G b → w.heap.size ≤ b
section
variable {w W W' : World} {v : Value} {sent : List Ev} {G G' : Nat → Prop}
theorem RwS.next (h : RwS w v sent G W) (hk : Keep G W W') (hG : ∀ b, G' b → G b ∨ W.heap.size ≤ b) : RwS w v sent G' W' := by
  have hs := h.kp.size
  refine ⟨h.kp.trans (hk.below hs (fun k hk' hg => by have := h.lo k hg; omega)), h.row.keepB fun b hb => hk.block b (World.ownsRow.lt h.row b hb).2 (h.ap b hb), fun b hb hg => ?_, fun b hb => ?_⟩
  · rcases hG b hg with h' | h'
    · exact h.ap b hb h'
    · have := (World.ownsRow.lt h.row b hb).2; omega
  · rcases hG b hb with h' | h'
    · exact h.lo b h'
    · omega
theorem RwS.below (h : RwS w v sent G W) (hb : RowKit.Below W.heap.size W W') : RwS w v sent G W' := h.next (Keep.of_below hb) (fun _ hb => .inl hb)
end
theorem rdEv_some : ∀ l : List Ev, rdEv (l.map some) = l
  | [] => rfl
  | e :: l => by
    have ih := rdEv_some l
    unfold rdEv at ih ⊢
    simp only [List.map_cons, List.filterMap_cons, id_eq]
    first | rw [ih] | simp_all
set_option maxRecDepth 100000 in
set_option maxHeartbeats 8000000 in
theorem jfuses_any (w : World) (p : Int) (A : Option Addr) (n c : Nat) (ds : List Dj) (h : Djs w w.heap.size A n c ds) (hn : n ≤ 140737488355328) (fuse keep : Int) (hmx : MaxAt w) :
    Calls Tryz.prog 5 #[.int .i64 p, .slice A n c, .int .i64 fuse, .int .i64 keep] w (Says true w) := by
  have HH := Lib.hid h; clear h
  have HMX := Lib.hid hmx
  have hml := hmx.lt
  clear hmx
  have HDJ := Lib.hid (show ∀ W, RowKit.Below w.heap.size w W → Djs W w.heap.size A n c ds from fun W hW => HH.out.below hW)
  have HMXW := Lib.hid (show ∀ W, RowKit.Below w.heap.size w W → MaxAt W from fun W hW => HMX.out.up hW)
  go_enter Tryz.func5, Tryz.ntmps5
  go_wp2_with fail
  refine (jlives_any w HMX.out).mono ?_
  rintro r w1 ⟨rfl, hb1⟩
  have hs1 := hb1.size
  have HB1 := Lib.hid hb1
  clear hb1
  by_cases h1 : p < 1
  · go_wp2
    go_ret
    exact ⟨rfl, HB1.out⟩
  by_cases h2 : 8 < p
  · go_wp2
    go_ret
    exact ⟨rfl, HB1.out⟩
  have hH1 : Djs w1 w1.heap.size A n c ds := Djs.more (HDJ.out w1 HB1.out) hs1
  go_wp2_with fail
  refine (heavy05_any w1 A n c ds hH1 hn).mono ?_
  rintro r w2 ⟨rfl, hb2⟩
  have HB2 := Lib.hid (HB1.out.trans (hb2.mono hs1))
  clear hb2 hH1
  cases hhv : heavyB ds
  case true =>
    clear hhv
    go_wp2
    go_ret
    exact ⟨rfl, HB2.out⟩
  obtain ⟨hsm, hsum⟩ := heavyB_no hhv
  have HSM := Lib.hid hsm
  clear hsm hhv
  by_cases h3 : fuse < 0
  · go_wp2
    go_ret
    exact ⟨rfl, HB2.out⟩
  by_cases h4 : 100 < fuse
  · go_wp2
    go_ret
    exact ⟨rfl, HB2.out⟩
  obtain ⟨per, rfl⟩ := Int.eq_ofNat_of_zero_le (show 0 ≤ p by omega)
  have hs2 := HB2.out.size
  go_wp2_with fail
  refine (dknew_any w2).mono ?_
  rintro r w3 ⟨bd, G0, rfl, hd3, hG3, hb3⟩
  have HD3 := Lib.hid hd3
  have HB3 := Lib.hid (HB2.out.trans (hb3.mono hs2))
  have HG3 := Lib.hid (show ∀ b, G0 b → w.heap.size ≤ b from fun b hb => by have := hG3 b hb; omega)
  have hs3 := HB3.out.size
  clear hd3 hG3 hb3
  go_wp2_with fail
  refine (jlopen0_any w3 G0 bd Dk.new HD3.out rfl rfl [106] (by decide) per (by omega) (by omega)).mono ?_
  rintro r w4 ⟨bj, G4, F4, rfl, hj4, hG4, hF4, hk4⟩
  have HJ4 := Lib.hid hj4
  have HB4 := Lib.hid (show RowKit.Below w.heap.size w w4 from HB3.out.trans (hk4.below hs3 (fun k hk hg => by have := HG3.out k hg; omega)))
  have HLO4 := Lib.hid (show ∀ b, G4 b ∨ F4 b → w.heap.size ≤ b from fun b hb => by
    rcases hb with hb | hb
    · rcases hG4 b hb with h | h
      · exact HG3.out b h
      · omega
    · have := hF4 b hb; omega)
  have hs4 := HB4.out.size
  clear hj4 hG4 hF4 hk4
  go_wp2_with fail
  refine (dkarm_any w4 G4 bd Dk.new HJ4.out.dk fuse (by omega) (by omega)).mono ?_
  rintro r w5 ⟨rfl, hd5⟩
  have HST0 := Lib.hid (show ∃ G5, JlIn w5 G5 F4 bj bd (Jl.new (Dk.new.arm fuse) [106] per) ∧ (∀ b, G5 b ∨ F4 b → w.heap.size ≤ b) ∧ RowKit.Below w.heap.size w w5 from by
    obtain ⟨ho, v, hj⟩ := HJ4.out
    obtain ⟨G6, h6, hG6, hk6⟩ := hj.disk hd5
    refine ⟨G6, ⟨⟨ho.per1, ho.per2, ho.nm, ho.num, ho.fl, ho.las, ho.may⟩, v, h6⟩, fun b hb => ?_, HB4.out.trans (hk6.below hs4 (fun k hk hg => by have := HLO4.out k (.inl hg); omega))⟩
    rcases hb with hb | hb
    · rcases hG6 b hb with h | h
      · exact HLO4.out b (.inl h)
      · omega
    · exact HLO4.out b (.inr hb))
  clear hd5
  obtain ⟨G5, hj5, hlo5, hb5⟩ := HST0.out
  have hs5 := hb5.size
  have HR0 := Lib.hid (show FuRel w bj bd per ds (.slice (some ⟨w5.heap.size, 0, none⟩) 0 0) (.bool false) (.int .i64 0) (w5.alloc (.cells #[] 36)) from by
    have hba : RowKit.Below w5.heap.size w5 (w5.alloc (.cells #[] 36)) := (Below.refl _ _).alloc (Nat.le_refl _) _
    refine ⟨0, false, G5, F4, _, [], rfl, Nat.zero_le _, rfl, by simp [Jl.new], ⟨hj5.up hba, ?_, ?_, fun b hb hg => ?_, hlo5, hb5.trans (hba.mono hs5)⟩, Nat.zero_le _, fun e he => by cases he⟩
    · exact Jl.new_arm_fz [106] per (by simp) (by omega) _ rfl (Dk.ok_new.arm (by omega)) rfl
    · exact World.ownsRow_lit (e := 36) (size := 8) w5 #[] 0 (by omega) (by simp [maxLen]) rfl
    · have hb : some w5.heap.size = some b := hb
      injection hb with hb
      have := hj5.lt b hg; omega)
  obtain ⟨i0, hi, hz0, hz1, hz2⟩ := info_parts ev_info
  have HI := Lib.hid hi; have HZ0 := Lib.hid hz0; have HZ1 := Lib.hid hz1; have HZ2 := Lib.hid hz2
  clear hi hz0 hz1 hz2
  obtain ⟨j0, hi, hz0, hz1, hz2⟩ := info_parts jint_info
  have KI := Lib.hid hi; have KZ0 := Lib.hid hz0; have KZ1 := Lib.hid hz1; have KZ2 := Lib.hid hz2
  clear hi hz0 hz1 hz2 hj5 hlo5 hb5 HST0
  have HL := Lib.hid HH.out.len
  go_wp2
  go_loopw [12, 13, 14, 15, 16] (fun v t i _ _ W => FuRel w bj bd per ds v t i W) (fun _ _ i _ _ _ => n - (intOf i).toNat)
  case atStart => exact HR0.out
  case round =>
    obtain ⟨k, sb, G, F, j, sent, rfl, hk, rfl, hsb, hfz, hsl, hsy⟩ := hrel
    have HFZ := Lib.hid hfz; have HSB := Lib.hid hsb; have HSY := Lib.hid hsy
    have hbw := hfz.kp
    have hsw := hbw.size
    have hkn0 : k ≤ n := by rw [← HL.out]; exact hk
    clear hfz hsb hsy
    by_cases hkn : k < n
    · have hkl : k < ds.length := by rw [HL.out]; exact hkn
      obtain ⟨b, off, hAe, hbB, hd⟩ := HH.out.at_ k hkl
      subst hAe
      obtain ⟨e0, ⟨A1, n1, c1, e1, hev0, hn1⟩, e2, e3, e4⟩ := hd
      have hsk : sumL (ds.take (k + 1)) = sumL (ds.take k) + ds[k].l.length := sumL_snoc ds k hkl
      have hst := sumL_take ds (k + 1)
      have HDS := Lib.hid (HSM.out ds[k] (List.getElem_mem hkl))
      have HCL := Lib.hid (show ∀ W, RowKit.Below w.heap.size w W → (W.cell? ⟨b, off + k * 5, none⟩ = some (.int .u8 ds[k].kind) ∧ W.cell? ⟨b, off + k * 5 + 1, none⟩ = some (.slice A1 n1 c1) ∧ W.cell? ⟨b, off + k * 5 + 2, none⟩ = some (.string ⟨ds[k].per.toArray⟩) ∧ W.cell? ⟨b, off + k * 5 + 3, none⟩ = some (.int .i64 ds[k].from_) ∧ W.cell? ⟨b, off + k * 5 + 4, none⟩ = some (.int .i64 ds[k].n)) from fun W hW =>
        ⟨(hW.cell (p := ⟨b, _, none⟩) hbB).trans e0, (hW.cell (p := ⟨b, _, none⟩) hbB).trans e1, (hW.cell (p := ⟨b, _, none⟩) hbB).trans e2, (hW.cell (p := ⟨b, _, none⟩) hbB).trans e3, (hW.cell (p := ⟨b, _, none⟩) hbB).trans e4⟩)
      have HEV := Lib.hid (show ∀ W, RowKit.Below w.heap.size w W → Evs W W.heap.size A1 n1 c1 ds[k].l from fun W hW => Cel.more (Cel.below hev0 hW) hW.size)
      have HAB := Lib.hid (show ∀ b off, A1 = some ⟨b, off, none⟩ → 0 < n1 → b < w.heap.size from fun b' off' e h0 => by
        obtain ⟨b2, off2, e2, hb2, _⟩ := Cel.cell hev0 h0
        rw [e2] at e; injection e with e; injection e with e; omega)
      have hln1 : ds[k].l.length = n1 := Evs.len hev0
      obtain ⟨d0, d1, d2, d3, d4⟩ := HCL.out wr hbw
      obtain ⟨d, hdd⟩ : ∃ d, d = ds[k] := ⟨_, rfl⟩
      rw [← hdd] at d0 d2 d3 d4 HEV hsk HDS hln1
      clear hdd hev0 HCL e0 e1 e2 e3 e4
      obtain ⟨kd, hkd⟩ : ∃ kd, kd = d.kind := ⟨_, rfl⟩
      rw [← hkd] at d0
      have hba : RowKit.Below wr.heap.size wr (wr.alloc (djObj kd A1 n1 c1 d.per d.from_ d.n)) := (Below.refl _ _).alloc (Nat.le_refl _) _
      have HFA := Lib.hid (HFZ.out.below hba)
      have HTA := Lib.hid (heap_alloc_new wr (djObj kd A1 n1 c1 d.per d.from_ d.n))
      have HSA := Lib.hid (show (wr.alloc (djObj kd A1 n1 c1 d.per d.from_ d.n)).heap.size = wr.heap.size + 1 by simp)
      have HNX := Lib.hid (show ∀ (sb' : Bool) G' F' j' v' sent' W', FzM w G' F' bj bd per j' v' (sent'.map some) sent' W' → (sb' = true ↔ j'.stuck ≠ 0) → sent'.length ≤ sumL (ds.take (k + 1)) → (∀ e ∈ sent', mayB e = true) → FuRel w bj bd per ds v' (.bool sb') (.int .i64 ((k : Int) + 1)) W' from fun sb' G' F' j' v' sent' W' h1 h2 h3 h4 => ⟨k + 1, sb', G', F', j', sent', rfl, by omega, rfl, h2, h1, h3, h4⟩)
      have t1 : (k : Int) < n := by omega
      clear hkd
      go_upto_region 16 with fail
      obtain ⟨wa, hwa⟩ : ∃ wa, wa = wr.alloc (djObj kd A1 n1 c1 d.per d.from_ d.n) := ⟨_, rfl⟩
      obtain ⟨ba, hba2⟩ : ∃ ba, ba = wr.heap.size := ⟨_, rfl⟩
      rw [← hwa] at HFA HTA HSA ⊢
      rw [← hba2] at HTA HSA ⊢
      have hfl := HFA.out.jl.1.fl
      have hpre := HFA.out.fz.pre
      rw [List.length_map] at hpre
      have HBE := Lib.hid hba2
      clear hwa hba2 hba d0 d1 d2 d3 d4
      have y0 : wa.cell? ⟨ba, 0, none⟩ = some (.int .u8 kd) := (cell_of_row wa ba 0 _ _ (0, 0) HTA.out).trans rfl
      have y1 : wa.cell? ⟨ba, 1, none⟩ = some (.slice A1 n1 c1) := (cell_of_row wa ba 1 _ _ (0, 0) HTA.out).trans rfl
      have HS8 := Lib.hid (HFA.out.num)
      by_cases hk2 : kd = 2
      · subst hk2
        have HFS := Lib.hid (HFA.out.fz.sync (by rw [List.length_map]; omega))
        go_wp2_with fail
        refine (jlsyncA_any wa G F bj bd j HFA.out.jl (by omega)).mono ?_
        rintro r w6 ⟨rfl, hd6⟩
        obtain ⟨G6, F6, hf6⟩ := HFA.out.deed hd6 HFS.out.2.2.1
        have HF6 := Lib.hid hf6
        obtain ⟨e, he⟩ : ∃ e, e = j.syncAE := ⟨_, rfl⟩
        rw [← he]
        have HE := Lib.hid (show e = j.syncA.stuck ∧ (e = 0 ∨ e = 8) ∧ (sb = true → e = 8) from ⟨by rw [he]; exact HFS.out.2.2.2, by rw [he]; exact HFS.out.1, fun h => by rw [he]; exact (HFS.out.2.1 (HSB.out.1 h)).1⟩)
        clear hd6 hf6 he y0 y1
        rcases HE.out.2.1 with rfl | rfl
        · obtain rfl : sb = false := by
            cases sb
            · rfl
            · have := HE.out.2.2 rfl; omega
          have HRR := Lib.hid (HNX.out false G6 F6 j.syncA _ sent w6 HF6.out (by rw [← HE.out.1]; simp) (by omega) HSY.out)
          go_wp2
          go_roundw
          case rel => exact HRR.out
          case measure => simp [intOf]; omega
        · have HRR := Lib.hid (HNX.out true G6 F6 j.syncA _ sent w6 HF6.out (by rw [← HE.out.1]; simp) (by omega) HSY.out)
          cases sb
          all_goals
            go_wp2
            go_roundw
            case rel => exact HRR.out
            case measure => simp [intOf]; omega
      · have tk2 : (kd == 2) = false := by simp; omega
        by_cases hk1 : kd < 2
        · have HAL := Lib.hid (all02_any wa A1 n1 c1 d.l (HEV.out wa HFA.out.kp) hn1 HDS.out)
          go_wp2_with fail
          refine HAL.out.mono ?_
          rintro r w6 ⟨rfl, hb6⟩
          have HF6 := Lib.hid (HFA.out.below hb6)
          have y0 : w6.cell? ⟨ba, 0, none⟩ = some (.int .u8 kd) := (hb6.cell (p := ⟨ba, 0, none⟩) (by have := HSA.out; show ba < _; omega)).trans y0
          have y1 : w6.cell? ⟨ba, 1, none⟩ = some (.slice A1 n1 c1) := (hb6.cell (p := ⟨ba, 1, none⟩) (by have := HSA.out; show ba < _; omega)).trans y1
          have hs6 := hb6.size
          clear hb6 HAL
          have hbA := HSA.out
          cases hal : d.l.all mayB
          case false =>
            have HRR := Lib.hid (HNX.out sb G F j _ sent w6 HF6.out HSB.out (by omega) HSY.out)
            clear hal y0 y1
            go_wp2
            go_roundw
            case rel => exact HRR.out
            case measure => simp [intOf]; omega
          have HMY := Lib.hid (List.all_eq_true.1 hal)
          have HFP := Lib.hid (HFA.out.fz.app d.l (by rw [List.length_map]; omega) hal)
          clear hal
          cases sb
          case true =>
            have hstk := HSB.out.1 rfl
            have hap := HFP.out.2.1 hstk
            have HAP := Lib.hid (jlapp_any w6 G F bj bd j HF6.out.jl A1 n1 c1 d.l (HEV.out w6 HF6.out.kp) (fun b' off' e h0 hg => by have := HAB.out b' off' e h0; have := HF6.out.lo b' hg; omega) HDS.out (by omega) (HMXW.out _ HF6.out.kp) ⟨fun hg => by have := HF6.out.lo _ (.inl hg); omega, fun hg => by have := HF6.out.lo _ (.inr hg); omega⟩)
            rw [hap.1, hap.2] at HAP
            clear hap
            go_wp2_with fail
            refine HAP.out.mono ?_
            rintro r w7 ⟨rfl, hd7⟩
            obtain ⟨G7, F7, hf7⟩ := HF6.out.deed hd7 HF6.out.fz
            have HRR := Lib.hid (HNX.out true G7 F7 j _ sent w7 hf7 ⟨fun _ => hstk, fun _ => rfl⟩ (by omega) HSY.out)
            clear hd7 hf7 y0 y1
            go_wp2
            go_roundw
            case rel => exact HRR.out
            case measure => simp [intOf]; omega
          case false =>
            have hstk : j.stuck = 0 := Decidable.byContradiction fun hc => by have := HSB.out.2 hc; cases this
            have HFQ := Lib.hid (HFP.out.2.2.1 hstk)
            go_wp2_with (at_builtin; refine wpList_app (P := Tryz.prog) rfl (.tmp 84) (.tmp 86) 22 rfl 36 i0 _ 8 96 Tryz.underlying22 HI.out HZ0.out HZ1.out HZ2.out rfl (by decide) w.heap.size _ sent.length (evCells sent) rfl HF6.out.row w6.heap.size _ _ _ (evCells d.l) rfl (HEV.out w6 HF6.out.kp) (cells_ones d.l) ?c4 ?c5 ?c6 ?_)
            case c4 => unfold maxLen; omega
            case c5 => omega
            case c6 => exact HF6.out.kp.size
            intro v7 w7 ho7 hg7 hv7
            have HF7 := Lib.hid (HF6.out.grow (l := d.l) (by unfold OwnE evCells at *; rw [List.flatMap_append, List.length_append, hln1]; exact ho7) hg7 hv7)
            have hnb : ba < w6.heap.size := by omega
            have hnv : some ba ≠ u12.ownBlock := fun e => by
              have h1 := (World.ownsRow.lt HFZ.out.row ba e.symm).2
              have h2 := HBE.out
              omega
            have y1 : w7.cell? ⟨ba, 1, none⟩ = some (.slice A1 n1 c1) := by
              have := hg7.block ba hnb (fun e => hnv (by rw [← e]))
              exact (World.cell?_of_block (w := w6) (a := ⟨ba, 1, none⟩) this).trans y1
            have HAP := Lib.hid (jlapp_any w7 G F bj bd j HF7.out.jl A1 n1 c1 d.l (HEV.out w7 HF7.out.kp) (fun b' off' e h0 hg => by have := HAB.out b' off' e h0; have := HF7.out.lo b' hg; omega) HDS.out (by omega) (HMXW.out _ HF7.out.kp) ⟨fun hg => by have := HF7.out.lo _ (.inl hg); omega, fun hg => by have := HF7.out.lo _ (.inr hg); omega⟩)
            clear ho7 hg7 hv7 y0 hnv
            go_wp2_with fail
            refine HAP.out.mono ?_
            rintro r w8 ⟨rfl, hd8⟩
            obtain ⟨G8, F8, hf8⟩ := HF7.out.deed hd8 (by rw [← List.map_append] at HFQ; exact HFQ.out)
            have HF8 := Lib.hid hf8
            obtain ⟨e, he⟩ : ∃ e, e = j.appE d.l := ⟨_, rfl⟩
            rw [← he]
            have HE := Lib.hid (show e = (j.app d.l).stuck ∧ (e = 0 ∨ e = 8) from ⟨by rw [he]; exact HFP.out.2.2.2.1, by rw [he]; exact HFP.out.1⟩)
            have HSY2 := Lib.hid (show ∀ e ∈ sent ++ d.l, mayB e = true from fun e he => by
              rcases List.mem_append.1 he with he | he
              · exact HSY.out e he
              · exact HMY.out e he)
            generalize j.appN d.l = xn at *
            clear hd8 hf8 he y1
            rcases HE.out.2 with rfl | rfl
            · have HRR := Lib.hid (HNX.out false G8 F8 (j.app d.l) _ (sent ++ d.l) w8 HF8.out (by rw [← HE.out.1]; simp) (by rw [List.length_append]; omega) HSY2.out)
              go_wp2
              go_roundw
              case rel => exact HRR.out
              case measure => simp [intOf]; omega
            · have HRR := Lib.hid (HNX.out true G8 F8 (j.app d.l) _ (sent ++ d.l) w8 HF8.out (by rw [← HE.out.1]; simp) (by rw [List.length_append]; omega) HSY2.out)
              go_wp2
              go_roundw
              case rel => exact HRR.out
              case measure => simp [intOf]; omega
        · have HRR := Lib.hid (HNX.out sb G F j _ sent wa HFA.out HSB.out (by omega) HSY.out)
          clear y1
          go_wp2
          go_roundw
          case rel => exact HRR.out
          case measure => simp [intOf]; omega
    · obtain rfl : k = n := by omega
      have t1 : ¬ (k : Int) < k := by omega
      have hs60 : sent.length ≤ 60 := by have := sumL_take ds k; omega
      have hpre := HFZ.out.fz.pre
      have hlas := HFZ.out.fz.las
      rw [List.length_map] at hpre
      obtain ⟨Av, cv, hv⟩ := ownsRow_form HFZ.out.row
      subst hv
      obtain ⟨wz, hwz⟩ : ∃ wz, wz = wr := ⟨_, rfl⟩
      subst hwz
      have HLN := Lib.hid (jllen_any wz G F bj bd j HFZ.out.jl)
      have HLA := Lib.hid (jllasting_any wz G F bj bd j HFZ.out.jl)
      have tg1 : ¬ (sent.length : Int) < j.es.length := by omega
      have tg2 : ¬ (j.es.length : Int) < j.lasts := by omega
      have tb1 : decide (sent.length < j.es.length) = false := by simp; omega
      have tb2 : decide (j.es.length < j.lasts) = false := by simp; omega
      obtain ⟨N, hN⟩ : ∃ N, N = j.dk.files.length := ⟨_, rfl⟩
      have hN61 : N ≤ 4096 := by rw [hN]; exact HFZ.out.fz.ok.num
      have HN := Lib.hid hN
      have HNM := Lib.hid (show ∀ W, RowKit.Below wz.heap.size wz W → Calls Tryz.prog 20 #[.pointer (some ⟨bd, 0, none⟩)] W (SrcPost W (j.dk.files.map (·.1))) from fun W hW => dknames_any W G bd j.dk (HFZ.out.jl.up hW).dk)
      have HK0 := Lib.hid (show KpRel wz N keep (.slice (some ⟨wz.heap.size, 0, none⟩) 0 0) (.int .i64 0) (wz.alloc (.cells #[] 3)) from ⟨0, rfl, Nat.zero_le _, World.ownsRow_lit (e := 3) (size := 1) wz #[] 0 (Nat.le_refl _) (by simp [maxLen]) rfl, (Below.refl _ _).alloc (Nat.le_refl _) _⟩)
      clear hN
      go_wp2_with fail
      refine HLN.out.mono ?_
      rintro r wl ⟨rfl, rfl⟩
      go_wp2_with fail
      refine HLA.out.mono ?_
      rintro r wl ⟨rfl, rfl⟩
      go_wp2
      go_loopw [19, 20] (fun v i W => KpRel wz N keep v i W) (fun _ i _ => N - (intOf i).toNat)
      case atStart => exact HK0.out
      case round =>
        obtain ⟨q, rfl, hq, hov, hbel⟩ := hrel
        have HV := Lib.hid hov; have HBL := Lib.hid hbel
        have hsr := hbel.size
        clear hov hbel
        go_wp2_with fail
        refine (HNM.out wr HBL.out).mono ?_
        rintro r wn ⟨vn, rfl, hrow, hbn⟩
        obtain ⟨An, cn, hvn⟩ := ownsRow_form hrow
        subst hvn
        have HBN := Lib.hid (show RowKit.Below wz.heap.size wz wn from HBL.out.trans (hbn.mono hsr))
        have HVN := Lib.hid (show OwnI wn wz.heap.size u19 (List.replicate q keep) from OwnI.keepB HV.out fun b hb => hbn.block b (World.ownsRow.lt HV.out b hb).2)
        have hln : (j.dk.files.map (·.1)).length = N := by rw [List.length_map, HN.out]
        rw [hln]
        have hsn := HBN.out.size
        clear hrow hbn hln
        by_cases hqN : q < N
        · have t2 : (q : Int) < N := by omega
          have hlk : (List.replicate q keep).length = q := by simp
          go_wp2_with (at_builtin; refine wpList_app (P := Tryz.prog) rfl (.tmp 134) (.tmp 136) 63 rfl 3 j0 _ 1 8 Tryz.underlying63 KI.out KZ0.out KZ1.out KZ2.out rfl (by decide) wz.heap.size _ (List.replicate q keep).length (intVs (List.replicate q keep)) rfl ?c1 (wn.heap.size + 1) _ _ _ [.int .i64 keep] rfl ?c2 ?c3 ?c4 ?c5 ?c6 ?_)
          case c1 => exact World.ownsRow.alloc HVN.out _
          case c2 => exact Cel.new (size := 1) (n := 1) wn #[.int .i64 keep] 3 (by unfold maxLen; omega) rfl
          case c3 => intro u hu; simp at hu; subst hu; rfl
          case c4 => unfold maxLen; omega
          case c5 => omega
          case c6 => first | omega | (simp; omega)
          intro u' w6 hown3 hg3 _
          have HKR := Lib.hid (show KpRel wz N keep u' (.int .i64 ((q : Int) + 1)) w6 from by
            refine ⟨q + 1, rfl, by omega, ?_, Below.grown (HBN.out.alloc hsn _) hg3 (by first | omega | (simp; omega)) (fun k' hk' => (World.ownsRow.lt HVN.out k' hk').1)⟩
            rw [List.replicate_succ']
            unfold OwnI intVs; rw [List.map_append, List.length_append, List.length_replicate]; exact hown3)
          clear hown3 hg3
          go_wp2
          go_roundw
          case rel => exact HKR.out
          case measure => simp [intOf]; omega
        · have t2 : ¬ (q : Int) < N := by omega
          obtain rfl : q = N := by omega
          obtain ⟨AK, cK, rfl, hik⟩ := HVN.out.form
          have HIK := Lib.hid hik
          have hlk : (List.replicate q keep).length = q := by simp
          rw [hlk] at HIK ⊢
          obtain ⟨Q, hQs, hQl, hco⟩ := HFZ.out.fz.crash (by simp) (by omega) (by omega) HSY.out (List.replicate q keep)
          have HCO := Lib.hid hco
          have HRW := Lib.hid (show RwS w (.slice Av sent.length cv) sent G wn from by
            have h1 := HFZ.out.below HBN.out
            exact ⟨h1.kp, h1.row, fun b hb hg => h1.ap b hb (.inl hg), fun b hb => h1.lo b (.inl hb)⟩)
          have HCR := Lib.hid (show Calls Tryz.prog 36 #[.pointer (some ⟨bd, 0, none⟩), .slice AK q cK] wn (CrPost wn G bd (j.dk.crash (List.replicate q keep))) from
            dkcrash_any wn G bd j.dk (HFZ.out.jl.up HBN.out).dk (fun p hp => by
              obtain ⟨fc, L, hi, hL⟩ := HFZ.out.fz.disk
              have hLl := hL.length_le
              rw [List.length_map] at hLl
              obtain ⟨z, hz, e⟩ := hi.only p hp
              have h9 := hi.hi
              have h8 := Nat.div_le_self L.length per
              have := (segF_len [106] (k := z) (by omega)).2
              rw [e]
              simp only [List.length_cons, List.length_nil] at this; omega) AK q cK _ HIK.out (fun b off e h0 hg => by
              have h1 := HVN.out.2
              rcases h1 with ⟨e', _⟩ | ⟨g, cap, cur, e', hbg, _⟩
              · injection e' with e1 e2; rw [e1] at e; cases e
              · injection e' with e1 e2
                rw [e] at e1; injection e1 with e1; injection e1 with e1
                have := (HFZ.out.jl.lt b (.inl hg)); omega))
          go_wp2_with fail
          refine HCR.out.mono ?_
          rintro r w9 ⟨rfl, G3, hd9, hG9, hk9⟩
          have HRW9 := Lib.hid (HRW.out.next hk9 hG9)
          have HD9 := Lib.hid hd9
          generalize j.dk.crash (List.replicate q keep) = d9 at *
          clear hd9 hG9 hk9 HCR hco hik hlk
          obtain ⟨fc, t, ho, hfine⟩ := HCO.out.opened
          have hlQ : (sent.take Q).length = Q := by rw [List.length_take]; omega
          rw [List.take_of_length_le (by rw [List.length_map, hlQ]; exact Nat.le_refl _)] at ho hfine
          have HLQ := Lib.hid hlQ
          obtain ⟨st, hst⟩ : ∃ st, st = sent.take Q := ⟨_, rfl⟩
          rw [← hst] at ho hfine HLQ
          have HST := Lib.hid hst
          have HOP := Lib.hid (show Calls Tryz.prog 18 #[.pointer (some ⟨bd, 0, none⟩), .string ⟨#[106]⟩, .int .i64 (per : Int)] w9 (OpenPost w9 G3 bd (Jl.opened d9 [106] per fc (st.map some) t)) from
            jlopen_any w9 G3 bd d9 HD9.out [106] (by decide) per fc (st.map some) t ho (HMXW.out _ HRW9.out.kp) (fun hg => by have := HRW9.out.lo _ hg; omega))
          obtain ⟨j2, hj2⟩ : ∃ j2, j2 = Jl.opened d9 [106] per fc (st.map some) t := ⟨_, rfl⟩
          have he2 : j2.es = st.map some := by rw [hj2]; rfl
          rw [← hj2] at HOP
          have HE2 := Lib.hid he2
          clear ho hfine hlQ hst he2 hj2
          go_wp2_with fail
          refine HOP.out.mono ?_
          rintro r w10 ⟨bj2, G4, F4, rfl, hj10, hG10, hF10, hk10⟩
          have HRW10 := Lib.hid (HRW9.out.next hk10 hG10)
          have HJ10 := Lib.hid hj10
          have HLN2 := Lib.hid (show ∀ W, RowKit.Below w10.heap.size w10 W → Calls Tryz.prog 23 #[.pointer (some ⟨bj2, 0, none⟩)] W (fun e w' => e = .returned (.int .i64 (Q : Int)) ∧ W = w') from fun W hW => by
            have := jllen_any W G4 F4 bj2 bd j2 (HJ10.out.up hW)
            rw [HE2.out, List.length_map, HLQ.out] at this; exact this)
          have HRD := Lib.hid (show Calls Tryz.prog 37 #[.pointer (some ⟨bj2, 0, none⟩), .int .i64 0, .int .i64 (Q : Int)] w10 (JRdPost w10 st (rdAt 0 (st.map some)) 0) from by
            have := jlread_any w10 G4 F4 bj2 bd j2 HJ10.out 0 Q
            have e1 : j2.rdBad 0 Q = false := by unfold Jl.rdBad; simp
            have e2 : j2.rdSeg 0 Q = st.map some := by
              unfold Jl.rdSeg
              rw [HE2.out, List.length_map, HLQ.out]
              have e3 : (min (Q : Int) ((Q : Int) - 0)).toNat = Q := by omega
              rw [e3]
              simp only [Int.toNat_zero, List.drop_zero]
              exact List.take_of_length_le (by rw [List.length_map, HLQ.out]; exact Nat.le_refl _)
            unfold JReadPost at this
            rw [e1, e2, rdEv_some] at this
            exact this)
          have HAT := Lib.hid (show (rdAt 0 (st.map some)).length = Q from by rw [rdAt_len, rdEv_some, HLQ.out])
          have tg3 : ¬ (Q : Int) < j.lasts := by omega
          have tg4 : ¬ (sent.length : Int) < Q := by omega
          clear hj10 hG10 hF10 hk10 HOP
          go_wp2_with fail
          refine (HLN2.out w10 (Below.refl _ _)).mono ?_
          rintro r wl ⟨rfl, rfl⟩
          go_wp2_with fail
          refine (HLN2.out w10 (Below.refl _ _)).mono ?_
          rintro r wl ⟨rfl, rfl⟩
          go_wp2_with fail
          refine (HLN2.out w10 (Below.refl _ _)).mono ?_
          rintro r wl ⟨rfl, rfl⟩
          go_wp2_with fail
          refine HRD.out.mono ?_
          rintro r w11 ⟨v1, v2, rfl, hv1, hv2, hb11⟩
          obtain ⟨B1, d1, hf1, he1⟩ := hv1.form
          obtain ⟨B2, d2, hf2, hi2⟩ := hv2.form
          subst hf1; subst hf2
          have HV1 := Lib.hid he1
          rw [HLQ.out] at HV1
          rw [HLQ.out, HAT.out]
          have HB11 := Lib.hid hb11
          have HRW11 := Lib.hid (HRW10.out.below hb11)
          have HUP := Lib.hid (show Evs w11 w11.heap.size Av Q cv st from by
            have h1 : Evs w11 w11.heap.size Av sent.length cv sent := Cel.of_own HRW11.out.row
            have h2 := Cel.upto h1 Q hQs
            rw [evCells_takeN, ← HST.out] at h2
            exact h2)
          have hcap : sent.length ≤ cv := by
            have h1 : Evs w11 w11.heap.size Av sent.length cv sent := Cel.of_own HRW11.out.row
            exact Cel.cap h1
          have hQcv : Q ≤ cv := by omega
          have HSM2 := Lib.hid (same02_any w11 _ _ B1 Av Q d1 cv st HV1.out HUP.out (by omega))
          clear hv1 hv2 he1 hi2 hb11 HRD
          go_wp2_with fail
          refine (HLN2.out w11 HB11.out).mono ?_
          rintro r wl ⟨rfl, rfl⟩
          go_wp2_with fail
          refine (HLN2.out w11 HB11.out).mono ?_
          rintro r wl ⟨rfl, rfl⟩
          go_wp2_with fail
          refine HSM2.out.mono ?_
          rintro r wl ⟨rfl, z, rfl⟩
          have HR := Lib.hid (show Says true w (.returned (.bool true)) (w11.drewN z) from ⟨rfl, below_drewN HRW11.out.kp z⟩)
          go_wp2
          go_ret
          exact HR.out
end Go.Proofs.YtejjfhhppjdcaaaGreatDoor
