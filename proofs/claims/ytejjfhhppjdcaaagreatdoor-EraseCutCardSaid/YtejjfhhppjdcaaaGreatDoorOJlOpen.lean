/-
  Layer 5: a journal is opened on a disk that has files.
-/
import Derived.Test.YtejjfhhppjdcaaaGreatDoorOJlLoad
import Derived.Test.YtejjfhhppjdcaaaGreatDoorOOpGood
namespace Go.Proofs.YtejjfhhppjdcaaaGreatDoor
open Go.RowKit Go.Maps Go.Sort Go.Shelf

/-- the disk after k of the files were loaded -/
def Dk.opn (d : Dk) (s : List UInt8) (per fc : Nat) (L : List (Option Ev)) (t : List UInt8) (k : Nat) : Dk := if k = fc then d.opened s per fc L t else d
def Jl.opn (d : Dk) (s : List UInt8) (per fc : Nat) (L : List (Option Ev)) (t : List UInt8) (k : Nat) : Jl := ⟨d.opn s per fc L t k, s, per, fc, L.take (k * per), 0, 0⟩
def OpRel (w : World) (G : Nat → Prop) (bj bd : Nat) (d : Dk) (s : List UInt8) (per fc : Nat) (L : List (Option Ev)) (t : List UInt8) (k : Nat) (W : World) : Prop :=
  ∃ (v : Value) (G' F' : Nat → Prop), JlAt W G' F' bj bd v (Jl.opn d s per fc L t k) ∧ (∀ b, G' b → G b ∨ w.heap.size ≤ b) ∧ (∀ b, F' b → w.heap.size ≤ b) ∧ Keep G w W
def OpRelI (w : World) (G : Nat → Prop) (bj bd : Nat) (d : Dk) (s : List UInt8) (per fc : Nat) (L : List (Option Ev)) (t : List UInt8) (i : Value) (W : World) : Prop :=
  ∃ k : Nat, i = .int .i64 k ∧ k ≤ fc ∧ OpRel w G bj bd d s per fc L t k W
theorem Dk.opn_lt {d : Dk} {s : List UInt8} {per fc : Nat} {L : List (Option Ev)} {t : List UInt8} {k : Nat} (hk : k < fc) : d.opn s per fc L t k = d := by unfold Dk.opn; rw [if_neg (by omega)]
set_option maxRecDepth 100000 in
set_option maxHeartbeats 8000000 in
theorem jlopen_any (w : World) (G : Nat → Prop) (bd : Nat) (d : Dk) (h : DkIn w G bd d) (s : List UInt8) (hs : nameB s = true) (per fc : Nat) (L : List (Option Ev)) (t : List UInt8) (ho : OpIn d s per fc L t) (hmx : MaxAt w) (hmg : ¬ G 1) :
    Calls Tryz.prog 18 #[.pointer (some ⟨bd, 0, none⟩), .string ⟨s.toArray⟩, .int .i64 per] w (OpenPost w G bd (Jl.opened d s per fc L t)) := by
  have hnl := (nameB_len hs).2
  have HNB := Lib.hid (show Calls Tryz.prog 61 #[.string ⟨s.toArray⟩] w fun e w' => e = .returned (.bool true) ∧ w = w' from by have := name_all w s; rw [hs] at this; exact this)
  have HDN := Lib.hid (show Calls Tryz.prog 62 #[.pointer (some ⟨bd, 0, none⟩)] w fun e w' => e = .returned (.bool false) ∧ w = w' from by
    obtain ⟨_, bm, B, V, h⟩ := h
    have := dkdown_any w G bd bm d B V h; rw [ho.up] at this; exact this)
  have hlt := h.lt
  have hp := ho.per1
  have hp2 := ho.per2
  have hfc9 := ho.fc9
  have hb1 : Below w.heap.size w (w.alloc (jlObj bd (.slice none 0 0) (Jl.new d s per))) := (Below.refl _ _).alloc (Nat.le_refl _) _
  have HJ1 := Lib.hid (show JlAt (w.alloc (jlObj bd (.slice none 0 0) (Jl.new d s per))) G (· = w.heap.size) w.heap.size bd (.slice none 0 0) (Jl.new d s per) from by
    refine ⟨h.up hb1, heap_alloc_new w _, World.ownsRow_nil _ _ _ _, rfl, fun b hb => (by cases hb), fun b hb hg => ?_, fun b hb => ?_⟩
    · have := hlt b hg; subst hb; omega
    · subst hb; simp)
  have HB1 := Lib.hid hb1
  have HF := Lib.hid (jlfind_any _ G (· = w.heap.size) w.heap.size bd _ _ HJ1.out fc ho.nms hfc9 hnl)
  have HO := Lib.hid ho
  have hmlt := hmx.lt
  have HMX := Lib.hid hmx
  have hml : ∀ W, Keep G w W → MaxAt W := fun W hW => HMX.out.kp hW hmg
  have HML := Lib.hid hml
  have HLT := Lib.hid hlt
  have HMG := Lib.hid hmg
  clear hb1 h hs ho hlt hmx hml hmg
  go_enter Tryz.func18, Tryz.ntmps18
  go_wp2_with fail
  refine HNB.out.mono ?_
  rintro r w0 ⟨rfl, rfl⟩
  go_wp2_with fail
  refine HDN.out.mono ?_
  rintro r w0 ⟨rfl, rfl⟩
  go_wp2_with fail
  refine HF.out.mono ?_
  rintro r w2 ⟨rfl, hj2, hk2⟩
  have hs1 := HB1.out.size
  have HJ2 := Lib.hid hj2
  have hs2 := hk2.size
  have HR0 := Lib.hid (show OpRel w G w.heap.size bd d s per fc L t 0 w2 from by
    refine ⟨.slice none 0 0, G, (· = w.heap.size), ?_, fun b hb => .inl hb, fun b hb => by omega, ?_⟩
    · have e : Jl.opn d s per fc L t 0 = { Jl.new d s per with files := fc } := by
        unfold Jl.opn Jl.new
        have e1 : d.opn s per fc L t 0 = d := by
          unfold Dk.opn Dk.opened
          split
          · next h0 => rw [if_pos h0.symm]
          · rfl
        rw [e1]; simp
      rw [e]; exact HJ2.out
    · exact (Keep.of_below HB1.out).trans hk2 (fun b hb e => by omega))
  have c3 := hj2.cells.2.2.2.1
  clear hj2 hk2
  obtain ⟨bj, hbj⟩ : ∃ bj, bj = w.heap.size := ⟨_, rfl⟩
  rw [← hbj] at HR0 c3 ⊢
  have HBJ := Lib.hid hbj
  clear hbj
  go_wp2
  go_loopw [9, 10, 11, 12, 13, 14, 40] (fun _ _ _ _ _ _ i W => OpRelI w G bj bd d s per fc L t i W) (fun _ _ _ _ _ _ i _ => fc - (intOf i).toNat)
  case atStart => exact ⟨0, rfl, Nat.zero_le _, HR0.out⟩
  case round =>
    obtain ⟨k, rfl, hk, v, G1, F1, hj, hG1, hF1, hkp⟩ := hrel
    have HJ := Lib.hid hj; have HG1 := Lib.hid hG1; have HF1 := Lib.hid hF1; have HKP := Lib.hid hkp
    have hsr := hkp.size
    by_cases hkf : k < fc
    · have t1 : (k : Int) < fc := by omega
      obtain ⟨c0, c1, c2, c3', c4, c5, c6⟩ := hj.cells
      have hjo : Jl.opn d s per fc L t k = ⟨d, s, per, fc, L.take (k * per), 0, 0⟩ := by unfold Jl.opn; rw [Dk.opn_lt hkf]
      rw [hjo] at c1 c3'
      have HJO := Lib.hid hjo
      obtain ⟨xs, hxs⟩ : ∃ xs, xs = segL per k L := ⟨_, rfl⟩
      obtain ⟨tl, htl⟩ : ∃ tl : List UInt8, tl = if k + 1 = fc then t else [] := ⟨_, rfl⟩
      have HXS := Lib.hid hxs
      have HTL := Lib.hid htl
      have HRD := Lib.hid (show ∀ q, Calls Tryz.prog 24 #[.pointer (some ⟨bd, 0, none⟩), .string ⟨(segF s k).toArray⟩] (wr.drewN q) (RdPost (wr.drewN q) (bytesL xs ++ tl) 0) from fun q => by
        have h1 := HJ.out.dk
        rw [HJO.out] at h1
        have := dkread_any (wr.drewN q) G1 bd d (h1.up (below_drewN (Below.refl _ _) q)) (segF s k) (by have := (segF_len s (k := k) (by omega)).2; omega)
        rw [HO.out.read hkf, HO.out.found hkf, ← HXS.out, ← HTL.out] at this
        exact this)
      clear hj hG1 hF1 hkp c0 c2 c4 c5 c6 hjo hxs htl
      go_wp2_with fail
      refine (jlfile_any wr bj s c1 (by omega) k (by omega)).mono ?_
      rintro r w3 ⟨rfl, q3, rfl⟩
      go_wp2_with fail
      refine (HRD.out q3).mono ?_
      rintro r w4 ⟨v4, rfl, ho4, hb4⟩
      obtain ⟨A4, c4, hv4⟩ := ho4.form
      subst hv4
      have HO4 := Lib.hid ho4
      have HB4 := Lib.hid (show Below wr.heap.size wr w4 from (below_drewN (Below.refl _ _) q3).trans hb4)
      have hs4 : wr.heap.size ≤ w4.heap.size := HB4.out.size
      have HJ4 := Lib.hid (show JlAt w4 G1 F1 bj bd v ⟨d, s, per, fc, L.take (k * per), 0, 0⟩ from by have := HJ.out.up HB4.out; rw [HJO.out] at this; exact this)
      obtain ⟨d0, d1, d2, d3, d4, d5, d6⟩ := HJ4.out.cells
      have HK4 := Lib.hid (show Keep G w w4 from HKP.out.trans (Keep.of_below (F := fun _ => False) HB4.out) (fun _ _ h => h.elim))
      have hsz := HO.out.sz k hkf
      rw [← HXS.out, ← HTL.out] at hsz
      obtain ⟨n, hn⟩ : ∃ n, n = (bytesL xs ++ tl).length := ⟨_, rfl⟩
      rw [← hn] at hsz
      have HBY := Lib.hid (show Byt w4 w4.heap.size A4 n c4 (bytesL xs ++ tl) from by rw [hn]; exact ho4.byt)
      have HAN := Lib.hid (show ∀ b off, A4 = some ⟨b, off, none⟩ → wr.heap.size ≤ b from fun b off e => by
        rcases ho4.2 with ⟨e', _⟩ | ⟨g, cap, cur, e', hbg, _⟩
        · injection e' with e1 e2; rw [e1] at e; cases e
        · injection e' with e1 e2; rw [e] at e1; injection e1 with e1; injection e1 with e1; subst e1; exact hbg)
      rw [← hn]
      -- load
      obtain ⟨st, hst⟩ : ∃ st : Nat, st = if k + 1 = fc ∧ t ≠ [] then 1 else 0 := ⟨_, rfl⟩
      have hall := HO.out.all k hkf
      rw [← HXS.out, ← HTL.out, ← hst] at hall
      have hsegs := HO.out.segs hkf
      have HLD := Lib.hid (show Calls Tryz.prog 65 #[.pointer (some ⟨bj, 0, none⟩), .slice A4 n c4, .bool (decide (k + 1 = fc))] w4 (LdPost w4 G1 F1 bj bd ⟨d, s, per, fc, L.take (k * per), 0, 0⟩ xs (bytesL xs).length st) from by
        have := jlload_any w4 G1 F1 bj bd v _ HJ4.out A4 n c4 (bytesL xs ++ tl) HBY.out (by omega) (decide (k + 1 = fc)) xs st (by rw [hall]) (by rw [hall]) (by rw [hst]; split <;> omega)
          (fun e he => HO.out.may e (by rw [HXS.out] at he; unfold segL at he; exact List.mem_of_mem_drop (List.mem_of_mem_take he)))
          (by rw [HXS.out]; exact segL_le _ _ _)
          (by
            by_cases hl : k + 1 = fc
            · left; simp [hl]
            · right
              refine ⟨by rw [hst, if_neg (by simp [hl])]; omega, ?_⟩
              rw [HXS.out, segL_length]
              have := HO.out.full k (by omega)
              rw [Nat.succ_mul] at this; show per ≤ _; omega)
          hp2 (by show (L.take (k * per)).length ≤ 1000; have := HO.out.num; rw [List.length_take]; omega) (HML.out _ HK4.out)
          (fun hf => by have := HF1.out _ hf; omega)
        rw [hall] at this
        exact this)
      clear hall HRD ho4 hb4
      have tb : ((k : Int) == (fc : Int) - 1) = decide (k + 1 = fc) := by
        rw [Bool.eq_iff_iff]; simp; omega
      have d3 : w4.cell? ⟨bj, 3, none⟩ = some (.int .i64 (fc : Int)) := d3
      have HN := Lib.hid hn
      clear d0 d1 d2 d4 d5 d6 c1 c3' hn
      go_wp2_with fail
      with_reducible refine HLD.out.mono ?_
      rintro r w5 ⟨rfl, v5, F5, hj5, hF5, hk5⟩
      have HJ5 := Lib.hid (show JlAt w5 G1 F5 bj bd v5 ⟨d, s, per, fc, L.take ((k + 1) * per), 0, 0⟩ from by
        have e : (⟨d, s, per, fc, L.take (k * per) ++ xs, 0, 0⟩ : Jl) = ⟨d, s, per, fc, L.take ((k + 1) * per), 0, 0⟩ := by rw [HXS.out, OpIn.take]
        rw [← e]; exact hj5)
      have hs5 := hk5.size
      have HF5 := Lib.hid (show ∀ b, F5 b → w.heap.size ≤ b from fun b hb => by
        rcases hF5 b hb with h | h
        · exact HF1.out b h
        · omega)
      have HK5 := Lib.hid (show Keep G w w5 from HK4.out.trans hk5 (fun b hb hf => by have := HF1.out b hf; omega))
      have HFG := Lib.hid (show ∀ b off, A4 = some ⟨b, off, none⟩ → ¬ F1 b from fun b off e hf => by
        have h1 := HAN.out b off e
        have h2 := HJ.out.lt b hf
        omega)
      have HBY5 := Lib.hid (show Byt w5 w5.heap.size A4 n c4 (bytesL xs ++ tl) from HBY.out.keepG HFG.out hk5)
      have HKW := Lib.hid (show ∀ (k' : Nat) W, k' ≤ fc → OpRel w G bj bd d s per fc L t k' W → OpRelI w G bj bd d s per fc L t (.int .i64 (k' : Int)) W from fun k' W hk' h => ⟨k', rfl, hk', h⟩)
      clear hj5 hF5 hk5 HLD
      by_cases hl : k + 1 = fc
      · have hdec : decide (k + 1 = fc) = true := by simp [hl]
        rw [hdec] at tb ⊢
        have HL := Lib.hid hl
        obtain ⟨e0, e1, e2, e3, e4, e5, e6⟩ := HJ5.out.cells
        have e1 : w5.cell? ⟨bj, 1, none⟩ = some (.string ⟨s.toArray⟩) := e1
        -- what a deed at the disk leaves
        have HDD := Lib.hid (show ∀ (b' : Dk) q W, b' = d.opened s per fc L t → DkD (w5.drewN q) G1 bd b' W → OpRelI w G bj bd d s per fc L t (.int .i64 ((k : Int) + 1)) W from fun b' q W hb' hd => by
          obtain ⟨G6, h6, hG6, hk6⟩ := (HJ5.out.up (below_drewN (Below.refl _ _) q)).disk hd
          refine HKW.out (k + 1) W (by omega) ⟨v5, G6, F5, ?_, fun b hb => ?_, HF5.out, ?_⟩
          · have e : Jl.opn d s per fc L t (k + 1) = { (⟨d, s, per, fc, L.take ((k + 1) * per), 0, 0⟩ : Jl) with dk := b' } := by
              unfold Jl.opn Dk.opn; rw [if_pos HL.out, hb']
            rw [e]; exact h6
          · rcases hG6 b hb with h | h
            · exact HG1.out b h
            · right; have : w5.heap.size ≤ b := h; omega
          · refine (HK5.out.drewN q).trans hk6 (fun b hb hg => ?_)
            rcases HG1.out b hg with h | h
            · exact h
            · omega)
        have hk1 : fc - 1 = k := by omega
        by_cases ht : t = []
        · have hs0 : st = 0 := by rw [hst, if_neg (by simp [ht])]
          subst hs0
          have HOE := Lib.hid (show d.sync (segF s k) = d.opened s per fc L t ∧ d.syncE (segF s k) = 0 from by
            refine ⟨?_, HO.out.syncE hkf⟩
            unfold Dk.opened; rw [if_neg (by omega), if_pos ht, hk1])
          have HSY := Lib.hid (show ∀ q, Calls Tryz.prog 66 #[.pointer (some ⟨bd, 0, none⟩), .string ⟨(segF s k).toArray⟩] (w5.drewN q) (DkPost (w5.drewN q) G1 bd (d.sync (segF s k)) 0) from fun q => by
            have := dksync_any (w5.drewN q) G1 bd d (HJ5.out.dk.up (below_drewN (Below.refl _ _) q)) (segF s k) (by have := (segF_len s (k := k) (by omega)).2; omega)
            rw [HOE.out.2] at this; exact this)
          clear hst ht hk1 hl tb e0 e2 e3 e4 e5 e6 hdec
          go_wp2_with fail
          refine (jlfile_any w5 bj s e1 (by omega) k (by omega)).mono ?_
          rintro r w6 ⟨rfl, q6, rfl⟩
          go_wp2_with fail
          refine (HSY.out q6).mono ?_
          rintro r w7 ⟨rfl, hd7⟩
          have HR7 := Lib.hid (HDD.out _ q6 w7 HOE.out.1 hd7)
          clear hd7 HSY HDD HOE e1
          go_wp2
          go_roundw
          case rel => exact HR7.out
          case measure => simp [intOf]; omega
        · have hs0 : st = 1 := by rw [hst, if_pos ⟨hl, ht⟩]
          subst hs0
          have HOE := Lib.hid (show d.replace (segF s k) (bytesL xs) = d.opened s per fc L t ∧ d.replaceE (segF s k) (bytesL xs) = 0 from by
            have := HO.out.replE (by omega)
            rw [hk1, ← HXS.out] at this
            refine ⟨?_, this⟩
            unfold Dk.opened; rw [if_neg (by omega), if_neg ht, hk1, ← HXS.out])
          obtain ⟨m, hm⟩ : ∃ m, m = (bytesL xs).length := ⟨_, rfl⟩
          have hmn : m ≤ n := by rw [hm, HN.out, List.length_append]; omega
          have HBT := Lib.hid (show Byt w5 w5.heap.size A4 m c4 (bytesL xs) from by
            have := HBY5.out.take m hmn
            rw [hm, List.take_left] at this
            rw [hm]; exact this)
          have hcap := HBY5.out.cap
          rw [← hm]
          have HAG := Lib.hid (show ∀ b off, A4 = some ⟨b, off, none⟩ → ¬ G1 b from fun b off e hg => by
            have h1 := HAN.out b off e
            have h2 := HJ.out.dk.lt b hg
            omega)
          have HRP := Lib.hid (show ∀ q, Calls Tryz.prog 30 #[.pointer (some ⟨bd, 0, none⟩), .string ⟨(segF s k).toArray⟩, .slice A4 m c4] (w5.drewN q) (DkPost (w5.drewN q) G1 bd (d.replace (segF s k) (bytesL xs)) 0) from fun q => by
            have := dkrepl_any (w5.drewN q) G1 bd d (HJ5.out.dk.up (below_drewN (Below.refl _ _) q)) (segF s k) (by have := (segF_len s (k := k) (by omega)).2; omega) A4 m c4 (bytesL xs) (HBT.out.drewN q) HAG.out (by omega)
            rw [HOE.out.2] at this; exact this)
          have e1d : w5.drew.cell? ⟨bj, 1, none⟩ = some (.string ⟨s.toArray⟩) := e1
          have HFJ := Lib.hid (show Calls Tryz.prog 64 #[.pointer (some ⟨bj, 0, none⟩), .int .i64 k] w5.drew (fun r W => r = .returned (.string ⟨(segF s k).toArray⟩) ∧ ∃ q, W = w5.drewN q) from by
            refine (jlfile_any w5.drew bj s e1d (by omega) k (by omega)).mono ?_
            rintro r W ⟨h1, q, h2⟩
            exact ⟨h1, 1 + q, by rw [h2]; exact World.drewN_drewN ..⟩)
          have hmc : (m : Int) ≤ c4 := by omega
          clear hst ht hk1 hl tb e0 e2 e3 e4 e5 e6 hdec hm hcap
          go_upto_region 17 with fail
          go_cut [11] (fun v wc => v = .int .i64 0 ∧ OpRelI w G bj bd d s per fc L t (.int .i64 ((k : Int) + 1)) wc)
          case first =>
            go_region_law (first
              | (go_simp; go_at_call 64; (with_reducible refine HFJ.out.mono ?_); rintro r6 w6 ⟨rfl, q6, rfl⟩)
              | (go_simp; go_at_call 30; (with_reducible refine (HRP.out _).mono ?_); rintro r7 w7 ⟨rfl, hd7⟩; have HR7 := Lib.hid (HDD.out _ _ w7 HOE.out.1 hd7); clear hd7))
            all_goals
              go_wp2
              go_meet
              exact ⟨rfl, HR7.out⟩
          case rest =>
            obtain ⟨rfl, hr⟩ := hcut
            have HR7 := Lib.hid hr
            clear hr HRP HFJ HDD HOE e1 e1d
            go_wp2
            go_roundw
            case rel => exact HR7.out
            case measure => simp [intOf]; omega
      · have hdec : decide (k + 1 = fc) = false := by simp [hl]
        rw [hdec] at tb ⊢
        have hs0 : st = 0 := by rw [hst, if_neg (by simp [hl])]
        subst hs0
        have HR5 := Lib.hid (show OpRelI w G bj bd d s per fc L t (.int .i64 ((k : Int) + 1)) w5 from HKW.out (k + 1) w5 (by omega) ⟨v5, G1, F5, by
          have e : Jl.opn d s per fc L t (k + 1) = ⟨d, s, per, fc, L.take ((k + 1) * per), 0, 0⟩ := by unfold Jl.opn Dk.opn; rw [if_neg hl]
          rw [e]; exact HJ5.out, HG1.out, HF5.out, HK5.out⟩)
        clear hst hl tb hdec
        go_wp2
        go_roundw
        case rel => exact HR5.out
        case measure => simp [intOf]; omega
    · obtain rfl : k = fc := by omega
      have hjo : Jl.opn d s per k L t k = { (Jl.opened d s per k L t) with lasts := 0 } := by
        unfold Jl.opn Jl.opened Dk.opn
        rw [if_pos rfl, List.take_of_length_le HO.out.last]
      rw [hjo] at hj
      obtain ⟨c0, c1, c2, c3', c4, c5, c6⟩ := hj.cells
      obtain ⟨A2, cp2, hv2⟩ := ownsRow_form hj.own
      have c5f := hj.frozen 5
      have HJL := Lib.hid hj
      have HBJG := Lib.hid HBJ.out
      have HR := Lib.hid (show OpenPost w G bd (Jl.opened d s per k L t) (.returned (.tuple #[.pointer (some ⟨bj, 0, none⟩), .int .i64 0])) (wr.setCell ⟨bj, 5, none⟩ (.int .i64 (L.length : Int))) from by
        refine ⟨bj, G1, F1, rfl, ⟨⟨hp, hp2, HO.out.nm, by show L.length ≤ 100000; have := HO.out.num; omega, ?_, Nat.le_refl _, HO.out.may⟩, v, HJL.out.setc rfl rfl ?_⟩, HG1.out, HF1.out, HKP.out.setCell (p := ⟨bj, 5, none⟩) (fun hb => absurd hb (by rw [HBJ.out]; show ¬ w.heap.size < w.heap.size; omega)) _⟩
        · show k ≤ L.length + 1
          have h1 := HO.out.hi
          have h2 : L.length / per ≤ L.length := Nat.div_le_self _ _
          omega
        · rw [heap_set_row HJL.out.blk]; rfl)
      rw [hv2] at c4
      have c4 : wr.cell? ⟨bj, 4, none⟩ = some (.slice A2 L.length cp2) := c4
      clear hj hG1 hF1 hkp hjo hv2 c0 c1 c2 c3' c6
      go_wp2
      go_ret2
      exact HR.out
end Go.Proofs.YtejjfhhppjdcaaaGreatDoor
