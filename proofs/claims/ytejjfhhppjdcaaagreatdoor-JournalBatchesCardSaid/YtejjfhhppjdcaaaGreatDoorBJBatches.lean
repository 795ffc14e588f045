/-
  The law JournalBatches, walked.
-/
import Derived.Test.YtejjfhhppjdcaaaGreatDoorBTri
import Derived.Test.YtejjfhhppjdcaaaGreatDoorBJLives
import Derived.Test.YtejjfhhppjdcaaaGreatDoorBRef02a
namespace Go.Proofs.YtejjfhhppjdcaaaGreatDoor
open Go.RowKit Go.Maps Go.Sort Go.Shelf

theorem some_small {ds : List Ev} (h : ds.any (fun d => bigB d 300) = false) : ∀ e ∈ ds, e.small := fun e he => by
  have := List.any_eq_false.1 h e he
  unfold bigB at this
  simp only [Bool.or_eq_true, decide_eq_true_eq, not_or, Int.not_lt] at this
  exact ⟨by omega, by omega, by omega, by omega⟩
def LpRel (w18 : World) (m : Nat) (i : Value) (wr : World) : Prop := ∃ k : Nat, i = .int .i64 k ∧ k ≤ m ∧ Below w18.heap.size w18 wr
def BtRel (w3 : World) (jb db : Nat) (jn : Jl) (ds : List Ev) (z x : Jx) (i : Value) (wr : World) : Prop := ∃ (k : Nat) (G F : Nat → Prop), i = .int .i64 k ∧ k ≤ ds.length ∧ Tri w3 wr ⟨G, F, jb, db, jn.puts (ds.take k)⟩ z x
set_option maxRecDepth 100000 in
set_option maxHeartbeats 4000000 in
theorem batches_any (w : World) (p : Int) (A : Option Addr) (n c : Nat) (ds : List Ev) (a : Int) (h : Evs w w.heap.size A n c ds) (hn : n ≤ 140737488355328) (hmx : MaxAt w) :
    Calls Tryz.prog 3 #[.int .i64 p, .slice A n c, .int .i64 a] w (Says true w) := by
  have HH := Lib.hid h; clear h
  have HMX := Lib.hid hmx; clear hmx
  go_enter Tryz.func3, Tryz.ntmps3
  go_wp2_with fail
  refine (jlives_any w HMX.out).mono ?_
  rintro r w1 ⟨rfl, hb1⟩
  have hs1 := hb1.size
  by_cases h1 : p < 1
  · go_wp2
    go_ret
    exact ⟨rfl, hb1⟩
  by_cases h2 : 8 < p
  · go_wp2
    go_ret
    exact ⟨rfl, hb1⟩
  by_cases h3 : (40 : Int) < n
  · go_wp2
    go_ret
    exact ⟨rfl, hb1⟩
  have hH1 : Evs w1 w1.heap.size A n c ds := Cel.more (Cel.below HH.out hb1) hs1
  have hq1 : ¬ 40 < n := by omega
  go_wp2_with fail
  refine (some_any w1 A n c ds hH1 hn 300).mono ?_
  rintro r w2 ⟨rfl, hb2⟩
  have hbw2 : Below w.heap.size w w2 := hb1.trans (hb2.mono hs1)
  clear hb2 hb1 hH1
  cases hsm : ds.any (fun d => bigB d 300)
  case true =>
    clear hsm
    go_wp2
    go_ret
    exact ⟨rfl, hbw2⟩
  have HSM := Lib.hid (some_small hsm)
  clear hsm
  have hH2 : Evs w2 w2.heap.size A n c ds := Cel.more (Cel.below HH.out hbw2) hbw2.size
  go_wp2_with fail
  refine (all02_any w2 A n c ds hH2 hn HSM.out).mono ?_
  rintro r w3 ⟨rfl, hb3⟩
  have hbw3 : Below w.heap.size w w3 := hbw2.trans (hb3.mono hbw2.size)
  clear hb3 hbw2 hH2
  cases hal : ds.all mayB
  case false =>
    clear hal
    go_wp2
    go_ret
    exact ⟨rfl, hbw3⟩
  have HAL := Lib.hid hal
  clear hal
  by_cases h4 : a < 0
  · go_wp2
    go_ret
    exact ⟨rfl, hbw3⟩
  by_cases h5 : (n : Int) < a
  · go_wp2
    go_ret
    exact ⟨rfl, hbw3⟩
  obtain ⟨t, rfl⟩ := Int.eq_ofNat_of_zero_le (show 0 ≤ a by omega)
  obtain ⟨per, rfl⟩ := Int.eq_ofNat_of_zero_le (show 0 ≤ p by omega)
  have HB3 := Lib.hid hbw3
  have htn : t ≤ n := by omega
  have hl := HH.out.len
  have HL := Lib.hid hl
  clear hbw3 hl
  go_wp2_with fail
  refine (dknew_any w3).mono ?_
  rintro r w4 ⟨da, Ga, rfl, hd4, hG4, hb4⟩
  have HD4 := Lib.hid hd4; have HG4 := Lib.hid (show ∀ k, Ga k → w3.heap.size ≤ k ∧ k < w4.heap.size from fun k hk => ⟨hG4 k hk, hd4.lt k hk⟩); have HB4 := Lib.hid hb4
  clear hd4 hG4 hb4
  go_wp2_with fail
  refine (dknew_any w4).mono ?_
  rintro r w5 ⟨db, Gb, rfl, hd5, hG5, hb5⟩
  have HD5 := Lib.hid hd5; have HG5 := Lib.hid (show ∀ k, Gb k → w4.heap.size ≤ k ∧ k < w5.heap.size from fun k hk => ⟨hG5 k hk, hd5.lt k hk⟩); have HB5 := Lib.hid hb5
  clear hd5 hG5 hb5
  go_wp2_with fail
  refine (dknew_any w5).mono ?_
  rintro r w6 ⟨dc, Gc, rfl, hd6, hG6, hb6⟩
  have HD6 := Lib.hid hd6; have HG6 := Lib.hid (show ∀ k, Gc k → w5.heap.size ≤ k ∧ k < w6.heap.size from fun k hk => ⟨hG6 k hk, hd6.lt k hk⟩); have HB6 := Lib.hid hb6
  have s4 := HB4.out.size
  have s5 := HB5.out.size
  have s6 := HB6.out.size
  clear hd6 hG6 hb6
  go_wp2_with fail
  refine (jlopen0_any w6 Ga da Dk.new ((HD4.out.up HB5.out).up HB6.out) rfl rfl [106] (by decide) per (by omega) (by omega)).mono ?_
  rintro r w7 ⟨ja, G7, F7, rfl, hj7, hG7, hF7, hk7⟩
  have HJ7 := Lib.hid hj7; have HG7 := Lib.hid hG7; have HF7 := Lib.hid hF7; have HK7 := Lib.hid hk7
  have HD5' := Lib.hid (show DkIn w7 Gb db Dk.new from (HD5.out.up HB6.out).keep hk7.size fun b hb => hk7.block b (by have := HG5.out b hb; omega) (fun hg => by have := HG4.out b hg; have := HG5.out b hb; omega))
  have HD6' := Lib.hid (show DkIn w7 Gc dc Dk.new from HD6.out.keep hk7.size fun b hb => hk7.block b (by have := HG6.out b hb; omega) (fun hg => by have := HG4.out b hg; have := HG6.out b hb; omega))
  have s7 := hk7.size
  clear hj7 hG7 hF7 hk7 HD4 HD5 HD6
  go_wp2_with fail
  refine (jlopen0_any w7 Gb db Dk.new HD5'.out rfl rfl [106] (by decide) per (by omega) (by omega)).mono ?_
  rintro r w8 ⟨jb, G8, F8, rfl, hj8, hG8, hF8, hk8⟩
  have HJ8 := Lib.hid hj8; have HG8 := Lib.hid hG8; have HF8 := Lib.hid hF8; have HK8 := Lib.hid hk8
  have HD6 := Lib.hid (show DkIn w8 Gc dc Dk.new from HD6'.out.keep hk8.size fun b hb => hk8.block b (by have := HG6.out b hb; omega) (fun hg => by have := HG5.out b hg; have := HG6.out b hb; omega))
  have s8 := hk8.size
  clear hj8 hG8 hF8 hk8 HD5' HD6'
  go_wp2_with fail
  refine (jlopen0_any w8 Gc dc Dk.new HD6.out rfl rfl [106] (by decide) per (by omega) (by omega)).mono ?_
  rintro r w9 ⟨jc, G9, F9, rfl, hj9, hG9, hF9, hk9⟩
  have HT9 := Lib.hid (Tri.opened (w := w3) HB4.out HG4.out HG5.out HG6.out HB5.out HB6.out HJ7.out HG7.out HF7.out HK7.out HJ8.out HG8.out HF8.out HK8.out hj9 hG9 hF9 hk9)
  clear hj9 hG9 hF9 hk9 HJ7 HG7 HF7 HK7 HJ8 HG8 HF8 HK8 HD6 HB4 HB5 HB6 HG4 HG5 HG6 s4 s5 s6 s7 s8
  have hper : 1 ≤ per := by omega
  have HFN := Lib.hid (Jl.fine_new [106] per (by simp) hper)
  obtain ⟨jn, hjn⟩ : ∃ jn, jn = Jl.new Dk.new [106] per := ⟨_, rfl⟩
  rw [← hjn] at HT9 HFN
  have hje : jn.es = [] := by rw [hjn]; rfl
  have HJE := Lib.hid hje
  have HIN := Lib.hid (show jn.Inv by rw [hjn]; exact Jl.inv_new [106] per hper)
  have HX := Lib.hid (Jl.app_fine HFN.out ds HAL.out (by rw [hje, HL.out]; simp; omega))
  have HEG := Lib.hid (show ∀ A' m c' es', Evs w w.heap.size A' m c' es' → (∀ W, Below w3.heap.size w3 W → Evs W W.heap.size A' m c' es') ∧ ∀ (x : Jx), (∀ k, x.N k → w3.heap.size ≤ k) → ∀ b off, A' = some ⟨b, off, none⟩ → 0 < m → ¬ x.N b from fun A' m c' es' he =>
    ⟨fun W hW => Cel.more (Cel.below he (HB3.out.trans (hW.mono HB3.out.size))) (HB3.out.trans (hW.mono HB3.out.size)).size, fun x hN b off e h0 hb => by
      obtain ⟨b', off', e', hb', _⟩ := Cel.cell he h0
      rw [e'] at e; injection e with e; injection e with e; have := hN b hb; have := HB3.out.size; omega⟩)
  have HEV := Lib.hid (HEG.out A n c ds HH.out).1
  have HAO := Lib.hid (HEG.out A n c ds HH.out).2
  have HAPP := Lib.hid (show ∀ W (x : Jx) A' m c' es', x.In W → (∀ k, x.N k → w3.heap.size ≤ k) → Below w3.heap.size w3 W → Evs W W.heap.size A' m c' es' → (∀ b off, A' = some ⟨b, off, none⟩ → 0 < m → ¬ x.N b) → (∀ e ∈ es', e ∈ ds) → x.j.es.length + es'.length ≤ 99 → Calls Tryz.prog 19 #[.pointer (some ⟨x.bj, 0, none⟩), .slice A' m c'] W (AppPost W x.G x.F x.bj x.bd (x.j.app es') (x.j.appN es') (x.j.appE es')) from fun W x A' m c' es' hi hN hW he hA hs hl =>
    jlapp_any W x.G x.F x.bj x.bd x.j hi A' m c' es' he hA (fun e h => HSM.out e (hs e h)) hl (HMX.out.up (HB3.out.trans (hW.mono HB3.out.size))) ⟨fun h => by have := hN _ (.inl h); have := HMX.out.lt; have := HB3.out.size; omega, fun h => by have := hN _ (.inr h); have := HMX.out.lt; have := HB3.out.size; omega⟩)
  clear hje hjn
  go_wp2_with fail
  refine (HAPP.out w9 ⟨G7, F7, ja, da, jn⟩ A n c ds HT9.out.ia HT9.out.na HT9.out.bel (HEV.out w9 HT9.out.bel) (HAO.out _ HT9.out.na) (fun e h => h) (by show jn.es.length + _ ≤ 99; rw [HJE.out, HL.out]; simp; omega)).mono ?_
  rintro r w10 ⟨rfl, hd10⟩
  obtain ⟨G10, F10, ht10⟩ := HT9.out.deed hd10
  have HT10 := Lib.hid ht10.rot
  clear hd10 ht10 HT9
  simp only at HT10
  rw [HX.out.1] at HT10
  have HST := Lib.hid (show BtRel w3 jb db jn ds ⟨G9, F9, jc, dc, jn⟩ ⟨G10, F10, ja, da, jn.puts ds⟩ (.int .i64 ((0 : Nat) : Int)) w10 from ⟨0, G8, F8, rfl, Nat.zero_le _, HT10.out⟩)
  generalize jn.app ds = xa at *
  generalize jn.appN ds = xn at *
  generalize jn.appE ds = xe at *
  have HPF := Lib.hid (show ∀ k, (jn.puts (ds.take k)).Fine ∧ (jn.puts (ds.take k)).es = (ds.take k).map some ∧ jn.putsE (ds.take k) = 0 from fun k => by
    have hm : (ds.take k).all mayB = true := List.all_eq_true.2 fun e he => List.all_eq_true.1 HAL.out e (List.mem_of_mem_take he)
    have := Jl.Fine.puts (ds.take k) HFN.out (by rw [HJE.out, List.length_take, HL.out]; simp; omega) (fun e he => (mayB_fit (List.all_eq_true.1 hm e he)).len)
    exact ⟨this.1, by rw [this.2.2.1, HJE.out]; simp, this.2.1⟩)
  clear HX
  go_wp2
  go_loopw [16] (fun i wr => BtRel w3 jb db jn ds ⟨G9, F9, jc, dc, jn⟩ ⟨G10, F10, ja, da, jn.puts ds⟩ i wr) (fun i _ => n - (intOf i).toNat)
  case atStart => exact HST.out
  case round =>
    obtain ⟨k, Gy, Fy, rfl, hk, ht⟩ := hrel
    have HT := Lib.hid ht
    have hkL : k ≤ n := by rw [← HL.out]; exact hk
    clear ht hk
    by_cases hkn : k < n
    · have hkl : k < ds.length := by rw [HL.out]; exact hkn
      obtain ⟨b, off, hAe, hb, hd⟩ := (HEV.out wr HT.out.bel).ev k hkl
      obtain ⟨e0, e1, e2, e3, e4, e5, e6, e7⟩ := hd
      have HTK := Lib.hid (show ds.take (k + 1) = ds.take k ++ [ds[k]] by rw [List.take_add_one, List.getElem?_eq_getElem hkl, Option.toList_some])
      have HMD := Lib.hid (List.all_eq_true.1 HAL.out ds[k] (List.getElem_mem hkl))
      have HME := Lib.hid (List.getElem_mem hkl)
      generalize ds[k] = d at *
      have hbA : Below wr.heap.size wr (wr.alloc (evObj d)) := (Below.refl _ _).alloc (Nat.le_refl _) _
      have HTA := Lib.hid (HT.out.up hbA)
      have HEA := Lib.hid (show Evs (wr.alloc (evObj d)) (wr.heap.size + 1) (some ⟨wr.heap.size, 0, none⟩) 1 1 [d] from Cel.new (size := 8) (n := 1) wr #[.string ⟨d.src.toArray⟩, .int .i64 d.num, .int .i64 d.at_, .int .i64 d.kind, .string ⟨d.per.toArray⟩, .string ⟨d.item.toArray⟩, .int .i64 d.val, .string ⟨d.text.toArray⟩] 36 (by unfold maxLen; omega) rfl)
      have hsA : (wr.alloc (evObj d)).heap.size = wr.heap.size + 1 := by simp
      have HSA := Lib.hid hsA
      have hlk : (jn.puts (ds.take k)).es.length = k := by rw [(HPF.out k).2.1, List.length_map, List.length_take, HL.out]; omega
      have HCA := Lib.hid (HAPP.out (wr.alloc (evObj d)) ⟨Gy, Fy, jb, db, jn.puts (ds.take k)⟩ (some ⟨wr.heap.size, 0, none⟩) 1 1 [d] HTA.out.ia HTA.out.na HTA.out.bel (by rw [HSA.out]; exact HEA.out) (fun b' off' e _ hN => by
        injection e with e; injection e with e
        have := HT.out.ia.lt b' hN; omega) (fun e he => by simp at he; subst he; exact HME.out) (by show (jn.puts (ds.take k)).es.length + 1 ≤ 99; omega))
      have hX1 := Jl.app_fine (HPF.out k).1 [d] (by simp [HMD.out]) (by simp; omega)
      have HX1 := Lib.hid (show (jn.puts (ds.take k)).app [d] = jn.puts (ds.take (k + 1)) ∧ (jn.puts (ds.take k)).appN [d] = k ∧ (jn.puts (ds.take k)).appE [d] = 0 from ⟨by rw [HTK.out, (Jl.puts_append [d] (ds.take k) jn (HPF.out k).2.2).1]; exact hX1.1, by rw [hX1.2.1, hlk], hX1.2.2.1⟩)
      subst hAe
      have t1 : (k : Int) < n := by omega
      clear hX1 hlk hsA hb hbA
      go_wp2_with fail
      refine HCA.out.mono ?_
      rintro r w11 ⟨rfl, hd11⟩
      obtain ⟨G11, F11, ht11⟩ := HTA.out.deed hd11
      simp only at ht11
      rw [HX1.out.1] at ht11
      have HRL := Lib.hid (show BtRel w3 jb db jn ds ⟨G9, F9, jc, dc, jn⟩ ⟨G10, F10, ja, da, jn.puts ds⟩ (.int .i64 ((k + 1 : Nat) : Int)) w11 from ⟨k + 1, G11, F11, rfl, by rw [HL.out]; omega, ht11⟩)
      simp only
      rw [HX1.out.2.1, HX1.out.2.2]
      clear hd11 ht11 HCA e0 e1 e2 e3 e4 e5 e6 e7 HTA HEA
      go_wp2
      go_roundw
      case rel => exact HRL.out
      case measure => simp [intOf]; omega
    · have hke : k = n := by omega
      have t1 : ¬ (k : Int) < n := by omega
      have HTZ := Lib.hid (show Tri w3 wr ⟨G9, F9, jc, dc, jn⟩ ⟨G10, F10, ja, da, jn.puts ds⟩ ⟨Gy, Fy, jb, db, jn.puts ds⟩ from by
        have := HT.out
        rw [List.take_of_length_le (by rw [HL.out]; omega)] at this
        exact this.rot)
      clear hke HT HST
      have hcap : n ≤ c := Cel.cap HH.out
      have htc : t ≤ c := by omega
      have HE1 := Lib.hid (show Evs w w.heap.size A t c (ds.take t) from by
        have := Cel.upto HH.out t htn
        unfold Evs; rw [← evCells_takeN]; exact this)
      have HE2 := Lib.hid (show Evs w w.heap.size (if c = t then A else A.map (·.add (t * 8))) (n - t) (c - t) (ds.drop t) from by
        have := Cel.from_ HH.out t htn
        unfold Evs; rw [← evCells_dropN]; exact this)
      have hlt : (ds.take t).length = t := by rw [List.length_take, HL.out]; omega
      have hld : (ds.drop t).length = n - t := by rw [List.length_drop, HL.out]
      have HC1 := Lib.hid (HAPP.out wr ⟨G9, F9, jc, dc, jn⟩ A t c (ds.take t) HTZ.out.ia HTZ.out.na HTZ.out.bel ((HEG.out _ _ _ _ HE1.out).1 wr HTZ.out.bel) ((HEG.out _ _ _ _ HE1.out).2 _ HTZ.out.na) (fun e h => List.mem_of_mem_take h) (by show jn.es.length + _ ≤ 99; rw [HJE.out, hlt]; simp; omega))
      have HX1 := Lib.hid (Jl.app_fine HFN.out (ds.take t) (List.all_eq_true.2 fun e he => List.all_eq_true.1 HAL.out e (List.mem_of_mem_take he)) (by rw [HJE.out, hlt]; simp; omega))
      go_wp2_with fail
      with_reducible refine HC1.out.mono ?_
      rintro r w11 ⟨rfl, hd11⟩
      obtain ⟨G11, F11, ht11⟩ := HTZ.out.deed hd11
      simp only at ht11
      rw [HX1.out.1] at ht11
      have HT11 := Lib.hid ht11
      simp only
      generalize jn.appN (ds.take t) = xn1 at *
      generalize jn.appE (ds.take t) = xe1 at *
      clear hd11 ht11 HC1 HTZ
      have HX2 := Lib.hid (Jl.app_fine (HPF.out t).1 [] rfl (by rw [(HPF.out t).2.1]; simp; omega))
      have HC2 := Lib.hid (HAPP.out w11 ⟨G11, F11, jc, dc, jn.puts (ds.take t)⟩ none 0 0 [] HT11.out.ia HT11.out.na HT11.out.bel (Cel.nil _ _ _ _ _ (by unfold maxLen; omega)) (fun b off e => by cases e) (fun e h => by cases h) (by show (jn.puts (ds.take t)).es.length + 0 ≤ 99; rw [(HPF.out t).2.1]; simp; omega))
      go_wp2_with fail
      with_reducible refine HC2.out.mono ?_
      rintro r w12 ⟨rfl, hd12⟩
      obtain ⟨G12, F12, ht12⟩ := HT11.out.deed hd12
      simp only at ht12
      rw [HX2.out.1] at ht12
      have HT12 := Lib.hid (show Tri w3 w12 ⟨G12, F12, jc, dc, jn.puts (ds.take t)⟩ ⟨G10, F10, ja, da, jn.puts ds⟩ ⟨Gy, Fy, jb, db, jn.puts ds⟩ from ht12)
      simp only
      generalize (jn.puts (ds.take t)).appN [] = xn2 at *
      generalize (jn.puts (ds.take t)).appE [] = xe2 at *
      clear hd12 ht12 HC2 HT11
      have HX3 := Lib.hid (Jl.app_fine (HPF.out t).1 (ds.drop t) (List.all_eq_true.2 fun e he => List.all_eq_true.1 HAL.out e (List.mem_of_mem_drop he)) (by rw [(HPF.out t).2.1, hld]; simp; omega))
      have HX4 := Lib.hid (show (jn.puts (ds.take t)).puts (ds.drop t) = jn.puts ds by
        have := (Jl.puts_append (ds.drop t) (ds.take t) jn (HPF.out t).2.2).1
        rw [List.take_append_drop] at this; exact this.symm)
      have HC3 := Lib.hid (HAPP.out w12 ⟨G12, F12, jc, dc, jn.puts (ds.take t)⟩ _ (n - t) (c - t) (ds.drop t) HT12.out.ia HT12.out.na HT12.out.bel ((HEG.out _ _ _ _ HE2.out).1 w12 HT12.out.bel) ((HEG.out _ _ _ _ HE2.out).2 _ HT12.out.na) (fun e h => List.mem_of_mem_drop h) (by show (jn.puts (ds.take t)).es.length + _ ≤ 99; rw [(HPF.out t).2.1, hld]; simp; omega))
      clear htc hlt hld hcap
      by_cases hct : c = t
      case' pos =>
        rw [if_pos hct] at HC3
        have hnt : n = t := by have := Cel.cap HH.out; omega
        have z1 : n - t = 0 := by omega
        have z2 : c - t = 0 := by omega
        rw [z1, z2] at HC3
      case' neg => rw [if_neg hct] at HC3
      all_goals
        go_wp2_with fail
        with_reducible refine HC3.out.mono ?_
        rintro r w13 ⟨rfl, hd13⟩
        obtain ⟨G13, F13, ht13⟩ := HT12.out.deed hd13
        simp only at ht13
        rw [HX3.out.1, HX4.out] at ht13
        have HT13 := Lib.hid (show Tri w3 w13 ⟨G13, F13, jc, dc, jn.puts ds⟩ ⟨G10, F10, ja, da, jn.puts ds⟩ ⟨Gy, Fy, jb, db, jn.puts ds⟩ from ht13)
        simp only
        generalize (jn.puts (ds.take t)).appN (ds.drop t) = xn3 at *
        generalize (jn.puts (ds.take t)).appE (ds.drop t) = xe3 at *
        clear hd13 ht13 HC3 HT12 HE2
        have HJF := Lib.hid (show (jn.puts ds).Fine ∧ (jn.puts ds).es.length = n ∧ (jn.puts ds).Inv from by
          have := HPF.out n
          rw [List.take_of_length_le (by rw [HL.out]; omega)] at this
          exact ⟨this.1, by rw [this.2.1, List.length_map, HL.out], Jl.Inv.puts ds HIN.out HFN.out (by rw [HJE.out, HL.out]; simp; omega) (fun e he => (mayB_fit (List.all_eq_true.1 HAL.out e he)).len)⟩)
        clear HX1 HX2 HX3 HX4 HPF HFN HIN HAPP HEG HEV HAO HE1
        generalize jn.puts ds = J at *
        have HNL := Lib.hid (HJF.out.2.2.names HJF.out.1 (by rw [HJF.out.2.1]; omega))
        have hml : (J.dk.files.map (·.1)).length ≤ 4096 := by rw [List.length_map]; exact HT13.out.ib.dk.1.num
        have HRD := Lib.hid (show ∀ W (x : Jx) (s : List UInt8), x.In W → x.j = J → s.length ≤ 1000 → Calls Tryz.prog 24 #[.pointer (some ⟨x.bd, 0, none⟩), .string ⟨s.toArray⟩] W (RdPost W (J.dk.read s) (J.dk.found s)) from fun W x s hi hj hs => by
          have := dkread_any W x.G x.bd x.j.dk (JlIn.dk hi) s (by omega)
          rw [hj] at this; exact this)
        have HNA := Lib.hid (show ∀ W (x : Jx), x.In W → x.j = J → Calls Tryz.prog 20 #[.pointer (some ⟨x.bd, 0, none⟩)] W (SrcPost W (J.dk.files.map (·.1))) from fun W x hi hj => by
          have := dknames_any W x.G x.bd x.j.dk (JlIn.dk hi)
          rw [hj] at this; exact this)
        generalize J.dk.files.map (·.1) = ns at *
        go_wp2_with fail
        with_reducible refine (HNA.out w13 ⟨G10, F10, ja, da, J⟩ HT13.out.ib rfl).mono ?_
        rintro r w14 ⟨v14, rfl, hrow, hb14⟩
        obtain ⟨A14, c14, hv14⟩ := ownsRow_form hrow
        subst hv14
        have HS14 := Lib.hid (show Strs w14 w14.heap.size A14 ns.length c14 ns from Cel.of_own hrow)
        have HT14 := Lib.hid (HT13.out.up hb14)
        clear hrow hb14 HT13
        go_wp2_with fail
        with_reducible refine (HNA.out w14 ⟨Gy, Fy, jb, db, J⟩ HT14.out.ic rfl).mono ?_
        rintro r w15 ⟨v15, rfl, hrow, hb15⟩
        obtain ⟨A15, c15, hv15⟩ := ownsRow_form hrow
        subst hv15
        have HS15 := Lib.hid (show Strs w15 w15.heap.size A15 ns.length c15 ns from Cel.of_own hrow)
        have HT15 := Lib.hid (HT14.out.up hb15)
        have HS14' := Lib.hid (show Strs w15 w15.heap.size A14 ns.length c14 ns from Cel.more (Cel.below HS14.out hb15) hb15.size)
        clear hrow hb15 HT14 HS14
        go_wp2_with fail
        with_reducible refine (texts_any w15 _ _ A15 A14 ns.length c15 c14 ns HS15.out HS14'.out (by omega)).mono ?_
        rintro r w16 ⟨rfl, q, hq⟩
        have hb16 : Below w15.heap.size w15 w16 := hq ▸ below_drewN (Below.refl _ _) q
        have HT16 := Lib.hid (HT15.out.up hb16)
        have HS16 := Lib.hid (show Strs w16 w16.heap.size A14 ns.length c14 ns from Cel.more (Cel.below HS14'.out hb16) hb16.size)
        clear hq hb16 HT15 HS14' HS15
        go_wp2_with fail
        with_reducible refine (HNA.out w16 ⟨G13, F13, jc, dc, J⟩ HT16.out.ia rfl).mono ?_
        rintro r w17 ⟨v17, rfl, hrow, hb17⟩
        obtain ⟨A17, c17, hv17⟩ := ownsRow_form hrow
        subst hv17
        have HS17 := Lib.hid (show Strs w17 w17.heap.size A17 ns.length c17 ns from Cel.of_own hrow)
        have HT17 := Lib.hid (HT16.out.up hb17)
        have HS16' := Lib.hid (show Strs w17 w17.heap.size A14 ns.length c14 ns from Cel.more (Cel.below HS16.out hb17) hb17.size)
        clear hrow hb17 HT16 HS16
        go_wp2_with fail
        with_reducible refine (texts_any w17 _ _ A17 A14 ns.length c17 c14 ns HS17.out HS16'.out (by omega)).mono ?_
        rintro r w18 ⟨rfl, q2, hq⟩
        have hb18 : Below w17.heap.size w17 w18 := hq ▸ below_drewN (Below.refl _ _) q2
        have HT18 := Lib.hid (HT17.out.up hb18)
        have HS18 := Lib.hid (show Strs w18 w18.heap.size A14 ns.length c14 ns from Cel.more (Cel.below HS16'.out hb18) hb18.size)
        clear hq hb18 HT17 HS16' HS17
        have HLA := Lib.hid (show ∀ (x : Jx), x.In w18 → x.j = J → Calls Tryz.prog 22 #[.pointer (some ⟨x.bj, 0, none⟩)] w18 fun e w' => e = .returned (.int .i64 J.lasts) ∧ w18 = w' from fun x hi hj => by
          have := jllasting_any w18 x.G x.F x.bj x.bd x.j hi; rw [hj] at this; exact this)
        have HLE := Lib.hid (show Calls Tryz.prog 23 #[.pointer (some ⟨jc, 0, none⟩)] w18 fun e w' => e = .returned (.int .i64 n) ∧ w18 = w' from by
          have := jllen_any w18 G13 F13 jc dc J HT18.out.ia; rw [HJF.out.2.1] at this; exact this)
        go_wp2_with fail
        with_reducible refine (HLA.out ⟨G10, F10, ja, da, J⟩ HT18.out.ib rfl).mono ?_
        rintro r w19 ⟨rfl, rfl⟩
        go_wp2_with fail
        with_reducible refine (HLA.out ⟨Gy, Fy, jb, db, J⟩ HT18.out.ic rfl).mono ?_
        rintro r w19 ⟨rfl, rfl⟩
        go_wp2_with fail
        with_reducible refine (HLA.out ⟨G13, F13, jc, dc, J⟩ HT18.out.ia rfl).mono ?_
        rintro r w19 ⟨rfl, rfl⟩
        go_wp2_with fail
        with_reducible refine (HLA.out ⟨Gy, Fy, jb, db, J⟩ HT18.out.ic rfl).mono ?_
        rintro r w19 ⟨rfl, rfl⟩
        go_wp2_with fail
        with_reducible refine HLE.out.mono ?_
        rintro r w19 ⟨rfl, rfl⟩
        clear HLA HLE
        have HST := Lib.hid (show LpRel w18 ns.length (.int .i64 ((0 : Nat) : Int)) w18 from ⟨0, rfl, Nat.zero_le _, Below.refl _ _⟩)
        have HR0 := Lib.hid (show ∀ W, Below w18.heap.size w18 W → Says true w (.returned (.bool true)) W from fun W hW => ⟨rfl, HB3.out.trans ((HT18.out.bel.trans (hW.mono HT18.out.bel.size)).mono HB3.out.size)⟩)
        go_wp2
        go_loopw [20] (fun i wr => LpRel w18 ns.length i wr) (fun i _ => ns.length - (intOf i).toNat)
        case atStart => exact HST.out
        case round =>
          obtain ⟨q5, rfl, hq5, hbq⟩ := hrel
          have HBQ := Lib.hid hbq
          by_cases hqn : q5 < ns.length
          · have HTQ := Lib.hid (HT18.out.up hbq)
            have hsq : Strs wr wr.heap.size A14 ns.length c14 ns := Cel.more (Cel.below HS18.out hbq) hbq.size
            obtain ⟨b, off, hAe, hb, hcl⟩ := hsq.at_ q5 hqn
            subst hAe
            have HNS := Lib.hid (HNL.out ns[q5] (List.getElem_mem hqn))
            have HS2 := Lib.hid (show ∀ W, Below wr.heap.size wr W → W.cell? ⟨b, off + q5, none⟩ = some (.string ⟨ns[q5].toArray⟩) from fun W hW => (hW.cell (p := ⟨b, off + q5, none⟩) hb).trans hcl)
            generalize ns[q5] = nm at *
            generalize hJR : J.dk.read nm = R at *
            have t3 : (q5 : Int) < ns.length := by omega
            have t5 : (R != R) = false := by simp
            have t6 : (!(R == R)) = false := by simp
            clear hsq
            have hC1 := HRD.out wr ⟨G10, F10, ja, da, J⟩ nm HTQ.out.ib rfl HNS.out
            rw [hJR] at hC1
            go_wp2_with fail
            with_reducible refine hC1.mono ?_
            rintro r w20 ⟨v20, rfl, ho20, hb20⟩
            obtain ⟨A20, c20, hv20⟩ := ho20.form
            subst hv20
            have HO20 := Lib.hid ho20.byt
            have hc20 := HS2.out w20 hb20
            have HT20 := Lib.hid (HTQ.out.up hb20)
            have HB20 := Lib.hid hb20
            clear ho20 hb20 hC1 hcl
            have hC2 := HRD.out w20 ⟨Gy, Fy, jb, db, J⟩ nm HT20.out.ic rfl HNS.out
            rw [hJR] at hC2
            go_wp2_with fail
            with_reducible refine hC2.mono ?_
            rintro r w21 ⟨v21, rfl, ho21, hb21⟩
            obtain ⟨A21, c21, hv21⟩ := ho21.form
            subst hv21
            have HO21 := Lib.hid ho21.byt
            have HB21 := Lib.hid (HB20.out.trans (hb21.mono HB20.out.size))
            have hc21 := HS2.out w21 HB21.out
            have HT21 := Lib.hid (HT20.out.up hb21)
            have HO20' := Lib.hid ((HO20.out.below hb21).more hb21.size)
            clear ho21 hb21 hC2 hc20
            have hC3 := HRD.out w21 ⟨G13, F13, jc, dc, J⟩ nm HT21.out.ia rfl HNS.out
            rw [hJR] at hC3
            go_wp2_with fail
            with_reducible refine hC3.mono ?_
            rintro r w22 ⟨v22, rfl, ho22, hb22⟩
            obtain ⟨A22, c22, hv22⟩ := ho22.form
            subst hv22
            have HB22 := Lib.hid (HBQ.out.trans ((HB21.out.trans (hb22.mono HB21.out.size)).mono HBQ.out.size))
            have k20 := (HO20'.out.below hb22).str (P := Tryz.prog) 41 5 9 Tryz.underlying41 Tryz.underlying5 Tryz.underlying9
            have k21 := (HO21.out.below hb22).str (P := Tryz.prog) 41 5 9 Tryz.underlying41 Tryz.underlying5 Tryz.underlying9
            have k22 := ho22.byt.str (P := Tryz.prog) 41 5 9 Tryz.underlying41 Tryz.underlying5 Tryz.underlying9
            have HRL := Lib.hid (show LpRel w18 ns.length (.int .i64 ((q5 + 1 : Nat) : Int)) w22 from ⟨q5 + 1, rfl, by omega, HB22.out⟩)
            clear ho22 hb22 hC3 hc21 hbq
            go_wp2
            go_roundw
            case rel => exact HRL.out
            case measure => simp [intOf]; omega
          · have t3 : ¬ (q5 : Int) < ns.length := by omega
            have HR := Lib.hid (HR0.out wr hbq)
            clear hbq
            go_wp2
            go_ret
            exact HR.out
end Go.Proofs.YtejjfhhppjdcaaaGreatDoor
