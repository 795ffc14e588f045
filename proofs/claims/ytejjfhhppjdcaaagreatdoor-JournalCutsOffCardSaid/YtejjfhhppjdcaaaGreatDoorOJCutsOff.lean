/-
  The law JournalCutsOff, walked.
-/
import Derived.Test.YtejjfhhppjdcaaaGreatDoorOJErases
import Derived.Test.YtejjfhhppjdcaaaGreatDoorODkArm
import Derived.Test.YtejjfhhppjdcaaaGreatDoorOCutLaw
namespace Go.Proofs.YtejjfhhppjdcaaaGreatDoor
open Go.RowKit Go.Maps Go.Sort Go.Shelf

/-- a fuse is lit at a journal's disk -/
theorem JlIn.arm {w w' : World} {G F : Nat → Prop} {bj bd : Nat} {j : Jl} {n : Int} (h : JlIn w G F bj bd j) (hd : DkD w G bd (j.dk.arm n) w') : ∃ G', JlIn w' G' F bj bd { j with dk := j.dk.arm n } ∧ (∀ b, G' b → G b ∨ w.heap.size ≤ b) ∧ Keep G w w' := by
  obtain ⟨ho, v, hj⟩ := h
  obtain ⟨G6, h6, hG6, hk6⟩ := hj.disk hd
  exact ⟨G6, ⟨⟨ho.per1, ho.per2, ho.nm, ho.num, ho.fl, ho.las, ho.may⟩, v, h6⟩, hG6, hk6⟩
/-- what was counted of the entries so far -/
def CoRel (w11 : World) (kb : Ev → Bool) (ds : List Ev) (L1 : List (Option Ev)) (a b i : Value) (W : World) : Prop :=
  ∃ k : Nat, i = .int .i64 k ∧ k ≤ ds.length ∧ a = .int .i64 (cntE kb ((ds.map some).take k) : Nat) ∧ b = .int .i64 (cntE kb (L1.take k) : Nat) ∧ RowKit.Below w11.heap.size w11 W
theorem cntE_le (kb : Ev → Bool) (l : List (Option Ev)) : cntE kb l ≤ l.length := List.length_filter_le _ _
set_option maxRecDepth 100000 in
set_option maxHeartbeats 8000000 in
theorem jcutsoff_any (w : World) (pr : Int) (A : Option Addr) (n c : Nat) (ds : List Ev) (h : Evs w w.heap.size A n c ds) (hn : n ≤ 140737488355328) (p : List UInt8) (_hp : p.length ≤ 140737488355328) (fuse : Int) (hmx : MaxAt w) :
    Calls Tryz.prog 10 #[.int .i64 pr, .slice A n c, .string ⟨p.toArray⟩, .int .i64 fuse] w (Says true w) := by
  have hb00 : RowKit.Below w.heap.size w (w.alloc (.cells #[.string ⟨p.toArray⟩] 9)) := (Below.refl _ _).alloc (Nat.le_refl _) _
  have HB00 := Lib.hid hb00
  have hp0 : (w.alloc (.cells #[.string ⟨p.toArray⟩] 9)).heap[w.heap.size]? = some (.cells #[.string ⟨p.toArray⟩] 9) := heap_alloc_new w _
  have HP0 := Lib.hid hp0
  have HH := Lib.hid h; clear h
  have HMX := Lib.hid hmx; clear hmx
  have hs0 : (w.alloc (.cells #[.string ⟨p.toArray⟩] 9)).heap.size = w.heap.size + 1 := by simp
  go_enter Tryz.func10, Tryz.ntmps10
  obtain ⟨w0, hw0⟩ : ∃ w0, w0 = w.alloc (.cells #[.string ⟨p.toArray⟩] 9) := ⟨_, rfl⟩
  rw [← hw0] at HB00 HP0 hs0
  go_upto_region 1 with fail
  rw [← hw0]
  clear hw0 hb00 hp0
  have hb00 := HB00.out
  go_wp2_with fail
  refine (jlives_any w0 (HMX.out.up hb00)).mono ?_
  rintro r w1 ⟨rfl, hb1⟩
  have hbw1 : RowKit.Below w0.heap.size w0 w1 := hb1
  have hs1 := hb1.size
  have HW0 := Lib.hid (show ∀ W, RowKit.Below w0.heap.size w0 W → Says true w (.returned (.bool true)) W from fun W hW => ⟨rfl, HB00.out.trans (hW.mono HB00.out.size)⟩)
  by_cases h1 : pr < 1
  · have HR := Lib.hid (HW0.out w1 hbw1)
    go_wp2
    go_ret
    exact HR.out
  by_cases h2 : 8 < pr
  · have HR := Lib.hid (HW0.out w1 hbw1)
    go_wp2
    go_ret
    exact HR.out
  by_cases h3 : (40 : Int) < n
  · have HR := Lib.hid (HW0.out w1 hbw1)
    go_wp2
    go_ret
    exact HR.out
  have HEV := Lib.hid (show ∀ W, RowKit.Below w0.heap.size w0 W → Evs W W.heap.size A n c ds from fun W hW => by
    have h1 := HB00.out.trans (hW.mono HB00.out.size)
    exact Cel.more (Cel.below HH.out h1) h1.size)
  have hq1 : ¬ 40 < n := by omega
  have hH1 := HEV.out w1 hbw1
  go_wp2_with fail
  refine (some_any w1 A n c ds hH1 hn 300).mono ?_
  rintro r w2 ⟨rfl, hb2⟩
  have hbw2 : RowKit.Below w0.heap.size w0 w2 := hbw1.trans (hb2.mono hs1)
  clear hb2 hb1 hH1 hbw1
  cases hsm : ds.any (fun d => bigB d 300)
  case true =>
    have HR := Lib.hid (HW0.out w2 hbw2)
    clear hsm
    go_wp2
    go_ret
    exact HR.out
  have HSM := Lib.hid (some_small hsm)
  clear hsm
  have hH2 := HEV.out w2 hbw2
  go_wp2_with fail
  refine (all02_any w2 A n c ds hH2 hn HSM.out).mono ?_
  rintro r w3 ⟨rfl, hb3⟩
  have hbw3 : RowKit.Below w0.heap.size w0 w3 := hbw2.trans (hb3.mono hbw2.size)
  clear hb3 hbw2 hH2
  cases hal : ds.all mayB
  case false =>
    have HR := Lib.hid (HW0.out w3 hbw3)
    clear hal
    go_wp2
    go_ret
    exact HR.out
  have HAL := Lib.hid hal
  clear hal
  by_cases h4 : fuse < 0
  · have HR := Lib.hid (HW0.out w3 hbw3)
    go_wp2
    go_ret
    exact HR.out
  by_cases h5 : 100 < fuse
  · have HR := Lib.hid (HW0.out w3 hbw3)
    go_wp2
    go_ret
    exact HR.out
  obtain ⟨per, rfl⟩ := Int.eq_ofNat_of_zero_le (show 0 ≤ pr by omega)
  have HB3 := Lib.hid hbw3
  have hl := HH.out.len
  have HL := Lib.hid hl
  have hs3 := hbw3.size
  clear hbw3 hl
  go_wp2_with fail
  refine (dknew_any w3).mono ?_
  rintro r w4 ⟨bd, G4, rfl, hd4, hG4, hb4⟩
  have HD4 := Lib.hid hd4; have HG4 := Lib.hid hG4
  have HB4 := Lib.hid (show RowKit.Below w0.heap.size w0 w4 from HB3.out.trans (hb4.mono hs3))
  have hs4 := hb4.size
  clear hd4 hG4 hb4
  go_wp2_with fail
  refine (jlopen0_any w4 G4 bd Dk.new HD4.out rfl rfl [106] (by decide) per (by omega) (by omega)).mono ?_
  rintro r w5 ⟨bj, G5, F5, rfl, hj5, hG5, hF5, hk5⟩
  have HJ5 := Lib.hid hj5
  have HLO5 := Lib.hid (show ∀ b, G5 b ∨ F5 b → w3.heap.size ≤ b from fun b hb => by
    rcases hb with hb | hb
    · rcases hG5 b hb with h | h
      · exact HG4.out b h
      · omega
    · have := hF5 b hb; omega)
  have HB5 := Lib.hid (show RowKit.Below w3.heap.size w3 w5 → RowKit.Below w0.heap.size w0 w5 from fun h => HB3.out.trans (h.mono hs3))
  have hk5' : RowKit.Below w0.heap.size w0 w5 := HB4.out.trans (hk5.below (by omega) (fun k hk hg => by have := HG4.out k hg; omega))
  have HB5 := Lib.hid hk5'
  have hs5 := hk5.size
  obtain ⟨j0, hj0⟩ : ∃ j0, j0 = Jl.new Dk.new [106] per := ⟨_, rfl⟩
  rw [← hj0] at HJ5
  have HG0 := Lib.hid (show j0.Good from by rw [hj0]; exact Jl.good_new [106] per (by simp) (by omega))
  have he0 : j0.es = [] := by rw [hj0]; rfl
  have hn0 : j0.name = [106] := by rw [hj0]; rfl
  have hp0 : j0.per = per := by rw [hj0]; rfl
  have HA := Lib.hid (HG0.out.app (l := ds) (by rw [he0, HL.out]; simp; omega) HAL.out)
  have hsw0 := HB00.out.size
  have HAPP := Lib.hid (jlapp_any w5 G5 F5 bj bd j0 HJ5.out A n c ds (HEV.out w5 HB5.out) (fun b off e h0 hg => by
    obtain ⟨b', off', e', hb', _⟩ := Cel.cell HH.out h0
    rw [e'] at e; injection e with e; injection e with e
    have := HLO5.out b hg; omega) HSM.out (by rw [he0, HL.out]; simp; omega) (HMX.out.up (HB00.out.trans (HB5.out.mono HB00.out.size))) ⟨fun hg => by have := HLO5.out _ (.inl hg); have := HMX.out.lt; omega, fun hg => by have := HLO5.out _ (.inr hg); have := HMX.out.lt; omega⟩)
  obtain ⟨j1, hj1⟩ : ∃ j1, j1 = j0.app ds := ⟨_, rfl⟩
  rw [← hj1] at HAPP HA
  have he1 : j1.es = ds.map some := by have := HA.out.2.2.2.1; rw [he0] at this; simpa using this
  have hn1 : j1.name = [106] := by rw [HA.out.2.2.2.2.1, hn0]
  have hp1 : j1.per = per := by rw [HA.out.2.2.2.2.2.1, hp0]
  clear hj5 hG5 hF5 hk5 hk5' hj0 he0 hn0 hp0
  go_wp2_with fail
  refine HAPP.out.mono ?_
  rintro r w6 ⟨rfl, G6, F6, hj6, hG6, hF6, hk6⟩
  have HJ6 := Lib.hid hj6
  have HLO6 := Lib.hid (show ∀ b, G6 b ∨ F6 b → w3.heap.size ≤ b from fun b hb => by
    rcases hb with hb | hb
    · rcases hG6 b hb with h | h
      · exact HLO5.out b (.inl h)
      · omega
    · rcases hF6 b hb with h | h
      · exact HLO5.out b (.inr h)
      · omega)
  have HB6 := Lib.hid (show RowKit.Below w0.heap.size w0 w6 from HB5.out.trans (hk6.below (by omega) (fun k hk hg => by have := HLO5.out k hg; omega)))
  have hs6 := hk6.size
  have HW0' := Lib.hid (show ∀ W, RowKit.Below w0.heap.size w0 W → MaxAt W from fun W hW => HMX.out.up (HB00.out.trans (hW.mono HB00.out.size)))
  have HPC := Lib.hid (show ∀ W, RowKit.Below w0.heap.size w0 W → PerI w.heap.size p [] (fun b => b = w.heap.size) W from fun W hW => ⟨(cell_of_row W w.heap.size 0 _ _ (0, 0) ((hW.block _ (by omega)).trans HP0.out)).trans rfl, fun b => Iff.rfl⟩)
  have hln := HL.out
  have hlm : (ds.map some).length = n := by rw [List.length_map, hln]
  -- Sync
  have HS1 := Lib.hid (HA.out.1.syncA (by rw [he1, hlm]; omega))
  have HSY := Lib.hid (show Calls Tryz.prog 35 #[.pointer (some ⟨bj, 0, none⟩)] w6 (JlPost w6 G6 F6 bj bd j1.syncA 0) from by
    have := jlsyncA_any w6 G6 F6 bj bd j1 HJ6.out (by have := HJ6.out.1.fl; rw [he1, hlm] at this; omega)
    rw [HS1.out.2.1] at this; exact this)
  obtain ⟨j2, hj2⟩ : ∃ j2, j2 = j1.syncA := ⟨_, rfl⟩
  rw [← hj2] at HS1 HSY
  have he2 : j2.es = ds.map some := by rw [HS1.out.2.2.1, he1]
  have hn2 : j2.name = [106] := by rw [HS1.out.2.2.2.1, hn1]
  have hp2 : j2.per = per := by rw [HS1.out.2.2.2.2.1, hp1]
  have hl2 : j2.lasts = j2.es.length := by rw [HS1.out.2.2.2.2.2, he1, he2]
  clear hj6 hG6 hF6 hk6 hj2 he1 hn1 hp1 HAPP hj1
  go_wp2_with fail
  refine HSY.out.mono ?_
  rintro r w7 ⟨rfl, G7, F7, hj7, hG7, hF7, hk7⟩
  have HJ7 := Lib.hid hj7
  have HLO7 := Lib.hid (show ∀ b, G7 b ∨ F7 b → w3.heap.size ≤ b from fun b hb => by
    rcases hb with hb | hb
    · rcases hG7 b hb with h | h
      · exact HLO6.out b (.inl h)
      · omega
    · rcases hF7 b hb with h | h
      · exact HLO6.out b (.inr h)
      · omega)
  have HB7 := Lib.hid (show RowKit.Below w0.heap.size w0 w7 from HB6.out.trans (hk7.below (by omega) (fun k hk hg => by have := HLO6.out k hg; omega)))
  have hs7 := hk7.size
  clear hj7 hG7 hF7 hk7 HSY
  -- Arm
  go_wp2_with fail
  refine (dkarm_any w7 G7 bd j2.dk HJ7.out.dk fuse (by omega) (by omega)).mono ?_
  rintro r w8 ⟨rfl, hd8⟩
  obtain ⟨G8, hj8, hG8, hk8⟩ := HJ7.out.arm hd8
  have HJ8 := Lib.hid hj8
  have HLO8 := Lib.hid (show ∀ b, G8 b ∨ F7 b → w3.heap.size ≤ b from fun b hb => by
    rcases hb with hb | hb
    · rcases hG8 b hb with h | h
      · exact HLO7.out b (.inl h)
      · omega
    · exact HLO7.out b (.inr hb))
  have HB8 := Lib.hid (show RowKit.Below w0.heap.size w0 w8 from HB7.out.trans (hk8.below (by omega) (fun k hk hg => by have := HLO7.out k (.inl hg); omega)))
  have hs8 := hk8.size
  clear hd8 hj8 hG8 hk8
  -- Rewrite
  obtain ⟨P, hcut⟩ := HS1.out.1.cut hl2 (by rw [he2, hlm]; omega) fuse (by omega) (stayP p)
  have HRW := Lib.hid (jlrewr_any (per_cutsA_asker w.heap.size p) HJ8.out (HPC.out w8 HB8.out) (fun b hb hg => by have := HLO8.out b hg; omega) (by show j2.es.length ≤ 99; rw [he2, hlm]; omega) (by simp) (HW0'.out w8 HB8.out) (fun hg => by
    have hm := HMX.out.lt
    rcases hg with hg | hg | hg
    · have := HLO8.out _ (.inl hg); omega
    · have := HLO8.out _ (.inr hg); omega
    · omega))
  obtain ⟨R1, nn, ff, hR⟩ : ∃ R1 nn ff, ({ j2 with dk := j2.dk.arm fuse } : Jl).rewr (stayP p) = (R1, nn, ff) := ⟨_, _, _, rfl⟩
  rw [hR] at HRW hcut
  have hfc2 := HS1.out.1.fc
  obtain ⟨fc, hfc⟩ : ∃ fc, fc = j2.files := ⟨_, rfl⟩
  rw [he2, hn2, hp2, ← hfc] at hcut
  rw [he2, hlm, hp2, ← hfc] at hfc2
  have HCUT := Lib.hid hcut
  have HMAY := Lib.hid (show ∀ e, some e ∈ erRow (stayP p) (ds.map some) P → mayB e = true from erRow_may (fun e he => HS1.out.1.sm e (by rw [he2]; exact he)))
  have HFC := Lib.hid hfc2
  obtain ⟨L1, hL1⟩ : ∃ L1, L1 = erRow (stayP p) (ds.map some) P := ⟨_, rfl⟩
  have hlen1 : L1.length = n := by rw [hL1, erRow_len, hlm]
  have HL1 := Lib.hid hL1
  have HLEN := Lib.hid hlen1
  have HNN := Lib.hid (show nn = cntE (stayP p) ((ds.map some).take P) from hcut.n)
  have hff : ff = 0 ∨ ff = 8 := hcut.e
  have HFF := Lib.hid hff
  have HALL := Lib.hid (show ff = 0 → (ds.map some).length ≤ P from hcut.all)
  clear hR hfc hcut hfc2 hff he2 hn2 hp2 hl2 hL1
  go_wp2_with fail
  refine HRW.out.mono ?_
  rintro r w9 ⟨rfl, G9, F9, H9, aq9, hj9, hi9, _, _, hG9, _, _, hk9⟩
  have HC9 := Lib.hid hi9.cell
  have hbp9 : w.heap.size < w9.heap.size := hi9.lt
  have hs9 := hk9.size
  have HD9 := Lib.hid hj9.dk
  have HLO9 := Lib.hid (show ∀ b, G9 b → w3.heap.size ≤ b from fun b hb => by
    rcases hG9 b hb with h | h
    · exact HLO8.out b (.inl h)
    · omega)
  have HB9 := Lib.hid (show RowKit.Below w.heap.size w w9 from (HB00.out.trans (HB8.out.mono HB00.out.size)).trans (hk9.below (by omega) (fun k hk hg => by
    rcases hg with hg | hg | hg
    · have := HLO8.out k (.inl hg); omega
    · have := HLO8.out k (.inr hg); omega
    · omega)))
  have hbw3 : w.heap.size < w3.heap.size := by omega
  clear hj9 hG9 hk9 HRW hi9
  -- Crash
  have HCR := Lib.hid (show Calls Tryz.prog 36 #[.pointer (some ⟨bd, 0, none⟩), .slice none 0 0] w9 (CrPost w9 G9 bd (R1.dk.crash [])) from
    dkcrash_any w9 G9 bd R1.dk HD9.out (fun q hq => by
      have hi : DInv R1.dk.files [106] per fc (erRow (stayP p) (ds.map some) P) (ds.map some).length := HCUT.out.inv
      obtain ⟨z, hz, e⟩ := hi.only q hq
      have h9 := hi.hi
      rw [erRow_len, hlm] at h9
      have h8 := Nat.div_le_self n per
      have := (segF_len [106] (k := z) (by omega)).2
      rw [e]
      simp only [List.length_cons, List.length_nil] at this; omega) none 0 0 [] (Cel.nil _ _ _ _ _ (by unfold maxLen; omega)) (fun b off e => by cases e))
  have HGC := Lib.hid (show (⟨R1.dk.crash [], [106], per, fc, L1, L1.length, 0⟩ : Jl).Good from by
    rw [HL1.out]
    have hi : DInv R1.dk.files [106] per fc (erRow (stayP p) (ds.map some) P) (ds.map some).length := HCUT.out.inv
    exact crash_still (by rw [erRow_len]; exact hi) HCUT.out.ok (by simp) (by rw [erRow_len, hlm]; exact HFC.out) HMAY.out [])
  obtain ⟨jc, hjc⟩ : ∃ jc, jc = (⟨R1.dk.crash [], [106], per, fc, L1, L1.length, 0⟩ : Jl) := ⟨_, rfl⟩
  rw [← hjc] at HGC
  have HOI := Lib.hid (show OpIn (R1.dk.crash []) [106] per fc L1 [] from by
    have := HGC.out.opIn (by rw [hjc]; show L1.length ≤ 80; omega) (by rw [hjc]; show per ≤ 4096; omega)
    rw [hjc] at this; exact this)
  have HG4 := Lib.hid (HGC.out.again (by rw [hjc]; show L1.length ≤ 80; omega) (by rw [hjc]; show per ≤ 4096; omega))
  obtain ⟨j4, hj4⟩ : ∃ j4, j4 = jc.again := ⟨_, rfl⟩
  have h4e : j4 = Jl.opened (R1.dk.crash []) [106] per fc L1 [] := by rw [hj4, hjc]; rfl
  have h4s : j4.es = L1 := by rw [h4e]; rfl
  have h4l : j4.lasts = L1.length := by rw [h4e]; rfl
  rw [← hj4] at HG4
  have H4E := Lib.hid h4e; have H4S := Lib.hid h4s
  clear hjc hj4 h4e h4s h4l
  go_wp2_with fail
  refine HCR.out.mono ?_
  rintro r w10 ⟨rfl, G10, hd10, hG10, hk10⟩
  have HD10 := Lib.hid hd10
  have HLO10 := Lib.hid (show ∀ b, G10 b → w3.heap.size ≤ b from fun b hb => by
    rcases hG10 b hb with h | h
    · exact HLO9.out b h
    · omega)
  have HB10 := Lib.hid (show RowKit.Below w.heap.size w w10 from HB9.out.trans (hk10.below HB9.out.size (fun k hk hg => by have := HLO9.out k hg; omega)))
  have HC10 := Lib.hid (show w10.cell? ⟨w.heap.size, 0, none⟩ = some (.string ⟨p.toArray⟩) from (hk10.cell (p := ⟨w.heap.size, 0, none⟩) hbp9 (fun hg => by have h : w3.heap.size ≤ w.heap.size := HLO9.out _ hg; omega)).trans HC9.out)
  have hs10 := hk10.size
  clear hd10 hG10 hk10 HCR
  -- Open
  have hmxl : MaxAt w10 := HMX.out.up HB10.out
  have hmlt := HMX.out.lt
  have HOP := Lib.hid (show Calls Tryz.prog 18 #[.pointer (some ⟨bd, 0, none⟩), .string ⟨#[106]⟩, .int .i64 (per : Int)] w10 (OpenPost w10 G10 bd j4) from by
    have := jlopen_any w10 G10 bd (R1.dk.crash []) HD10.out [106] (by decide) per fc L1 [] HOI.out hmxl (fun hg => by have := HLO10.out _ hg; omega)
    rw [H4E.out]; exact this)
  go_wp2_with fail
  refine HOP.out.mono ?_
  rintro r w11 ⟨bj2, G11, F11, rfl, hj11, hG11, hF11, hk11⟩
  have HJ11 := Lib.hid hj11
  have HLO11 := Lib.hid (show ∀ b, G11 b ∨ F11 b → w3.heap.size ≤ b from fun b hb => by
    rcases hb with hb | hb
    · rcases hG11 b hb with h | h
      · exact HLO10.out b h
      · omega
    · have := hF11 b hb; omega)
  have HB11 := Lib.hid (show RowKit.Below w.heap.size w w11 from HB10.out.trans (hk11.below HB10.out.size (fun k hk hg => by have := HLO10.out k hg; omega)))
  have HC11 := Lib.hid (show w11.cell? ⟨w.heap.size, 0, none⟩ = some (.string ⟨p.toArray⟩) from (hk11.cell (p := ⟨w.heap.size, 0, none⟩) (by show w.heap.size < _; omega) (fun hg => by have h : w3.heap.size ≤ w.heap.size := HLO10.out _ hg; omega)).trans HC10.out)
  have hs11 := hk11.size
  have HCW := Lib.hid (show ∀ W, RowKit.Below w11.heap.size w11 W → W.cell? ⟨w.heap.size, 0, none⟩ = some (.string ⟨p.toArray⟩) from fun W hW => (hW.cell (p := ⟨w.heap.size, 0, none⟩) (by show w.heap.size < _; omega)).trans HC11.out)
  have HBW := Lib.hid (show ∀ W, RowKit.Below w11.heap.size w11 W → RowKit.Below w.heap.size w W from fun W hW => HB11.out.trans (hW.mono HB11.out.size))
  have HLN := Lib.hid (show Calls Tryz.prog 23 #[.pointer (some ⟨bj2, 0, none⟩)] w11 (fun e w' => e = .returned (.int .i64 (n : Int)) ∧ w11 = w') from by
    have := jllen_any w11 G11 F11 bj2 bd j4 HJ11.out
    rw [H4S.out, HLEN.out] at this; exact this)
  clear hj11 hG11 hF11 hk11 HOP hmxl
  go_upto_region 16 with fail
  go_cut [106] (fun v wc => v = .bool false ∧ w11 = wc)
  case first =>
    rcases HFF.out with rfl | rfl
    all_goals
      go_wp2_with fail
      refine HLN.out.mono ?_
      rintro r wl ⟨rfl, rfl⟩
      go_wp2
      go_meet
      exact ⟨rfl, rfl⟩
  case rest =>
    obtain ⟨rfl, rfl⟩ := hcut
    have HRD := Lib.hid (show ∀ W, RowKit.Below w11.heap.size w11 W → ∀ k (hk : k < L1.length), Calls Tryz.prog 37 #[.pointer (some ⟨bj2, 0, none⟩), .int .i64 (k : Int), .int .i64 1] W (JRdPost W L1[k].toList (rdAt k [L1[k]]) 0) from fun W hW k hk => by
      have := jlread_any W G11 F11 bj2 bd j4 (HJ11.out.up hW) k 1
      have e1 : j4.rdBad k 1 = false := by unfold Jl.rdBad; rw [H4S.out]; simp; omega
      have e2 : j4.rdSeg k 1 = [L1[k]] := by
        unfold Jl.rdSeg
        rw [H4S.out]
        have e3 : (min (1 : Int) ((L1.length : Int) - (k : Int))).toNat = 1 := by omega
        rw [e3, Int.toNat_natCast, List.drop_eq_getElem_cons hk]; rfl
      unfold JReadPost at this
      rw [e1, e2] at this
      have e4 : rdEv [L1[k]] = L1[k].toList := by
        cases L1[k] <;> rfl
      rw [e4] at this
      exact this)
    have HEVW := Lib.hid (show ∀ W, RowKit.Below w11.heap.size w11 W → Evs W W.heap.size A n c ds from fun W hW => by
      have h1 := HBW.out W hW
      exact Cel.more (Cel.below HH.out h1) h1.size)
    have HR0 := Lib.hid (show CoRel w11 (stayP p) ds L1 (.int .i64 0) (.int .i64 0) (.int .i64 0) w11 from ⟨0, rfl, Nat.zero_le _, rfl, rfl, Below.refl _ _⟩)
    go_wp2
    go_loopw [16, 17, 18, 19, 20, 21] (fun a b i _ _ _ W => CoRel w11 (stayP p) ds L1 a b i W) (fun _ _ i _ _ _ _ => n - (intOf i).toNat)
    case atStart => exact HR0.out
    case round =>
      obtain ⟨k, rfl, hk, rfl, rfl, hbel⟩ := hrel
      have HBL := Lib.hid hbel
      have hsr := hbel.size
      clear hbel
      by_cases hkn : k < n
      · have hkd : k < ds.length := by omega
        have hkL : k < L1.length := by omega
        have t1 : (k : Int) < n := by omega
        have hcc : (stayP p ds[k] = true ∧ L1[k] = some ds[k]) ∨ (stayP p ds[k] = false ∧ (L1[k] = some ds[k] ∨ L1[k] = none)) := by
          have := cut_case (stayP p) ds P k hkd (by rw [erRow_len, hlm]; exact hkn)
          have e := HL1.out
          subst e; exact this
        have HCC := Lib.hid hcc
        have o1 := cntE_take (kb := stayP p) (l := ds.map some) (k := k) (by omega)
        have o2 := cntE_take (kb := stayP p) (l := L1) (k := k) hkL
        rw [List.getElem_map] at o1
        have HO1 := Lib.hid o1; have HO2 := Lib.hid o2
        have HRK := Lib.hid (HRD.out wr HBL.out k hkL)
        have hb1 : cntE (stayP p) ((ds.map some).take k) ≤ 40 := by have := cntE_le (stayP p) ((ds.map some).take k); rw [List.length_take] at this; omega
        have hb2 : cntE (stayP p) (L1.take k) ≤ 40 := by have := cntE_le (stayP p) (L1.take k); rw [List.length_take] at this; omega
        have HNX := Lib.hid (show ∀ (o q : Nat) W, o = cntE (stayP p) ((ds.map some).take (k + 1)) → q = cntE (stayP p) (L1.take (k + 1)) → RowKit.Below w11.heap.size w11 W → CoRel w11 (stayP p) ds L1 (.int .i64 (o : Int)) (.int .i64 (q : Int)) (.int .i64 ((k : Int) + 1)) W from fun o q W h1 h2 h3 => ⟨k + 1, rfl, by omega, by rw [h1], by rw [h2], h3⟩)
        generalize cntE (stayP p) ((ds.map some).take k) = o at *
        generalize cntE (stayP p) (L1.take k) = q at *
        generalize hy : L1[k] = y at *
        obtain ⟨x, hx⟩ : ∃ x, x = ds[k] := ⟨_, rfl⟩
        have HX := Lib.hid hx
        rw [← hx] at HCC HO1
        have HEX := Lib.hid (show ∀ W, RowKit.Below w11.heap.size w11 W → ∃ b off, A = some ⟨b, off, none⟩ ∧ EvAt W b (off + k * 8) x from fun W hW => by
          obtain ⟨b, off, e, _, hd⟩ := (HEVW.out W hW).ev k hkd
          rw [← hx] at hd
          exact ⟨b, off, e, hd⟩)
        clear hcc o1 o2 hy hx HRD
        go_wp2_with fail
        refine HRK.out.mono ?_
        rintro r w12 ⟨v1, v2, rfl, hv1, hv2, hb12⟩
        obtain ⟨B1, d1, hf1, he1⟩ := hv1.form
        obtain ⟨B2, d2, hf2, hi2⟩ := hv2.form
        subst hf1; subst hf2
        have hal : (rdAt k [y]).length = y.toList.length := by rw [rdAt_len]; cases y <;> rfl
        rw [hal]
        have HB12 := Lib.hid (show RowKit.Below w11.heap.size w11 w12 from HBL.out.trans (hb12.mono hsr))
        have HE1 := Lib.hid he1
        obtain ⟨b, off, rfl, hd⟩ := HEX.out w12 HB12.out
        have HEX2 := Lib.hid (show ∀ W, RowKit.Below w12.heap.size w12 W → EvAt W b (off + k * 8) x from fun W hW => by
          obtain ⟨b', off', e, hd'⟩ := HEX.out W (HB12.out.trans (hW.mono HB12.out.size))
          injection e with e; injection e with e1 e2
          subst e1; subst e2; exact hd')
        have HCP := Lib.hid (show ∀ W, RowKit.Below w12.heap.size w12 W → W.cell? ⟨w.heap.size, 0, none⟩ = some (.string ⟨p.toArray⟩) from fun W hW => HCW.out W (HB12.out.trans (hW.mono HB12.out.size)))
        have HNW := Lib.hid (show ∀ (o' q' : Nat) W, o' = cntE (stayP p) ((ds.map some).take (k + 1)) → q' = cntE (stayP p) (L1.take (k + 1)) → RowKit.Below w12.heap.size w12 W → CoRel w11 (stayP p) ds L1 (.int .i64 (o' : Int)) (.int .i64 (q' : Int)) (.int .i64 ((k : Int) + 1)) W from fun o' q' W h1 h2 h3 => HNX.out o' q' W h1 h2 (HB12.out.trans (h3.mono HB12.out.size)))
        obtain ⟨f0, f1, f2, f3, f4, f5, f6, f7⟩ := hd
        have cp := HCP.out w12 (Below.refl _ _)
        clear hv1 hv2 hb12 hal hi2 he1 HRK HEX
        rcases HCC.out with ⟨hkb, rfl⟩ | ⟨hkb, rfl | rfl⟩
        · have HXX := Lib.hid (show EvAt w12 w12.heap.size 0 x → True from fun _ => trivial)
          have hnp : (x.per == p) = false := by
            have h1 : (x.per != p) = true := hkb
            simpa using h1
          have hnp2 : (x.per != p) = true := hkb
          have HN2 := Lib.hid (show ∀ W, RowKit.Below w12.heap.size w12 W → CoRel w11 (stayP p) ds L1 (.int .i64 (o : Int)) (.int .i64 (q : Int)) (.int .i64 ((k : Int) + 1)) W from fun W hW => HNW.out o q W (by rw [HO1.out]; simp [goesB, hkb]) (by rw [HO2.out]; simp [goesB, hkb]) hW)
          have h1 : (some x).toList.length = 1 := rfl
          rw [h1] at HE1 ⊢
          obtain ⟨bx, ox, rfl, _, hx0⟩ := HE1.out.ev 0 (by simp)
          have hx0 : EvAt w12 bx ox x := by simpa using hx0
          obtain ⟨g0, g1, g2, g3, g4, g5, g6, g7⟩ := hx0
          clear h1 hkb
          go_upto_region 23 with fail
          go_cut [150] (fun v wc => v = .bool false ∧ RowKit.Below w12.heap.size w12 wc)
          case first =>
            clear hnp hnp2
            go_quiet (fail)
            go_wp2
            go_meet
            exact ⟨rfl, below_drewN (Below.refl _ _) _⟩
          case rest =>
            obtain ⟨rfl, hbc⟩ := hcut
            have HBC := Lib.hid hbc
            obtain ⟨e0, e1, e2, e3, e4, e5, e6, e7⟩ := HEX2.out wc hbc
            have cq := HCP.out wc hbc
            clear hbc f0 f1 f2 f3 f4 f5 f6 f7 g0 g1 g2 g3 g4 g5 g6 g7 cp e0 e1 e2 e3 e5 e6 e7
            go_upto_region 25 with fail
            go_cut [157] (fun v wd => v = .bool false ∧ RowKit.Below w12.heap.size w12 wd)
            case first =>
              go_quiet (fail)
              go_wp2
              go_meet
              exact ⟨rfl, below_drewN HBC.out _⟩
            case rest =>
              obtain ⟨rfl, hbd⟩ := hcut
              have HRR := Lib.hid (HN2.out _ hbd)
              clear hbd e4 cq
              go_wp2
              go_roundw
              case rel => exact HRR.out
              case measure => simp [intOf]; omega
        · have hper : x.per = p := by
            have h1 : (x.per != p) = false := hkb
            simpa using h1
          have HN2 := Lib.hid (show ∀ W, RowKit.Below w12.heap.size w12 W → CoRel w11 (stayP p) ds L1 (.int .i64 ((o : Int) + 1)) (.int .i64 ((q : Int) + 1)) (.int .i64 ((k : Int) + 1)) W from fun W hW => HNW.out (o + 1) (q + 1) W (by rw [HO1.out]; simp [goesB, hkb]) (by rw [HO2.out]; simp [goesB, hkb]) hW)
          have h1 : (some x).toList.length = 1 := rfl
          rw [h1] at HE1 ⊢
          obtain ⟨bx, ox, rfl, _, hx0⟩ := HE1.out.ev 0 (by simp)
          have hx0 : EvAt w12 bx ox x := by simpa using hx0
          obtain ⟨g0, g1, g2, g3, g4, g5, g6, g7⟩ := hx0
          have HPE := Lib.hid hper
          clear h1 hkb hper
          go_upto_region 23 with fail
          go_cut [150] (fun v wc => v = .bool false ∧ RowKit.Below w12.heap.size w12 wc)
          case first =>
            go_quiet (fail)
            go_wp2
            go_meet
            exact ⟨rfl, below_drewN (Below.refl _ _) _⟩
          case rest =>
            obtain ⟨rfl, hbc⟩ := hcut
            have HBC := Lib.hid hbc
            obtain ⟨e0, e1, e2, e3, e4, e5, e6, e7⟩ := HEX2.out wc hbc
            have cq := HCP.out wc hbc
            rw [HPE.out] at e4
            clear hbc f0 f1 f2 f3 f4 f5 f6 f7 g0 g1 g2 g3 g4 g5 g6 g7 cp e0 e1 e2 e3 e5 e6 e7
            go_upto_region 25 with fail
            go_cut [157] (fun v wd => v = .bool true ∧ RowKit.Below w12.heap.size w12 wd)
            case first =>
              go_quiet (fail)
              go_wp2
              go_meet
              exact ⟨by first | rfl | simp, below_drewN HBC.out _⟩
            case rest =>
              obtain ⟨rfl, hbd⟩ := hcut
              have HRR := Lib.hid (HN2.out _ hbd)
              clear hbd e4 cq
              go_wp2
              go_roundw
              case rel => exact HRR.out
              case measure => simp [intOf]; omega
        · have hper : x.per = p := by
            have h1 : (x.per != p) = false := hkb
            simpa using h1
          have HN2 := Lib.hid (show ∀ W, RowKit.Below w12.heap.size w12 W → CoRel w11 (stayP p) ds L1 (.int .i64 ((o : Int) + 1)) (.int .i64 (q : Int)) (.int .i64 ((k : Int) + 1)) W from fun W hW => HNW.out (o + 1) q W (by rw [HO1.out]; simp [goesB, hkb]) (by rw [HO2.out]; simp [goesB]) hW)
          have h1 : (none : Option Ev).toList.length = 0 := rfl
          rw [h1] at HE1 ⊢
          rw [hper] at f4
          clear h1 hkb hper f0 f1 f2 f3 f5 f6 f7
          go_upto_region 23 with fail
          go_cut [150] (fun v wc => v = .bool false ∧ RowKit.Below w12.heap.size w12 wc)
          case first =>
            go_quiet (fail)
            go_wp2
            go_meet
            exact ⟨by first | rfl | simp, below_drewN (Below.refl _ _) _⟩
          case rest =>
            obtain ⟨rfl, hbc⟩ := hcut
            have HBC := Lib.hid hbc
            have e4 := (HEX2.out wc hbc).2.2.2.2.1
            have cq := HCP.out wc hbc
            have hper : x.per = p := by
              have h1 : (some (x.per) : Option (List UInt8)) = some p := by
                have h2 := (HEX2.out w12 (Below.refl _ _)).2.2.2.2.1
                rw [f4] at h2
                injection h2 with h2; injection h2 with h2; injection h2 with h2
                have := congrArg Array.toList h2
                simp at this
                rw [this]
              injection h1
            rw [hper] at e4
            clear hbc f4 cp hper
            go_upto_region 25 with fail
            go_cut [157] (fun v wd => v = .bool true ∧ RowKit.Below w12.heap.size w12 wd)
            case first =>
              go_quiet (fail)
              go_wp2
              go_meet
              exact ⟨by first | rfl | simp, below_drewN HBC.out _⟩
            case rest =>
              obtain ⟨rfl, hbd⟩ := hcut
              have HRR := Lib.hid (HN2.out _ hbd)
              clear hbd e4 cq
              go_wp2
              go_roundw
              case rel => exact HRR.out
              case measure => simp [intOf]; omega
      · obtain rfl : k = n := by omega
        have t1 : ¬ (k : Int) < k := by omega
        have HO := Lib.hid (show cntE (stayP p) ((ds.map some).take k) = cntE (stayP p) (ds.map some) from by rw [List.take_of_length_le (by omega)])
        have HQ := Lib.hid (show cntE (stayP p) (L1.take k) = cntE (stayP p) L1 from by rw [List.take_of_length_le (by omega)])
        rw [HO.out, HQ.out]
        have hsum := cut_all (stayP p) (ds.map some) P
        have hfil := filter_cnt (stayP p) ds
        have hL1 := HL1.out
        rw [← hL1, ← HNN.out] at hsum
        have hzero : ff = 0 → cntE (stayP p) L1 = 0 := fun h => by rw [hL1]; exact cut_none (HALL.out h)
        have hb1 : cntE (stayP p) (ds.map some) ≤ 40 := by have := cntE_le (stayP p) (ds.map some); omega
        obtain ⟨o, ho⟩ : ∃ o, o = cntE (stayP p) (ds.map some) := ⟨_, rfl⟩
        obtain ⟨q, hq⟩ : ∃ q, q = cntE (stayP p) L1 := ⟨_, rfl⟩
        rw [← ho] at hsum hfil hb1 ⊢
        rw [← hq] at hsum hzero ⊢
        have HZR := Lib.hid hzero
        have HQ2 := Lib.hid hq
        have HES := Lib.hid (show L1.map (erE (stayP p)) = (ds.map some).map (erE (stayP p)) from by rw [hL1, erRow_er])
        obtain ⟨m, hm⟩ : ∃ m, m = (ds.filter (stayP p)).length := ⟨_, rfl⟩
        rw [← hm, HL.out] at hfil
        have HM := Lib.hid hm
        have tk : (o : Int) - (q : Int) = (nn : Int) := by omega
        have tm : (k : Int) - (o : Int) = (m : Int) := by omega
        have HWR := Lib.hid HBL.out
        obtain ⟨wz, hwz⟩ : ∃ wz, wz = wr := ⟨_, rfl⟩
        subst hwz
        clear hzero hq ho hL1 hm hsum hfil
        go_upto_region 28 with fail
        go_cut [176] (fun v wc => v = .bool false ∧ wz = wc)
        case first =>
          rcases HFF.out with rfl | rfl
          · have hq0 : ((q : Int) != 0) = false := by rw [HZR.out rfl]; rfl
            go_wp2
            go_meet
            exact ⟨by first | rfl | simp, rfl⟩
          · go_wp2
            go_meet
            exact ⟨by first | rfl | simp, rfl⟩
        case rest =>
          obtain ⟨rfl, rfl⟩ := hcut
          have HBZ := Lib.hid (HBW.out wz HWR.out)
          have hsz := HWR.out.size
          obtain ⟨j5, hr5, hg5, he5, _, _, _⟩ := HG4.out.rewr (by rw [H4S.out, HLEN.out]; omega) (stayP p)
          rw [H4S.out, ← HQ2.out] at hr5
          rw [H4S.out, HES.out] at he5
          have HE5 := Lib.hid he5
          have HRW2 := Lib.hid (jlrewr_any (per_cutsB_asker w.heap.size p) (HJ11.out.up HWR.out) (show PerI w.heap.size p [] (fun b => b = w.heap.size) wz from ⟨HCW.out wz HWR.out, fun b => Iff.rfl⟩) (fun b hb hg => by have h : w3.heap.size ≤ b := HLO11.out b hg; omega) (by rw [H4S.out, HLEN.out]; omega) (by simp) (HMX.out.up HBZ.out) (fun hg => by
            rcases hg with hg | hg | hg
            · have := HLO11.out _ (.inl hg); omega
            · have := HLO11.out _ (.inr hg); omega
            · omega))
          rw [hr5] at HRW2
          clear hr5 he5 hg5 tk
          go_wp2_with fail
          refine HRW2.out.mono ?_
          rintro r w14 ⟨rfl, G14, F14, H14, aq14, hj14, hi14, _, _, _, _, _, hk14⟩
          have HJ14 := Lib.hid hj14
          have HC14 := Lib.hid hi14.cell
          have hbp14 : w.heap.size < w14.heap.size := hi14.lt
          have HB14 := Lib.hid (show RowKit.Below w.heap.size w w14 from HBZ.out.trans (hk14.below HBZ.out.size (fun k hk hg => by
            rcases hg with hg | hg | hg
            · have h : w3.heap.size ≤ k := HLO11.out k (.inl hg); omega
            · have h : w3.heap.size ≤ k := HLO11.out k (.inr hg); omega
            · omega)))
          clear hj14 hi14 hk14 HRW2
          have HRD2 := Lib.hid (show Calls Tryz.prog 37 #[.pointer (some ⟨bj2, 0, none⟩), .int .i64 0, .int .i64 (k : Int)] w14 (JRdPost w14 (ds.filter (stayP p)) (rdAt 0 ((ds.map some).map (erE (stayP p)))) 0) from by
            have := jlread_any w14 G14 F14 bj2 bd j5 HJ14.out 0 k
            have hl5 : j5.es.length = k := by rw [HE5.out, List.length_map, hlm]
            have e1 : j5.rdBad 0 k = false := by unfold Jl.rdBad; rw [hl5]; simp
            have e2 : j5.rdSeg 0 k = j5.es := by
              unfold Jl.rdSeg
              rw [hl5]
              have e3 : (min (k : Int) ((k : Int) - 0)).toNat = k := by omega
              rw [e3, Int.toNat_zero, List.drop_zero]
              exact List.take_of_length_le (by omega)
            unfold JReadPost at this
            rw [e1, e2, HE5.out, rdEv_er] at this
            exact this)
          have hmk : m ≤ 40 := by omega
          go_wp2_with fail
          refine HRD2.out.mono ?_
          rintro r w15 ⟨v1, v2, rfl, hv1, hv2, hb15⟩
          obtain ⟨B1, d1, hf1, he1⟩ := hv1.form
          obtain ⟨B2, d2, hf2, hi2⟩ := hv2.form
          subst hf1; subst hf2
          have HB15 := Lib.hid (show RowKit.Below w.heap.size w w15 from HB14.out.trans (hb15.mono HB14.out.size))
          have HC15 := Lib.hid (show w15.cell? ⟨w.heap.size, 0, none⟩ = some (.string ⟨p.toArray⟩) from (hb15.cell (p := ⟨w.heap.size, 0, none⟩) hbp14).trans HC14.out)
          have HE1 := Lib.hid he1
          have HKB := Lib.hid (show ∀ e ∈ ds.filter (stayP p), stayP p e = true from fun e he => (List.mem_filter.1 he).2)
          obtain ⟨fl, hfl⟩ : ∃ fl, fl = ds.filter (stayP p) := ⟨_, rfl⟩
          rw [← hfl] at HE1 HKB HM ⊢
          have hfm : fl.length = m := HM.out.symm
          rw [hfm]
          have HFM := Lib.hid hfm
          clear hv1 hv2 he1 hi2 hb15 HRD2 hfl hfm
          go_wp2
          go_loopw [27] (fun i W => ∃ z y : Nat, i = .int .i64 z ∧ z ≤ m ∧ W = w15.drewN y) (fun i _ => m - (intOf i).toNat)
          case atStart => exact ⟨0, 0, rfl, Nat.zero_le _, rfl⟩
          case round =>
            obtain ⟨z, y, rfl, hz, rfl⟩ := hrel
            by_cases hzm : z < m
            · have t2 : (z : Int) < m := by omega
              have hzl : z < fl.length := by rw [HFM.out]; exact hzm
              obtain ⟨b, off, rfl, hbb, hd⟩ := HE1.out.ev z hzl
              have hkb := HKB.out fl[z] (List.getElem_mem hzl)
              generalize fl[z] = x at *
              obtain ⟨f0, f1, f2, f3, f4, f5, f6, f7⟩ := hd
              have cp := HC15.out
              have hnp : (x.per == p) = false := by
                have h1 : (x.per != p) = true := hkb
                simpa using h1
              clear f0 f1 f2 f3 f5 f6 f7 hkb
              go_wp2
              go_quiet (fail)
              go_wp2
              go_roundw
              case rel => exact ⟨z + 1, y + nq, by go_num, by omega, by first | rfl | exact World.drewN_drewN ..⟩
              case measure => simp [intOf]; omega
            · have t2 : ¬ (z : Int) < m := by omega
              have HR := Lib.hid (show Says true w (.returned (.bool true)) (w15.drewN y) from ⟨rfl, below_drewN HB15.out y⟩)
              go_wp2
              go_ret
              exact HR.out
end Go.Proofs.YtejjfhhppjdcaaaGreatDoor
