/-
  The law JournalOpens, walked.
-/
import Derived.Test.YtejjfhhppjdcaaaGreatDoorOJPlays
import Derived.Test.YtejjfhhppjdcaaaGreatDoorOJlOpen
import Derived.Test.YtejjfhhppjdcaaaGreatDoorOOpGood
import Derived.Test.YtejjfhhppjdcaaaGreatDoorODkCrash
namespace Go.Proofs.YtejjfhhppjdcaaaGreatDoor
open Go.RowKit Go.Maps Go.Sort Go.Shelf

/-- a box with the document's journal, apart from a disk (G); w: where the law began -/
structure BxS (w : World) (b7 : Nat) (A : Option Addr) (z c : Nat) (es : List (Option Ev)) (las : Int) (G : Nat → Prop) (W : World) : Prop where
  kp : RowKit.Below w.heap.size w W
  bx : W.heap[b7]? = some (stObj A z c las)
  row : OwnR W 0 (.slice A z c) es
  n7 : ¬ G b7
  nr : ∀ b, (Value.slice A z c).ownBlock = some b → ¬ G b
  lo : ∀ b, G b → w.heap.size ≤ b
  b7l : w.heap.size ≤ b7
theorem row_not_st {W : World} {v : Value} {es : List (Option Ev)} {b z c : Nat} {las : Int} {A : Option Addr} (h : OwnR W 0 v es) (hb : W.heap[b]? = some (stObj A z c las)) : v.ownBlock ≠ some b := by
  intro e
  rcases h.2 with ⟨e', _⟩ | ⟨g, cap, cur, e', _, hg, _⟩
  · rw [e'] at e; simp [Value.ownBlock] at e
  · rw [e'] at e
    have e2 : g = b := by simpa [Value.ownBlock] using e
    rw [e2, hb] at hg
    injection hg with hg
    injection hg with _ hg
    revert hg; decide
section
variable {w W W' : World} {b7 z c : Nat} {A : Option Addr} {es : List (Option Ev)} {las : Int} {G G' : Nat → Prop}
theorem BxS.next (h : BxS w b7 A z c es las G W) (hk : Keep G W W') (hG : ∀ b, G' b → G b ∨ W.heap.size ≤ b) : BxS w b7 A z c es las G' W' := by
  have hs := h.kp.size
  have l7 : b7 < W.heap.size := (Array.getElem?_eq_some_iff.1 h.bx).1
  have lr : ∀ b, (Value.slice A z c).ownBlock = some b → b < W.heap.size := fun b hb => (World.ownsRow.lt h.row b hb).2
  refine ⟨h.kp.trans (hk.below hs (fun k hk' hg => by have := h.lo k hg; omega)), (hk.block b7 l7 h.n7).trans h.bx, h.row.keepB fun b hb => hk.block b (lr b hb) (h.nr b hb), fun hg => ?_, fun b hb hg => ?_, fun b hb => ?_, h.b7l⟩
  · rcases hG b7 hg with h' | h'
    · exact h.n7 h'
    · omega
  · rcases hG b hg with h' | h'
    · exact h.nr b hb h'
    · have := lr b hb; omega
  · rcases hG b hb with h' | h'
    · exact h.lo b h'
    · omega
theorem BxS.below (h : BxS w b7 A z c es las G W) (hb : RowKit.Below W.heap.size W W') : BxS w b7 A z c es las G W' := h.next (Keep.of_below hb) (fun _ hb => .inl hb)
theorem BxS.set (h : BxS w b7 A z c es las G W) (las' : Int) : BxS w b7 A z c es las' G (W.setCell ⟨b7, 1, none⟩ (.int .i64 las')) := by
  have hs := h.kp.size
  have hl := h.b7l
  refine ⟨h.kp.trans (((Keep.refl (fun b => b = b7) W).setCell (p := ⟨b7, 1, none⟩) (fun _ => rfl) _).below hs (fun k hk e => by omega)), by rw [heap_set_row h.bx]; rfl, h.row.keepB fun _ hb => Below.heap_setCell _ _ _ _ (fun e => row_not_st h.row h.bx (by rw [hb, e])), h.n7, h.nr, h.lo, h.b7l⟩
theorem BxS.cells (h : BxS w b7 A z c es las G W) : W.cell? ⟨b7, 0, none⟩ = some (.slice A z c) ∧ W.cell? ⟨b7, 1, none⟩ = some (.int .i64 las) ∧ W.frozen? ⟨b7, 1, none⟩ = false :=
  ⟨(cell_of_row W b7 0 _ _ (0, 0) h.bx).trans rfl, (cell_of_row W b7 1 _ _ (0, 0) h.bx).trans rfl, frozen_of_row W b7 1 _ _ h.bx⟩
theorem BxS.len (h : BxS w b7 A z c es las G W) : z = es.length := by
  obtain ⟨A2, c2, hv2⟩ := ownsRow_form h.row
  injection hv2
theorem BxS.ents (h : BxS w b7 A z c es las G W) : Ents W W.heap.size A z c es := by
  have h1 := h.row
  rw [h.len] at h1 ⊢
  exact Cel.of_own h1
end
/-- even tells that a journal has what the box has -/
theorem bx_even {w W : World} {b7 z c : Nat} {A : Option Addr} {es : List (Option Ev)} {las : Int} {G F : Nat → Prop} {bj bd : Nat} {j : Jl} (h : BxS w b7 A z c es las G W) (hj : JlIn W G F bj bd j) (he : j.es = es) (hl : (j.lasts : Int) = las) :
    Calls Tryz.prog 32 #[.pointer (some ⟨bj, 0, none⟩), .agg #[.slice A z c, .int .i64 las]] W (Says true W) := by
  have := jeven_any W G F bj bd j hj A z c (by rw [he]; exact h.ents)
  rw [hl] at this
  exact this
set_option maxRecDepth 100000 in
set_option maxHeartbeats 4000000 in
theorem jopens_any (w : World) (p : Int) (A : Option Addr) (n c : Nat) (ds : List Dj) (h : Djs w w.heap.size A n c ds) (hn : n ≤ 140737488355328) (hmx : MaxAt w) :
    Calls Tryz.prog 8 #[.int .i64 p, .slice A n c] w (Says true w) := by
  have HH := Lib.hid h; clear h
  have HMX := Lib.hid hmx; clear hmx
  go_enter Tryz.func8, Tryz.ntmps8
  go_wp2_with fail
  refine (jlives_any w HMX.out).mono ?_
  rintro r w1 ⟨rfl, hb1⟩
  have hs1 := hb1.size
  by_cases h1 : p < 1
  · go_wp2
    go_ret
    exact ⟨rfl, hb1⟩
  by_cases h2 : 8 < p
  · go_wp2
    go_ret
    exact ⟨rfl, hb1⟩
  have hH1 : Djs w1 w1.heap.size A n c ds := Djs.more (HH.out.below hb1) hs1
  go_wp2_with fail
  refine (heavy05_any w1 A n c ds hH1 hn).mono ?_
  rintro r w2 ⟨rfl, hb2⟩
  have hbw2 : RowKit.Below w.heap.size w w2 := hb1.trans (hb2.mono hs1)
  clear hb2 hb1 hH1
  cases hhv : heavyB ds
  case true =>
    clear hhv
    go_wp2
    go_ret
    exact ⟨rfl, hbw2⟩
  obtain ⟨hsm, hsum⟩ := heavyB_no hhv
  have HSM := Lib.hid hsm
  have HB2 := Lib.hid hbw2
  obtain ⟨per, rfl⟩ := Int.eq_ofNat_of_zero_le (show 0 ≤ p by omega)
  have hs2 := hbw2.size
  clear hsm hhv hbw2
  go_wp2_with fail
  refine (dknew_any w2).mono ?_
  rintro r w3 ⟨bd, G0, rfl, hd3, hG3, hb3⟩
  have HD3 := Lib.hid hd3
  have HB3 := Lib.hid (HB2.out.trans (hb3.mono hs2))
  have hs3 := hb3.size
  have hG3' : ∀ b, G0 b → w.heap.size ≤ b := fun b hb => by have := hG3 b hb; omega
  have HGR := Lib.hid (grown_any w3 G0 bd w.heap.size HD3.out (by omega) hG3' A n c ds (HH.out.below HB3.out) per (by omega) (by omega) HSM.out hsum (HMX.out.up HB3.out) HMX.out.lt hn)
  have HJG := Lib.hid ((Jl.good_new [106] per (by simp) (by omega)).deeds rfl ds (by omega))
  have hpj : ((Jl.new Dk.new [106] per).deeds ds).per = per := HJG.out.2.2.2
  have hnj : ((Jl.new Dk.new [106] per).deeds ds).name = [106] := HJG.out.2.2.1
  generalize (Jl.new Dk.new [106] per).deeds ds = j at *
  clear hd3 hG3 hb3 hG3'
  go_wp2_with fail
  refine HGR.out.mono ?_
  rintro r w4 ⟨bj, z, cc, Av, G, F, rfl, hst, hlo, hb4⟩
  go_upto_region 7 with fail
  have hb45 : RowKit.Below w4.heap.size w4 (w4.alloc (stObj Av z cc j.lasts)) := (Below.refl _ _).alloc (Nat.le_refl _) _
  have hs4 := hb4.size
  have hlt4 : ∀ b, G b ∨ F b → b < w4.heap.size := fun b hb => hst.jl.lt b hb
  have HB5 := Lib.hid (show RowKit.Below w.heap.size w (w4.alloc (stObj Av z cc j.lasts)) from (HB3.out.trans hb4).trans (hb45.mono (by omega)))
  have HST := Lib.hid (hst.up hb45)
  have HT5 := Lib.hid (heap_alloc_new w4 (stObj Av z cc j.lasts))
  have HS5 := Lib.hid (show (w4.alloc (stObj Av z cc j.lasts)).heap.size = w4.heap.size + 1 by simp)
  obtain ⟨b7, hb7⟩ : ∃ b7, b7 = w4.heap.size := ⟨_, rfl⟩
  obtain ⟨w5, hw5⟩ : ∃ w5, w5 = w4.alloc (stObj Av z cc j.lasts) := ⟨_, rfl⟩
  rw [← hw5] at HB5 HST HT5 HS5 ⊢
  rw [← hb7] at HT5 HS5 hlt4 hs4 ⊢
  have HLT4 := Lib.hid hlt4
  have HLO := Lib.hid hlo
  clear hw5 hb7 hb45 hst hb4 HGR hlt4 hlo
  have hz : z = j.es.length := by
    obtain ⟨A2, c2, hv2⟩ := ownsRow_form HST.out.row
    injection hv2
  have HZ := Lib.hid hz
  have hz60 : z ≤ 60 := by have := HJG.out.2.1; omega
  clear hz
  -- Open
  have HBX := Lib.hid (show BxS w b7 Av z cc j.es (j.lasts : Int) G w5 from ⟨HB5.out, HT5.out, HST.out.row, fun hg => by have := HLT4.out _ (.inl hg); omega, fun b hb => (HST.out.ap b hb).1, fun b hb => HLO.out b (.inl hb), by have := HB3.out.size; omega⟩)
  have HOP := Lib.hid (show Calls Tryz.prog 18 #[.pointer (some ⟨bd, 0, none⟩), .string ⟨#[106]⟩, .int .i64 (per : Int)] w5 (OpenPost w5 G bd j.again) from by
    have := jlopen_any w5 G bd j.dk HST.out.jl.dk [106] (by decide) per j.files j.es [] (by have := HJG.out.1.opIn (by have := HZ.out; omega) (by rw [hpj]; omega); rw [hnj, hpj] at this; exact this) (HMX.out.up HB5.out) (fun hg => by have := HLO.out _ (.inl hg); have := HMX.out.lt; omega)
    have e : j.again = Jl.opened j.dk [106] per j.files j.es [] := by unfold Jl.again; rw [hnj, hpj]
    rw [e]; exact this)
  have HG2 := Lib.hid (HJG.out.1.again (by have := HZ.out; omega) (by rw [hpj]; omega))
  go_wp2_with fail
  refine HOP.out.mono ?_
  rintro r w6 ⟨bj2, G2, F2, rfl, hj6, hG6, hF6, hk6⟩
  have HBX6 := Lib.hid (HBX.out.next hk6 hG6)
  obtain ⟨c0, c1, c1f⟩ := HBX6.out.cells
  have HBX7 := Lib.hid (HBX6.out.set (z : Int))
  have hne6 : ¬ (G2 b7 ∨ F2 b7) := fun hb => hb.elim HBX6.out.n7 (fun hf => by have := hF6 b7 hf; have := HS5.out; omega)
  have HJ7 := Lib.hid (show JlIn (w6.setCell ⟨b7, 1, none⟩ (.int .i64 (z : Int))) G2 F2 bj2 bd j.again from hj6.keep (by simp [World.setCell]) (fun b hb => Below.heap_setCell _ _ _ _ (fun e => hne6 (by have e' : b = b7 := e; rw [← e']; exact hb))))
  obtain ⟨j1, hj1⟩ : ∃ j1, j1 = j.again := ⟨_, rfl⟩
  have hj1e : j1.es = j.es := by rw [hj1]; rfl
  have hj1l : j1.lasts = j.es.length := by rw [hj1]; rfl
  have hj1n : j1.name = [106] := by rw [hj1, ← hnj]; rfl
  have hj1p : j1.per = per := by rw [hj1, ← hpj]; rfl
  rw [← hj1] at HJ7 HG2
  have HJE := Lib.hid hj1e; have HJL := Lib.hid hj1l
  clear hj6 hG6 hF6 hk6 hne6 HOP hj1
  go_upto_region 11 with fail
  obtain ⟨w7, hw7⟩ : ∃ w7, w7 = w6.setCell ⟨b7, 1, none⟩ (.int .i64 (z : Int)) := ⟨_, rfl⟩
  rw [← hw7] at HBX7 HJ7 ⊢
  clear hw7 c0 c1 c1f
  obtain ⟨c0, c1, c1f⟩ := HBX7.out.cells
  have hz7 : w6.heap.size ≤ w6.heap.size := Nat.le_refl _
  have HEV := Lib.hid (bx_even HBX7.out HJ7.out HJE.out (by rw [HJL.out, HZ.out]))
  clear hz7
  go_wp2_with fail
  refine HEV.out.mono ?_
  rintro r w8 ⟨rfl, hb8⟩
  have HBX8 := Lib.hid (HBX7.out.below hb8)
  have HJ8 := Lib.hid (HJ7.out.up hb8)
  clear c0 c1 c1f hb8
  have HCR := Lib.hid (show Calls Tryz.prog 36 #[.pointer (some ⟨bd, 0, none⟩), .slice none 0 0] w8 (CrPost w8 G2 bd (j1.dk.crash [])) from
    dkcrash_any w8 G2 bd j1.dk HJ8.out.dk (fun p hp => by
      have h1 := HG2.out.names
      have h2 := (h1.2 p.1).1 (List.mem_map.2 ⟨p, hp, rfl⟩)
      obtain ⟨k, hk, e⟩ := List.mem_map.1 h2
      have h3 := List.mem_range.1 hk
      rw [HJE.out, hj1p] at h3
      have h4 := nseg_few (n := j.es.length) (p := per) (by omega)
      have h5 := HZ.out
      rw [← e, hj1n]
      have := (segF_len [106] (k := k) (by omega)).2
      simp only [List.length_cons, List.length_nil] at this; omega) none 0 0 [] (Cel.nil _ _ _ _ _ (by unfold maxLen; omega)) (fun b off e => by cases e))
  go_wp2_with fail
  refine HCR.out.mono ?_
  rintro r w9 ⟨rfl, G3, hd9, hG9, hk9⟩
  have HBX9 := Lib.hid (HBX8.out.next hk9 hG9)
  obtain ⟨j2, hj2⟩ : ∃ j2 : Jl, j2 = { j1 with dk := j1.dk.crash [] } := ⟨_, rfl⟩
  have HG3 := Lib.hid (show j2.Good from by rw [hj2]; exact HG2.out.crashed (by rw [HJL.out, HJE.out]) [])
  have hj2e : j2.es = j.es := by rw [hj2]; exact HJE.out
  have hj2n : j2.name = [106] := by rw [hj2]; exact hj1n
  have hj2p : j2.per = per := by rw [hj2]; exact hj1p
  have hd9' : DkIn w9 G3 bd j2.dk := by rw [hj2]; exact hd9
  have HD9 := Lib.hid hd9'
  have HJE2 := Lib.hid hj2e
  clear hd9 hd9' hG9 hk9 HCR hj2
  have HOP := Lib.hid (show Calls Tryz.prog 18 #[.pointer (some ⟨bd, 0, none⟩), .string ⟨#[106]⟩, .int .i64 (per : Int)] w9 (OpenPost w9 G3 bd j2.again) from by
    have := jlopen_any w9 G3 bd j2.dk HD9.out [106] (by decide) per j2.files j2.es [] (by have := HG3.out.opIn (by rw [HJE2.out]; have := HZ.out; omega) (by rw [hj2p]; omega); rw [hj2n, hj2p] at this; exact this) (HMX.out.up HBX9.out.kp) (fun hg => by have := HBX9.out.lo _ hg; have := HMX.out.lt; omega)
    have e : j2.again = Jl.opened j2.dk [106] per j2.files j2.es [] := by unfold Jl.again; rw [hj2n, hj2p]
    rw [e]; exact this)
  go_wp2_with fail
  refine HOP.out.mono ?_
  rintro r w10 ⟨bj3, G4, F4, rfl, hj10, hG10, hF10, hk10⟩
  have HBX10 := Lib.hid (HBX9.out.next hk10 hG10)
  obtain ⟨c0, c1, c1f⟩ := HBX10.out.cells
  have HEV2 := Lib.hid (bx_even HBX10.out hj10 (show j2.es = j.es from HJE2.out) (by show ((j2.es.length : Nat) : Int) = _; rw [HJE2.out, HZ.out]))
  clear hj10 hG10 hF10 hk10 HOP
  go_wp2_with fail
  refine HEV2.out.mono ?_
  rintro r w11 ⟨rfl, hb11⟩
  have HBX11 := Lib.hid (HBX10.out.below hb11)
  clear c0 c1 c1f hb11
  go_wp2
  go_ret
  exact ⟨rfl, HBX11.out.kp⟩
end Go.Proofs.YtejjfhhppjdcaaaGreatDoor
