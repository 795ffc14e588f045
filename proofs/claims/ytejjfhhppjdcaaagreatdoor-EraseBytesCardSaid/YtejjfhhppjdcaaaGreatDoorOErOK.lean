/-
  Layer 31: only.
  Layer 31: keep: a journal of events that all last.
-/
import Derived.Test.YtejjfhhppjdcaaaGreatDoorORef02
import Derived.Test.YtejjfhhppjdcaaaGreatDoorOJAsk
import Derived.Test.YtejjfhhppjdcaaaGreatDoorOEvMay
import Derived.Test.YtejjfhhppjdcaaaGreatDoorOJGood
import Derived.Test.YtejjfhhppjdcaaaGreatDoorOJLives
import Derived.Test.YtejjfhhppjdcaaaGreatDoorOJlRw1
import Derived.Test.YtejjfhhppjdcaaaGreatDoorOSeg
import Derived.Test.YtejjfhhppjdcaaaGreatDoorODk7
import Derived.Test.YtejjfhhppjdcaaaGreatDoorOErLCG
namespace Go.Proofs.YtejjfhhppjdcaaaGreatDoor
open Go.RowKit Go.Maps Go.Sort

theorem wfilt_take2 (es : List Ev) (p : Ev → Bool) (k : Nat) (hk : k < es.length) : (es.take (k + 1)).filter p = (es.take k).filter p ++ (if p es[k] then [es[k]] else []) := by
  rw [List.take_add_one, List.getElem?_eq_getElem hk, List.filter_append]
  congr 1
  simp [List.filter_cons]
def OnRel (w : World) (es : List Ev) (v i : Value) (wr : World) : Prop := ∃ k : Nat, i = .int .i64 k ∧ k ≤ es.length ∧ OwnE wr w.heap.size v ((es.take k).filter mayB) ∧ Below w.heap.size w wr
set_option maxRecDepth 100000 in
set_option maxHeartbeats 2000000 in
theorem only_any (w : World) (A : Option Addr) (n c : Nat) (es : List Ev) (h : Evs w w.heap.size A n c es) (hn : n ≤ 1000) (hsm : ∀ e ∈ es, e.small) (hmx : MaxAt w) :
    Calls Tryz.prog 52 #[.slice A n c] w (SievePost w es mayB) := by
  have HH := Lib.hid h; have HSM := Lib.hid hsm; have HMX := Lib.hid hmx
  have HL := Lib.hid h.len
  clear h hsm hmx
  obtain ⟨i0, hi, hz0, hz1, hz2⟩ := info_parts ev_info
  have HI := Lib.hid hi; have HZ0 := Lib.hid hz0; have HZ1 := Lib.hid hz1; have HZ2 := Lib.hid hz2
  clear hi hz0 hz1 hz2
  have HST := Lib.hid (show OnRel w es (.slice none 0 0) (.int .i64 ((0 : Nat) : Int)) w from ⟨0, rfl, Nat.zero_le _, World.ownsRow_nil _ _ _ _, Below.refl _ _⟩)
  go_enter Tryz.func52, Tryz.ntmps52
  go_wp2
  go_loopw [3, 8] (fun v i wr => OnRel w es v i wr) (fun _ i _ => n - (intOf i).toNat)
  case atStart => exact HST.out
  case round =>
    obtain ⟨k, rfl, hk, ho, hbel⟩ := hrel
    have HO := Lib.hid ho; clear ho HST
    have hkL : k ≤ n := by rw [← HL.out]; exact hk
    by_cases hkn : k < n
    · have hkl : k < es.length := by rw [HL.out]; exact hkn
      obtain ⟨b, off, rfl, hb, hev⟩ := HH.out.ev k hkl
      obtain ⟨e0, e1, e2, e3, e4, e5, e6, e7⟩ := hev.below hbel hb
      have HTK := Lib.hid (wfilt_take2 es mayB k hkl)
      have HSE := Lib.hid (HSM.out _ (List.getElem_mem hkl))
      have hlen : ((es.take k).filter mayB).length ≤ k := by
        have := List.length_filter_le mayB (es.take k); rw [List.length_take] at this; omega
      generalize es[k] = y at *
      have t1 : (k : Int) < n := by omega
      have hb1 : Below wr.heap.size wr (wr.alloc (evObj y)) := (Below.refl _ _).alloc (Nat.le_refl _) _
      have HE1 := Lib.hid (EvIn.new wr y)
      have hs1 : wr.heap.size < (wr.alloc (evObj y)).heap.size := by simp
      have HB1 := Lib.hid (hbel.trans (hb1.mono hbel.size))
      have HO1 := Lib.hid (OwnE.keepB HO.out (fun b' hb' => hb1.block b' (World.ownsRow.lt HO.out b' hb').2))
      have hsr := hbel.size
      clear hev hb1 HO
      go_upto_region 5 with fail
      clear e0 e1 e2 e3 e4 e5 e6 e7
      generalize wr.alloc (evObj y) = w1 at *
      obtain ⟨e0, e1, e2, e3, e4, e5, e6, e7⟩ := HE1.out
      go_wp2_with fail
      refine (may_any w1 y HSE.out (HMX.out.up HB1.out)).mono ?_
      rintro r w2 ⟨rfl, hb2⟩
      have HB2 := Lib.hid (HB1.out.trans (hb2.mono HB1.out.size))
      have HE2 := Lib.hid (HE1.out.below hb2 hs1)
      have HO2 := Lib.hid (OwnE.keepB HO1.out (fun b' hb' => hb2.block b' (World.ownsRow.lt HO1.out b' hb').2))
      clear e0 e1 e2 e3 e4 e5 e6 e7 hb2 HE1 HO1
      cases hm : mayB y
      · have HT : Hid ((es.take (k + 1)).filter mayB = (es.take k).filter mayB) := by have := HTK.out; rw [hm] at this; unfold Hid; simpa using this
        have HREL := Lib.hid (show OnRel w es u3 (.int .i64 ((k + 1 : Nat) : Int)) w2 from ⟨k + 1, rfl, by omega, by rw [HT.out]; exact HO2.out, HB2.out⟩)
        clear hm HTK
        go_wp2
        go_roundw
        case rel => exact HREL.out
        case measure => simp [intOf]; omega
      · have HT : Hid ((es.take (k + 1)).filter mayB = (es.take k).filter mayB ++ [y]) := by have := HTK.out; rw [hm] at this; unfold Hid; simpa using this
        clear hm HTK
        generalize (es.take k).filter mayB = out at *
        have hs2 := HB2.out.size
        obtain ⟨e0, e1, e2, e3, e4, e5, e6, e7⟩ := HE2.out
        go_wp2_with (at_builtin; refine wpList_app (P := Tryz.prog) rfl (.tmp 14) (.tmp 16) 22 rfl 36 i0 _ 8 96 Tryz.underlying22 HI.out HZ0.out HZ1.out HZ2.out rfl (by decide) w.heap.size _ out.length (evCells out) rfl ?c1 (w2.heap.size + 1) _ _ _ y.cells rfl ?c2 (cells_one y) ?c4 ?c5 ?c6 ?_)
        case c1 => exact World.ownsRow.alloc HO2.out _
        case c2 => exact Cel.new w2 _ _ (by unfold maxLen; omega) rfl
        case c4 => unfold maxLen; omega
        case c5 => omega
        case c6 => first | omega | (simp; omega)
        intro v' w3 hown3 hg3 hvv
        have hown4 : OwnE w3 w.heap.size v' (out ++ [y]) := by unfold OwnE; rw [evCells_one, List.length_append]; exact hown3
        have HREL := Lib.hid (show OnRel w es v' (.int .i64 ((k + 1 : Nat) : Int)) w3 from ⟨k + 1, rfl, by omega, by rw [HT.out]; exact hown4, Below.grown (HB2.out.alloc hs2 _) hg3 (by simp; omega) (fun k' hk' => (World.ownsRow.lt HO2.out k' hk').1)⟩)
        clear hown3 hown4 hg3 hvv e0 e1 e2 e3 e4 e5 e6 e7
        go_wp2
        go_roundw
        case rel => exact HREL.out
        case measure => simp [intOf]; omega
    · have t1 : ¬ (k : Int) < n := by omega
      have HF := Lib.hid (show SievePost w es mayB (.returned u3) wr from ⟨u3, rfl, by have := HO.out; rw [List.take_of_length_le (by rw [HL.out]; omega)] at this; exact this, hbel⟩)
      clear HO
      go_wp2
      go_ret
      exact HF.out
end Go.Proofs.YtejjfhhppjdcaaaGreatDoor
namespace Go.Proofs.YtejjfhhppjdcaaaGreatDoor
open Go.RowKit Go.Maps Go.Sort Go.Shelf

def KeepPost (w : World) (ds : List Ev) (per : Nat) (e : Ending) (w' : World) : Prop :=
  ∃ (bd bj : Nat) (G F : Nat → Prop) (j : Jl), e = .returned (.tuple #[.pointer (some ⟨bd, 0, none⟩), .pointer (some ⟨bj, 0, none⟩)]) ∧ JlIn w' G F bj bd j ∧ (∀ b, G b ∨ F b → w.heap.size ≤ b) ∧ RowKit.Below w.heap.size w w' ∧ j.Good ∧ j.es = ds.map some ∧ j.name = [106] ∧ j.per = per ∧ j.lasts = j.es.length
set_option maxRecDepth 100000 in
set_option maxHeartbeats 4000000 in
theorem erkeep_any (w : World) (A : Option Addr) (n c : Nat) (ds : List Ev) (h : Evs w w.heap.size A n c ds) (hn : n ≤ 40) (hal : ds.all mayB = true) (per : Nat) (hp : 1 ≤ per) (hp2 : per ≤ 8) (hmx : MaxAt w) :
    Calls Tryz.prog 53 #[.slice A n c, .int .i64 per] w (KeepPost w ds per) := by
  have HH := Lib.hid h
  have HMX := Lib.hid hmx
  have hml := hmx.lt
  have HL := Lib.hid h.len
  have HAL := Lib.hid hal
  have HSM := Lib.hid (show ∀ e ∈ ds, e.small from fun e he => mayB_small (List.all_eq_true.1 hal e he))
  have HEV := Lib.hid (show ∀ W, RowKit.Below w.heap.size w W → Evs W W.heap.size A n c ds from fun W hW => Cel.more (Cel.below h hW) hW.size)
  clear h hmx hal
  go_enter Tryz.func53, Tryz.ntmps53
  go_wp2_with fail
  refine (dknew_any w).mono ?_
  rintro r w4 ⟨bd, G4, rfl, hd4, hG4, hb4⟩
  have HD4 := Lib.hid hd4; have HG4 := Lib.hid hG4
  have HB4 := Lib.hid hb4
  have hs4 := hb4.size
  clear hd4 hG4 hb4
  go_wp2_with fail
  refine (jlopen0_any w4 G4 bd Dk.new HD4.out rfl rfl [106] (by decide) per (by omega) (by omega)).mono ?_
  rintro r w5 ⟨bj, G5, F5, rfl, hj5, hG5, hF5, hk5⟩
  have HJ5 := Lib.hid hj5
  have HLO5 := Lib.hid (show ∀ b, G5 b ∨ F5 b → w.heap.size ≤ b from fun b hb => by
    rcases hb with hb | hb
    · rcases hG5 b hb with h | h
      · exact HG4.out b h
      · omega
    · have := hF5 b hb; omega)
  have HB5 := Lib.hid (show RowKit.Below w.heap.size w w5 from HB4.out.trans (hk5.below hs4 (fun k hk hg => by have := HG4.out k hg; omega)))
  have hs5 := HB5.out.size
  obtain ⟨j0, hj0⟩ : ∃ j0, j0 = Jl.new Dk.new [106] per := ⟨_, rfl⟩
  rw [← hj0] at HJ5
  have HG0 := Lib.hid (show j0.Good from by rw [hj0]; exact Jl.good_new [106] per (by simp) (by omega))
  have he0 : j0.es = [] := by rw [hj0]; rfl
  have hn0 : j0.name = [106] := by rw [hj0]; rfl
  have hp0 : j0.per = per := by rw [hj0]; rfl
  have HA := Lib.hid (HG0.out.app (l := ds) (by rw [he0, HL.out]; simp; omega) HAL.out)
  have HAPP := Lib.hid (jlapp_any w5 G5 F5 bj bd j0 HJ5.out A n c ds (HEV.out w5 HB5.out) (fun b off e h0 hg => by
    obtain ⟨b', off', e', hb', _⟩ := Cel.cell HH.out h0
    rw [e'] at e; injection e with e; injection e with e
    have := HLO5.out b hg; omega) HSM.out (by rw [he0, HL.out]; simp; omega) (HMX.out.up HB5.out) ⟨fun hg => by have := HLO5.out _ (.inl hg); omega, fun hg => by have := HLO5.out _ (.inr hg); omega⟩)
  rw [HA.out.2.1, HA.out.2.2.1] at HAPP
  obtain ⟨j1, hj1⟩ : ∃ j1, j1 = j0.app ds := ⟨_, rfl⟩
  rw [← hj1] at HAPP HA
  have he1 : j1.es = ds.map some := by have := HA.out.2.2.2.1; rw [he0] at this; simpa using this
  have hn1 : j1.name = [106] := by rw [HA.out.2.2.2.2.1, hn0]
  have hp1 : j1.per = per := by rw [HA.out.2.2.2.2.2.1, hp0]
  have hl0 : j0.es.length = 0 := by rw [he0]; rfl
  rw [hl0] at HAPP
  clear hj5 hG5 hF5 hk5 hj0 he0 hn0 hp0 hj1 hl0
  go_wp2_with fail
  refine HAPP.out.mono ?_
  rintro r w6 ⟨rfl, G6, F6, hj6, hG6, hF6, hk6⟩
  have HJ6 := Lib.hid hj6
  have HLO6 := Lib.hid (show ∀ b, G6 b ∨ F6 b → w.heap.size ≤ b from fun b hb => by
    rcases hb with hb | hb
    · rcases hG6 b hb with h | h
      · exact HLO5.out b (.inl h)
      · omega
    · rcases hF6 b hb with h | h
      · exact HLO5.out b (.inr h)
      · omega)
  have HB6 := Lib.hid (show RowKit.Below w.heap.size w w6 from HB5.out.trans (hk6.below hs5 (fun k hk hg => by have := HLO5.out k hg; omega)))
  have hs6 := HB6.out.size
  have hlm : (ds.map some).length = n := by rw [List.length_map, HL.out]
  have HS1 := Lib.hid (HA.out.1.syncA (by rw [he1, hlm]; omega))
  have HSY := Lib.hid (show Calls Tryz.prog 35 #[.pointer (some ⟨bj, 0, none⟩)] w6 (JlPost w6 G6 F6 bj bd j1.syncA 0) from by
    have := jlsyncA_any w6 G6 F6 bj bd j1 HJ6.out (by have := HJ6.out.1.fl; rw [he1, hlm] at this; omega)
    rw [HS1.out.2.1] at this; exact this)
  obtain ⟨j2, hj2⟩ : ∃ j2, j2 = j1.syncA := ⟨_, rfl⟩
  rw [← hj2] at HS1 HSY
  have he2 : j2.es = ds.map some := by rw [HS1.out.2.2.1, he1]
  have hn2 : j2.name = [106] := by rw [HS1.out.2.2.2.1, hn1]
  have hp2' : j2.per = per := by rw [HS1.out.2.2.2.2.1, hp1]
  have hl2 : j2.lasts = j2.es.length := by rw [HS1.out.2.2.2.2.2, he1, he2]
  have HPP := Lib.hid (show j2.Good ∧ j2.es = ds.map some ∧ j2.name = [106] ∧ j2.per = per ∧ j2.lasts = j2.es.length from ⟨HS1.out.1, he2, hn2, hp2', hl2⟩)
  clear hj6 hG6 hF6 hk6 hj2 he1 hn1 hp1 HAPP he2 hn2 hp2' hl2
  go_wp2_with fail
  refine HSY.out.mono ?_
  rintro r w7 ⟨rfl, G7, F7, hj7, hG7, hF7, hk7⟩
  have HR := Lib.hid (show KeepPost w ds per (.returned (.tuple #[.pointer (some ⟨bd, 0, none⟩), .pointer (some ⟨bj, 0, none⟩)])) w7 from by
    refine ⟨bd, bj, G7, F7, j2, rfl, hj7, fun b hb => ?_, HB6.out.trans (hk7.below hs6 (fun k hk hg => by have := HLO6.out k hg; omega)), HPP.out⟩
    rcases hb with hb | hb
    · rcases hG7 b hb with h | h
      · exact HLO6.out b (.inl h)
      · omega
    · rcases hF7 b hb with h | h
      · exact HLO6.out b (.inr h)
      · omega)
  clear hj7 hG7 hF7 hk7 HSY
  go_wp2
  go_ret2
  exact HR.out
end Go.Proofs.YtejjfhhppjdcaaaGreatDoor
