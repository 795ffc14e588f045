/-
  Layer 2, the document's: Sort.
-/
import Derived.Test.YtoljbbmjbgepiaaGreatDoorMRItk1
import Derived.Test.YtoljbbmjbgepiaaGreatDoorMOrdAll
import Derived.Test.YtoljbbmjbgepiaaGreatDoorMRClk3
import Derived.Deep.RegionHeld3
import Derived.Deep.DeepCutAuto
namespace Go.Proofs.YtoljbbmjbgepiaaGreatDoor
open Go.RowKit Go.Maps Go.Sort

def SrRel (w : World) (es : List Ev) (v i : Value) (wr : World) : Prop := ∃ k : Nat, i = .int .i64 k ∧ k ≤ es.length ∧ OwnE wr w.heap.size v (sortL (es.take k)) ∧ Below w.heap.size w wr
def SrIn (wr : World) (e : Ev) (out : List Ev) (i : Value) (wz : World) : Prop := ∃ j : Nat, i = .int .i64 j ∧ j ≤ out.length ∧ (∀ i (h : i < out.length), j ≤ i → LtE e out[i]) ∧ Below wr.heap.size wr wz
/-- behind the first part of the new row -/
def SrMid (w wz : World) (l : List Ev) (v : Value) (wx : World) : Prop := OwnE wx w.heap.size v l ∧ Below wz.heap.size wz wx ∧ ∀ k, v.ownBlock = some k → wz.heap.size ≤ k

set_option maxRecDepth 100000 in
set_option maxHeartbeats 4000000 in
theorem rsort_any (w : World) (A : Option Addr) (n c : Nat) (es : List Ev) (h : Evs w w.heap.size A n c es) (hn : n ≤ 90000) :
    Calls Tryz.prog 116 #[.slice A n c] w (OwnPost w (sortL es)) := by
  have HH := Lib.hid h; clear h
  have HL := Lib.hid HH.out.len
  obtain ⟨i0, hi, hz0, hz1, hz2⟩ := info_parts ev_info
  have HI := Lib.hid hi; have HZ0 := Lib.hid hz0; have HZ1 := Lib.hid hz1; have HZ2 := Lib.hid hz2
  clear hi hz0 hz1 hz2
  go_enter Tryz.func116, Tryz.ntmps116
  go_wp2
  go_loopw [3, 4] (fun v i wr => SrRel w es v i wr) (fun _ i _ => n - (intOf i).toNat)
  case atStart => exact ⟨0, rfl, Nat.zero_le _, World.ownsRow_lit w #[] 0 (Nat.le_refl _) (by simp [maxLen]) rfl, (Below.refl _ _).alloc (Nat.le_refl _) _⟩
  case round =>
    obtain ⟨k, rfl, hk, hown, hbel⟩ := hrel
    generalize wr = wo at *
    have hkn' : k ≤ n := by have := HL.out; omega
    have hsl : (sortL (es.take k)).length = k := by rw [sortL_length, List.length_take]; omega
    have HSO := Lib.hid (sortL_sorted (es.take k))
    by_cases hkn : k < n
    · have hkl : k < es.length := by have := HL.out; omega
      obtain ⟨b, off, rfl, hb, hev⟩ := HH.out.ev k hkl
      have HTK := Lib.hid (show sortL (es.take (k + 1)) = insE es[k] (sortL (es.take k)) by rw [List.take_add_one, List.getElem?_eq_getElem hkl]; exact sortL_snoc _ _)
      have HEV := Lib.hid (hev.below hbel hb)
      clear hev
      generalize es[k] = e at *
      generalize sortL (es.take k) = out at *
      obtain ⟨B, cp, hv, _⟩ := hown.form
      rw [hsl] at hv
      subst hv
      have HO := Lib.hid hown; have HLO := Lib.hid hsl
      have hsz := hbel.size
      clear hown
      have t1 : (k : Int) < n := by omega
      go_wp2
      go_loopw [5] (fun i wz => SrIn wo e out i wz) (fun i _ => (intOf i).toNat)
      case atStart => exact ⟨k, rfl, by omega, fun i h1 h2 => by omega, Below.refl _ _⟩
      case round =>
        obtain ⟨j, rfl, hjo, hafter, hbzz⟩ := hrel
        generalize wr = wz at *
        have hbwz : Below w.heap.size w wz := hbel.trans (hbzz.mono hbel.size)
        have HEZ := Lib.hid (HEV.out.below hbzz (by omega))
        have hbz : b < wz.heap.size := by have := hbzz.size; omega
        have HOZ := Lib.hid (show OwnE wz w.heap.size (.slice B k cp) out from ownsRow_below HO.out hbzz (Nat.le_refl _))
        have HEO := Lib.hid (show Evs wz wz.heap.size B k cp out from by have := HOZ.out; unfold OwnE at this; rw [HLO.out] at this; exact Cel.of_own this)
        have hszz := hbzz.size
        have HAF := Lib.hid hafter
        clear hafter
        have hjk : j ≤ k := by have := HLO.out; omega
        by_cases hj0 : 0 < j
        · obtain ⟨b2, off2, hB, hb2, hev2⟩ := HEO.out.ev (j - 1) (by omega)
          have HB2 := Lib.hid hev2
          have HPP := Lib.hid (show ¬ LtE e (out[j - 1]'(by omega)) → j = posE e out from fun h => pos_back HSO.out j hjo HAF.out (fun _ => h))
          have HNX := Lib.hid (show LtE e (out[j - 1]'(by omega)) → ∀ i (h : i < out.length), j - 1 ≤ i → LtE e out[i] from fun h i hi h2 => by
            by_cases e0 : i = j - 1
            · subst e0; exact h
            · exact HAF.out i hi (by omega))
          generalize out[j - 1]'(by omega) = y at *
          obtain ⟨e0, e1, e2, e3, e4, e5, e6, e7⟩ := HEZ.out
          obtain ⟨g0, g1, g2, g3, g4, g5, g6, g7⟩ := HB2.out
          have d0 : decide (0 < (j : Int)) = true := decide_eq_true (by omega)
          have d1 : (0 : Int) < (j : Int) := by omega
          have d0' : decide (0 < j) = true := decide_eq_true hj0
          have ej : (j : Int) - 1 = ((j - 1 : Nat) : Int) := by omega
          have j1 : ((j - 1 : Nat) : Int) < k := by omega
          have wj : IntKind.i64.wrap ((j - 1 : Nat) : Int) = ((j - 1 : Nat) : Int) := IntWalk.i64_in _ (by omega)
          subst hB
          go_wp2
          go_still_tail 12, (by kernel_rfl)
          change wpList _ _ _ _ _ (wz.drewN 1)
          have hbq : Below wz.heap.size wz (wz.drewN 1) := below_drewN (Below.refl _ _) 1
          clear e0 e1 e2 e3 e4 e5 e6 e7 g0 g1 g2 g3 g4 g5 g6 g7
          generalize wz.drewN 1 = wq at *
          go_wp2_with fail
          refine (rless_any wq e y).mono ?_
          rintro r wy ⟨rfl, hbqy⟩
          have hby : Below wz.heap.size wz wy := hbq.trans (hbqy.mono hbq.size)
          clear hbqy hbq
          by_cases hlt : LtE e y
          · have HR := Lib.hid (show SrIn wo e out (.int .i64 ((j - 1 : Nat) : Int)) wy from ⟨j - 1, rfl, by omega, HNX.out hlt, hbzz.trans (hby.mono hbzz.size)⟩)
            rw [decide_eq_true hlt]
            clear hlt
            go_wp2
            go_roundw
            case rel => exact HR.out
            case measure => simp [intOf]; omega
          · have hpos := HPP.out hlt
            rw [decide_eq_false hlt]
            clear hlt d0 d1 d0' ej j1 wj hj0
            have hszy := hby.size
            have hbwy : Below w.heap.size w wy := hbwz.trans (hby.mono hbwz.size)
            have HEZy := Lib.hid (HEZ.out.below hby (by omega))
            have hbzy : b < wy.heap.size := by omega
            have HEOy := Lib.hid (show Evs wy wy.heap.size (some ⟨b2, off2, none⟩) k cp out from Cel.more (Cel.below HEO.out hby) hby.size)
            have HPOS := Lib.hid hpos
            have hjc : j ≤ cp := by have := Cel.cap HEOy.out; omega
            have hji : (j : Int) ≤ k := by omega
            obtain ⟨e0, e1, e2, e3, e4, e5, e6, e7⟩ := HEZy.out
            clear hpos
            go_upto_region 8 with fail
            go_cut [6] (fun v wx => SrMid w wy (out.take j ++ [e]) v wx)
            case first =>
              have HWA := Lib.hid (show Below wy.heap.size wy ((wy.alloc (.cells #[] 28)).drew) from below_drew ((Below.refl _ _).alloc (Nat.le_refl _) _))
              have HWB := Lib.hid (show Below wy.heap.size wy (((wy.alloc (.cells #[] 28)).alloc (evObj e)).drew) from below_drew (((Below.refl _ _).alloc (Nat.le_refl _) _).alloc (by simp) _))
              have HWC := Lib.hid (show Below wy.heap.size wy (((wy.alloc (evObj e)).alloc (.cells #[] 28)).drew) from below_drew (((Below.refl _ _).alloc (Nat.le_refl _) _).alloc (by simp) _))
              have HSK := Lib.hid (show ∀ W, Below wy.heap.size wy W → Cel W wy.heap.size 8 (some ⟨b2, off2, none⟩) j cp (evCells (out.take j)) from fun W hW => by rw [← evCells_takeN]; exact Cel.upto (Cel.below HEOy.out hW) j hjk)
              have HSS := Lib.hid (show ∀ W, Below wy.heap.size wy W → EvAt W b (off + k * 8) e from fun W hW => HEZy.out.below hW hbzy)
              have HOA := Lib.hid (show ((wy.alloc (.cells #[] 28)).drew).ownsRow w.heap.size 28 8 (.slice (some ⟨wy.heap.size, 0, none⟩) 0 0) 0 [] from World.ownsRow_lit wy #[] 0 (by omega) (by simp [maxLen]) rfl)
              have HOB := Lib.hid (show (((wy.alloc (.cells #[] 28)).alloc (evObj e)).drew).ownsRow w.heap.size 28 8 (.slice (some ⟨wy.heap.size, 0, none⟩) 0 0) 0 [] from World.ownsRow.alloc HOA.out _)
              have HOC := Lib.hid (show (((wy.alloc (evObj e)).alloc (.cells #[] 28)).drew).ownsRow w.heap.size 28 8 (.slice (some ⟨wy.heap.size + 1, 0, none⟩) 0 0) 0 [] from by
                have := World.ownsRow_lit (wy.alloc (evObj e)) (base := w.heap.size) (e := 28) (size := 8) #[] 0 (by first | omega | (simp; done) | (simp; omega)) (by simp [maxLen]) rfl
                rw [show (wy.alloc (evObj e)).heap.size = wy.heap.size + 1 by simp] at this
                exact this)
              have HNB := Lib.hid (show Cel (((wy.alloc (.cells #[] 28)).alloc (evObj e)).drew) (wy.heap.size + 2) 8 (some ⟨wy.heap.size + 1, 0, none⟩) 1 1 e.cells from by
                have := Cel.new (size := 8) (n := 1) (wy.alloc (.cells #[] 28)) e.cells.toArray 28 (by unfold maxLen; omega) rfl
                rw [show (wy.alloc (.cells #[] 28)).heap.size = wy.heap.size + 1 by simp] at this
                exact Cel.drewN this 1)
              have HNC := Lib.hid (show Cel (((wy.alloc (evObj e)).alloc (.cells #[] 28)).drew) (wy.heap.size + 1) 8 (some ⟨wy.heap.size, 0, none⟩) 1 1 e.cells from by
                have := Cel.new (size := 8) (n := 1) wy e.cells.toArray 28 (by unfold maxLen; omega) rfl
                exact Cel.drewN (Cel.alloc this (by simp) _) 1)
              go_wp2
              go_region_held3 (fun wx => wx.cell? ⟨b, off + k * 8, none⟩ = some (.string ⟨e.src.toArray⟩) ∧ wx.cell? ⟨b, off + k * 8 + 1, none⟩ = some (.int .i64 e.num) ∧ wx.cell? ⟨b, off + k * 8 + 2, none⟩ = some (.int .i64 e.at_) ∧ wx.cell? ⟨b, off + k * 8 + 3, none⟩ = some (.int .i64 e.kind) ∧ wx.cell? ⟨b, off + k * 8 + 4, none⟩ = some (.string ⟨e.per.toArray⟩) ∧ wx.cell? ⟨b, off + k * 8 + 5, none⟩ = some (.string ⟨e.item.toArray⟩) ∧ wx.cell? ⟨b, off + k * 8 + 6, none⟩ = some (.int .i64 e.val) ∧ wx.cell? ⟨b, off + k * 8 + 7, none⟩ = some (.string ⟨e.text.toArray⟩)) (first | assumption | go_keep) (first
                | (refine step_app rfl (.tmp 32) (.tmp 35) 22 rfl 28 i0 _ 8 96 Tryz.underlying22 HI.out HZ0.out HZ1.out HZ2.out rfl (by decide) w.heap.size (.slice (some ⟨wy.heap.size, 0, none⟩) 0 0) 0 [] rfl HOA.out wy.heap.size _ _ _ (evCells (out.take j)) rfl (HSK.out _ HWA.out) (cells_ones _) (by unfold maxLen; omega) (by omega) (by first | omega | (simp; done) | (simp; omega)) ?_; intro v6 w6 ho6 hg6 hv6; have HO6 := Lib.hid ho6; have HB6 := Lib.hid (show Below wy.heap.size wy w6 from Below.grown HWA.out hg6 HWA.out.size (fun k hk => by simp [Value.ownBlock] at hk; omega)); have hS6 := HSS.out w6 HB6.out; unfold EvAt at hS6; have HP6 := Lib.hid (show ∀ k, v6.ownBlock = some k → wy.heap.size ≤ k from fun k hk => by rcases hv6 with h | h <;> (rw [h] at hk; simp [Value.ownBlock] at hk; omega)); clear ho6 hg6 hv6)
                | (refine step_app rfl (.tmp 32) (.tmp 35) 22 rfl 28 i0 _ 8 96 Tryz.underlying22 HI.out HZ0.out HZ1.out HZ2.out rfl (by decide) w.heap.size (.slice (some ⟨wy.heap.size, 0, none⟩) 0 0) 0 [] rfl HOB.out wy.heap.size _ _ _ (evCells (out.take j)) rfl (HSK.out _ HWB.out) (cells_ones _) (by unfold maxLen; omega) (by omega) (by first | omega | (simp; done) | (simp; omega)) ?_; intro v6 w6 ho6 hg6 hv6; have HO6 := Lib.hid ho6; have HB6 := Lib.hid (show Below wy.heap.size wy w6 from Below.grown HWB.out hg6 HWB.out.size (fun k hk => by simp [Value.ownBlock] at hk; omega)); have hS6 := HSS.out w6 HB6.out; unfold EvAt at hS6; have HN6 := Lib.hid (show Cel w6 (wy.heap.size + 2) 8 (some ⟨wy.heap.size + 1, 0, none⟩) 1 1 e.cells from Cel.stay (S := fun q => q = wy.heap.size + 1) HNB.out (fun a ha _ => by injection ha with ha; rw [← ha]) (Nat.le_refl _) (fun b off hb _ => hg6.cell_far ⟨b, off, none⟩ (by first | omega | (simp; done) | (simp; omega)) (by simp [Value.ownBlock]; omega))); have HP6 := Lib.hid (show ∀ k, v6.ownBlock = some k → wy.heap.size ≤ k from fun k hk => by rcases hv6 with h | h <;> (rw [h] at hk; simp [Value.ownBlock] at hk; omega)); clear ho6 hg6 hv6)
                | (refine step_app rfl (.tmp 32) (.tmp 35) 22 rfl 28 i0 _ 8 96 Tryz.underlying22 HI.out HZ0.out HZ1.out HZ2.out rfl (by decide) w.heap.size (.slice (some ⟨wy.heap.size + 1, 0, none⟩) 0 0) 0 [] rfl HOC.out wy.heap.size _ _ _ (evCells (out.take j)) rfl (HSK.out _ HWC.out) (cells_ones _) (by unfold maxLen; omega) (by omega) (by first | omega | (simp; done) | (simp; omega)) ?_; intro v6 w6 ho6 hg6 hv6; have HO6 := Lib.hid ho6; have HB6 := Lib.hid (show Below wy.heap.size wy w6 from Below.grown HWC.out hg6 HWC.out.size (fun k hk => by simp [Value.ownBlock] at hk; omega)); have hS6 := HSS.out w6 HB6.out; unfold EvAt at hS6; have HN6 := Lib.hid (show Cel w6 (wy.heap.size + 1) 8 (some ⟨wy.heap.size, 0, none⟩) 1 1 e.cells from Cel.stay (S := fun q => q = wy.heap.size) HNC.out (fun a ha _ => by injection ha with ha; rw [← ha]) (Nat.le_refl _) (fun b off hb _ => hg6.cell_far ⟨b, off, none⟩ (by first | omega | (simp; done) | (simp; omega)) (by simp [Value.ownBlock]; omega))); have HP6 := Lib.hid (show ∀ k, v6.ownBlock = some k → wy.heap.size ≤ k from fun k hk => by rcases hv6 with h | h <;> (rw [h] at hk; simp [Value.ownBlock] at hk; omega)); clear ho6 hg6 hv6)
                | (refine step_app rfl (.tmp 36) (.tmp 41) 22 rfl 28 i0 _ 8 96 Tryz.underlying22 HI.out HZ0.out HZ1.out HZ2.out rfl (by decide) w.heap.size v6 (0 + j) ([] ++ evCells (out.take j)) rfl HO6.out _ _ _ _ e.cells rfl HN6.out (cells_one e) (by unfold maxLen; omega) (by omega) (by have := HB6.out.size; omega) ?_; intro v7 w7 ho7 hg7 hv7; have HO7 := Lib.hid ho7; have HB7 := Lib.hid (show Below wy.heap.size wy w7 from Below.grown HB6.out hg7 (by have := HB6.out.size; first | omega | (simp; omega)) (fun k hk => HP6.out k hk)); have hS7 := HSS.out w7 HB7.out; unfold EvAt at hS7; have HP7 := Lib.hid (show ∀ k, v7.ownBlock = some k → wy.heap.size ≤ k from fun k hk => by rcases hv7 with h | h; exact HP6.out k (by rw [← h]; exact hk); (rw [h] at hk; have := HB6.out.size; simp at hk; omega)); clear ho7 hg7 hv7)
                | (refine step_app rfl (.tmp 36) (.tmp 41) 22 rfl 28 i0 _ 8 96 Tryz.underlying22 HI.out HZ0.out HZ1.out HZ2.out rfl (by decide) w.heap.size v6 (0 + j) ([] ++ evCells (out.take j)) rfl (World.ownsRow.alloc HO6.out _) (w6.heap.size + 1) _ _ _ e.cells rfl (Cel.new (size := 8) (n := 1) w6 e.cells.toArray _ (by unfold maxLen; omega) rfl) (cells_one e) (by unfold maxLen; omega) (by omega) (by have := HB6.out.size; simp; omega) ?_; intro v7 w7 ho7 hg7 hv7; have HO7 := Lib.hid ho7; have HB7 := Lib.hid (show Below wy.heap.size wy w7 from Below.grown (HB6.out.alloc HB6.out.size _) hg7 (by have := HB6.out.size; first | omega | (simp; omega)) (fun k hk => HP6.out k hk)); have hS7 := HSS.out w7 HB7.out; unfold EvAt at hS7; have HP7 := Lib.hid (show ∀ k, v7.ownBlock = some k → wy.heap.size ≤ k from fun k hk => by rcases hv7 with h | h; exact HP6.out k (by rw [← h]; exact hk); (rw [h] at hk; have := HB6.out.size; simp at hk; omega)); clear ho7 hg7 hv7))
              all_goals
                have HMID := Lib.hid (show SrMid w wy (out.take j ++ [e]) v7 w7 from ⟨by
                  unfold OwnE
                  rw [evCells_one, List.length_append, List.length_take, HLO.out]
                  have := HO7.out
                  rw [show min j k + [e].length = 0 + j + 1 by first | (simp; done) | (simp; omega)]
                  exact this, HB7.out, HP7.out⟩)
                go_wp2_with fail
                go_meet
                exact HMID.out
            case rest =>
              obtain ⟨ho8, hb8, hp8⟩ := hcut
              clear e0 e1 e2 e3 e4 e5 e6 e7
              have hl8 : (out.take j ++ [e]).length = j + 1 := by have := HLO.out; first | (simp; done) | (simp; omega)
              obtain ⟨B8, cp8, hv8, _⟩ := ho8.form
              subst hv8
              have HO8 := Lib.hid ho8
              have hbw8 : Below w.heap.size w wc := hbwy.trans (hb8.mono hbwy.size)
              have hs8 := hb8.size
              have HP8 := Lib.hid (show ∀ q, (Value.slice B8 (j + 1) cp8).ownBlock = some q → wy.heap.size ≤ q from fun q hq => hp8 q (by rw [hl8]; exact hq))
              have HE8 := Lib.hid (show Cel wc wy.heap.size 8 (if cp = j then (some ⟨b2, off2, none⟩) else Option.map (fun x : Addr => x.add (j * 8)) (some ⟨b2, off2, none⟩)) (k - j) (cp - j) (evCells (out.drop j)) by
                rw [← evCells_dropN]; exact Cel.from_ (Cel.below HEOy.out hb8) j (by omega))
              have hkcp := Cel.cap HEOy.out
              rw [hl8]
              clear ho8
              by_cases hcj : cp = j
              · rw [if_pos hcj] at HE8
                go_wp2_with (at_builtin; refine wpList_app (P := Tryz.prog) rfl (.tmp 43) (.tmp 46) 22 rfl 28 i0 _ 8 96 Tryz.underlying22 HI.out HZ0.out HZ1.out HZ2.out rfl (by decide) w.heap.size _ (j + 1) (evCells (out.take j ++ [e])) rfl ?c1 wy.heap.size _ _ _ (evCells (out.drop j)) rfl ?c2 ?c3 ?c4 ?c5 ?c6 ?_)
                case c1 => (have := HO8.out; unfold OwnE at this; rw [hl8] at this; exact this)
                case c2 => first | exact HE8.out | (have h8 := HE8.out; simpa [hcj] using h8)
                case c3 => exact cells_ones _
                case c4 => unfold maxLen; omega
                case c5 => omega
                case c6 => omega
                intro v9 w9 ho9 hg9 _
                have hb9 : Below w.heap.size w w9 := Below.grown hbw8 hg9 (by omega) (fun q hq => by have := HP8.out q hq; omega)
                have HR := Lib.hid (show SrRel w es v9 (.int .i64 ((k + 1 : Nat) : Int)) w9 from ⟨k + 1, rfl, by have := HL.out; omega, by
                  rw [HTK.out, insE_eq, ← HPOS.out]
                  unfold OwnE
                  rw [evCells_append (out.take j ++ [e]) (out.drop j)]
                  have e9 : (out.take j ++ [e] ++ out.drop j).length = j + 1 + (k - j) := by
                    rw [List.length_append, hl8, List.length_drop, HLO.out]
                  rw [e9]
                  first | exact ho9 | (have h9 := ho9; simpa using h9), hb9⟩)
                clear ho9 hg9 hb9
                go_wp2
                go_roundw
                case rel => exact HR.out
                case measure => simp [intOf]; omega
              · rw [if_neg hcj] at HE8
                go_wp2_with (at_builtin; refine wpList_app (P := Tryz.prog) rfl (.tmp 43) (.tmp 46) 22 rfl 28 i0 _ 8 96 Tryz.underlying22 HI.out HZ0.out HZ1.out HZ2.out rfl (by decide) w.heap.size _ (j + 1) (evCells (out.take j ++ [e])) rfl ?c1 wy.heap.size _ _ _ (evCells (out.drop j)) rfl ?c2 ?c3 ?c4 ?c5 ?c6 ?_)
                case c1 => (have := HO8.out; unfold OwnE at this; rw [hl8] at this; exact this)
                case c2 => first | exact HE8.out | (have h8 := HE8.out; simpa [Addr.add_mid, hcj] using h8)
                case c3 => exact cells_ones _
                case c4 => unfold maxLen; omega
                case c5 => omega
                case c6 => omega
                intro v9 w9 ho9 hg9 _
                have hb9 : Below w.heap.size w w9 := Below.grown hbw8 hg9 (by omega) (fun q hq => by have := HP8.out q hq; omega)
                have HR := Lib.hid (show SrRel w es v9 (.int .i64 ((k + 1 : Nat) : Int)) w9 from ⟨k + 1, rfl, by have := HL.out; omega, by
                  rw [HTK.out, insE_eq, ← HPOS.out]
                  unfold OwnE
                  rw [evCells_append (out.take j ++ [e]) (out.drop j)]
                  have e9 : (out.take j ++ [e] ++ out.drop j).length = j + 1 + (k - j) := by
                    rw [List.length_append, hl8, List.length_drop, HLO.out]
                  rw [e9]
                  first | exact ho9 | (have h9 := ho9; simpa using h9), hb9⟩)
                clear ho9 hg9 hb9
                go_wp2
                go_roundw
                case rel => exact HR.out
                case measure => simp [intOf]; omega
        · have hj00 : j = 0 := by omega
          subst hj00
          have hpos : 0 = posE e out := pos_back HSO.out 0 hjo HAF.out (fun h => by omega)
          clear hj0
          go_wp2
          go_quiet (fail)
          have hby : Below wz.heap.size wz (wz.drewN nq) := below_drewN (Below.refl _ _) nq
          generalize wz.drewN nq = wy at *
          have hszy := hby.size
          have hbwy : Below w.heap.size w wy := hbwz.trans (hby.mono hbwz.size)
          have HEZy := Lib.hid (HEZ.out.below hby (by omega))
          have hbzy : b < wy.heap.size := by omega
          have HEOy := Lib.hid (show Evs wy wy.heap.size B k cp out from Cel.more (Cel.below HEO.out hby) hby.size)
          have HPOS := Lib.hid hpos
          have hjc : 0 ≤ cp := by have := Cel.cap HEOy.out; omega
          have hji : (0 : Int) ≤ k := by omega
          obtain ⟨e0, e1, e2, e3, e4, e5, e6, e7⟩ := HEZy.out
          clear hpos
          go_upto_region 8 with fail
          go_cut [6] (fun v wx => SrMid w wy (out.take 0 ++ [e]) v wx)
          case first =>
            have HWA := Lib.hid (show Below wy.heap.size wy ((wy.alloc (.cells #[] 28)).drew) from below_drew ((Below.refl _ _).alloc (Nat.le_refl _) _))
            have HWB := Lib.hid (show Below wy.heap.size wy (((wy.alloc (.cells #[] 28)).alloc (evObj e)).drew) from below_drew (((Below.refl _ _).alloc (Nat.le_refl _) _).alloc (by simp) _))
            have HWC := Lib.hid (show Below wy.heap.size wy (((wy.alloc (evObj e)).alloc (.cells #[] 28)).drew) from below_drew (((Below.refl _ _).alloc (Nat.le_refl _) _).alloc (by simp) _))
            have HSK := Lib.hid (show ∀ W, Below wy.heap.size wy W → Cel W wy.heap.size 8 B 0 cp (evCells (out.take 0)) from fun W hW => by rw [← evCells_takeN]; exact Cel.upto (Cel.below HEOy.out hW) 0 hjk)
            have HSS := Lib.hid (show ∀ W, Below wy.heap.size wy W → EvAt W b (off + k * 8) e from fun W hW => HEZy.out.below hW hbzy)
            have HOA := Lib.hid (show ((wy.alloc (.cells #[] 28)).drew).ownsRow w.heap.size 28 8 (.slice (some ⟨wy.heap.size, 0, none⟩) 0 0) 0 [] from World.ownsRow_lit wy #[] 0 (by omega) (by simp [maxLen]) rfl)
            have HOB := Lib.hid (show (((wy.alloc (.cells #[] 28)).alloc (evObj e)).drew).ownsRow w.heap.size 28 8 (.slice (some ⟨wy.heap.size, 0, none⟩) 0 0) 0 [] from World.ownsRow.alloc HOA.out _)
            have HOC := Lib.hid (show (((wy.alloc (evObj e)).alloc (.cells #[] 28)).drew).ownsRow w.heap.size 28 8 (.slice (some ⟨wy.heap.size + 1, 0, none⟩) 0 0) 0 [] from by
              have := World.ownsRow_lit (wy.alloc (evObj e)) (base := w.heap.size) (e := 28) (size := 8) #[] 0 (by first | omega | (simp; done) | (simp; omega)) (by simp [maxLen]) rfl
              rw [show (wy.alloc (evObj e)).heap.size = wy.heap.size + 1 by simp] at this
              exact this)
            have HNB := Lib.hid (show Cel (((wy.alloc (.cells #[] 28)).alloc (evObj e)).drew) (wy.heap.size + 2) 8 (some ⟨wy.heap.size + 1, 0, none⟩) 1 1 e.cells from by
              have := Cel.new (size := 8) (n := 1) (wy.alloc (.cells #[] 28)) e.cells.toArray 28 (by unfold maxLen; omega) rfl
              rw [show (wy.alloc (.cells #[] 28)).heap.size = wy.heap.size + 1 by simp] at this
              exact Cel.drewN this 1)
            have HNC := Lib.hid (show Cel (((wy.alloc (evObj e)).alloc (.cells #[] 28)).drew) (wy.heap.size + 1) 8 (some ⟨wy.heap.size, 0, none⟩) 1 1 e.cells from by
              have := Cel.new (size := 8) (n := 1) wy e.cells.toArray 28 (by unfold maxLen; omega) rfl
              exact Cel.drewN (Cel.alloc this (by simp) _) 1)
            go_wp2
            go_region_held3 (fun wx => wx.cell? ⟨b, off + k * 8, none⟩ = some (.string ⟨e.src.toArray⟩) ∧ wx.cell? ⟨b, off + k * 8 + 1, none⟩ = some (.int .i64 e.num) ∧ wx.cell? ⟨b, off + k * 8 + 2, none⟩ = some (.int .i64 e.at_) ∧ wx.cell? ⟨b, off + k * 8 + 3, none⟩ = some (.int .i64 e.kind) ∧ wx.cell? ⟨b, off + k * 8 + 4, none⟩ = some (.string ⟨e.per.toArray⟩) ∧ wx.cell? ⟨b, off + k * 8 + 5, none⟩ = some (.string ⟨e.item.toArray⟩) ∧ wx.cell? ⟨b, off + k * 8 + 6, none⟩ = some (.int .i64 e.val) ∧ wx.cell? ⟨b, off + k * 8 + 7, none⟩ = some (.string ⟨e.text.toArray⟩)) (first | assumption | go_keep) (first
              | (refine step_app rfl (.tmp 32) (.tmp 35) 22 rfl 28 i0 _ 8 96 Tryz.underlying22 HI.out HZ0.out HZ1.out HZ2.out rfl (by decide) w.heap.size (.slice (some ⟨wy.heap.size, 0, none⟩) 0 0) 0 [] rfl HOA.out wy.heap.size _ _ _ (evCells (out.take 0)) rfl (HSK.out _ HWA.out) (cells_ones _) (by unfold maxLen; omega) (by omega) (by first | omega | (simp; done) | (simp; omega)) ?_; intro v6 w6 ho6 hg6 hv6; have HO6 := Lib.hid ho6; have HB6 := Lib.hid (show Below wy.heap.size wy w6 from Below.grown HWA.out hg6 HWA.out.size (fun k hk => by simp [Value.ownBlock] at hk; omega)); have hS6 := HSS.out w6 HB6.out; unfold EvAt at hS6; have HP6 := Lib.hid (show ∀ k, v6.ownBlock = some k → wy.heap.size ≤ k from fun k hk => by rcases hv6 with h | h <;> (rw [h] at hk; simp [Value.ownBlock] at hk; omega)); clear ho6 hg6 hv6)
              | (refine step_app rfl (.tmp 32) (.tmp 35) 22 rfl 28 i0 _ 8 96 Tryz.underlying22 HI.out HZ0.out HZ1.out HZ2.out rfl (by decide) w.heap.size (.slice (some ⟨wy.heap.size, 0, none⟩) 0 0) 0 [] rfl HOB.out wy.heap.size _ _ _ (evCells (out.take 0)) rfl (HSK.out _ HWB.out) (cells_ones _) (by unfold maxLen; omega) (by omega) (by first | omega | (simp; done) | (simp; omega)) ?_; intro v6 w6 ho6 hg6 hv6; have HO6 := Lib.hid ho6; have HB6 := Lib.hid (show Below wy.heap.size wy w6 from Below.grown HWB.out hg6 HWB.out.size (fun k hk => by simp [Value.ownBlock] at hk; omega)); have hS6 := HSS.out w6 HB6.out; unfold EvAt at hS6; have HN6 := Lib.hid (show Cel w6 (wy.heap.size + 2) 8 (some ⟨wy.heap.size + 1, 0, none⟩) 1 1 e.cells from Cel.stay (S := fun q => q = wy.heap.size + 1) HNB.out (fun a ha _ => by injection ha with ha; rw [← ha]) (Nat.le_refl _) (fun b off hb _ => hg6.cell_far ⟨b, off, none⟩ (by first | omega | (simp; done) | (simp; omega)) (by simp [Value.ownBlock]; omega))); have HP6 := Lib.hid (show ∀ k, v6.ownBlock = some k → wy.heap.size ≤ k from fun k hk => by rcases hv6 with h | h <;> (rw [h] at hk; simp [Value.ownBlock] at hk; omega)); clear ho6 hg6 hv6)
              | (refine step_app rfl (.tmp 32) (.tmp 35) 22 rfl 28 i0 _ 8 96 Tryz.underlying22 HI.out HZ0.out HZ1.out HZ2.out rfl (by decide) w.heap.size (.slice (some ⟨wy.heap.size + 1, 0, none⟩) 0 0) 0 [] rfl HOC.out wy.heap.size _ _ _ (evCells (out.take 0)) rfl (HSK.out _ HWC.out) (cells_ones _) (by unfold maxLen; omega) (by omega) (by first | omega | (simp; done) | (simp; omega)) ?_; intro v6 w6 ho6 hg6 hv6; have HO6 := Lib.hid ho6; have HB6 := Lib.hid (show Below wy.heap.size wy w6 from Below.grown HWC.out hg6 HWC.out.size (fun k hk => by simp [Value.ownBlock] at hk; omega)); have hS6 := HSS.out w6 HB6.out; unfold EvAt at hS6; have HN6 := Lib.hid (show Cel w6 (wy.heap.size + 1) 8 (some ⟨wy.heap.size, 0, none⟩) 1 1 e.cells from Cel.stay (S := fun q => q = wy.heap.size) HNC.out (fun a ha _ => by injection ha with ha; rw [← ha]) (Nat.le_refl _) (fun b off hb _ => hg6.cell_far ⟨b, off, none⟩ (by first | omega | (simp; done) | (simp; omega)) (by simp [Value.ownBlock]; omega))); have HP6 := Lib.hid (show ∀ k, v6.ownBlock = some k → wy.heap.size ≤ k from fun k hk => by rcases hv6 with h | h <;> (rw [h] at hk; simp [Value.ownBlock] at hk; omega)); clear ho6 hg6 hv6)
              | (refine step_app rfl (.tmp 36) (.tmp 41) 22 rfl 28 i0 _ 8 96 Tryz.underlying22 HI.out HZ0.out HZ1.out HZ2.out rfl (by decide) w.heap.size v6 (0 + 0) ([] ++ evCells (out.take 0)) rfl HO6.out _ _ _ _ e.cells rfl HN6.out (cells_one e) (by unfold maxLen; omega) (by omega) (by have := HB6.out.size; omega) ?_; intro v7 w7 ho7 hg7 hv7; have HO7 := Lib.hid ho7; have HB7 := Lib.hid (show Below wy.heap.size wy w7 from Below.grown HB6.out hg7 (by have := HB6.out.size; first | omega | (simp; omega)) (fun k hk => HP6.out k hk)); have hS7 := HSS.out w7 HB7.out; unfold EvAt at hS7; have HP7 := Lib.hid (show ∀ k, v7.ownBlock = some k → wy.heap.size ≤ k from fun k hk => by rcases hv7 with h | h; exact HP6.out k (by rw [← h]; exact hk); (rw [h] at hk; have := HB6.out.size; simp at hk; omega)); clear ho7 hg7 hv7)
              | (refine step_app rfl (.tmp 36) (.tmp 41) 22 rfl 28 i0 _ 8 96 Tryz.underlying22 HI.out HZ0.out HZ1.out HZ2.out rfl (by decide) w.heap.size v6 (0 + 0) ([] ++ evCells (out.take 0)) rfl (World.ownsRow.alloc HO6.out _) (w6.heap.size + 1) _ _ _ e.cells rfl (Cel.new (size := 8) (n := 1) w6 e.cells.toArray _ (by unfold maxLen; omega) rfl) (cells_one e) (by unfold maxLen; omega) (by omega) (by have := HB6.out.size; simp; omega) ?_; intro v7 w7 ho7 hg7 hv7; have HO7 := Lib.hid ho7; have HB7 := Lib.hid (show Below wy.heap.size wy w7 from Below.grown (HB6.out.alloc HB6.out.size _) hg7 (by have := HB6.out.size; first | omega | (simp; omega)) (fun k hk => HP6.out k hk)); have hS7 := HSS.out w7 HB7.out; unfold EvAt at hS7; have HP7 := Lib.hid (show ∀ k, v7.ownBlock = some k → wy.heap.size ≤ k from fun k hk => by rcases hv7 with h | h; exact HP6.out k (by rw [← h]; exact hk); (rw [h] at hk; have := HB6.out.size; simp at hk; omega)); clear ho7 hg7 hv7))
            all_goals
              have HMID := Lib.hid (show SrMid w wy (out.take 0 ++ [e]) v7 w7 from ⟨by
                unfold OwnE
                rw [evCells_one, List.length_append, List.length_take, HLO.out]
                have := HO7.out
                rw [show min 0 k + [e].length = 0 + 0 + 1 by first | (simp; done) | (simp; omega)]
                exact this, HB7.out, HP7.out⟩)
              go_wp2_with fail
              go_meet
              exact HMID.out
          case rest =>
            obtain ⟨ho8, hb8, hp8⟩ := hcut
            clear e0 e1 e2 e3 e4 e5 e6 e7
            have hl8 : (out.take 0 ++ [e]).length = 0 + 1 := by have := HLO.out; first | (simp; done) | (simp; omega)
            obtain ⟨B8, cp8, hv8, _⟩ := ho8.form
            subst hv8
            have HO8 := Lib.hid ho8
            have hbw8 : Below w.heap.size w wc := hbwy.trans (hb8.mono hbwy.size)
            have hs8 := hb8.size
            have HP8 := Lib.hid (show ∀ q, (Value.slice B8 (0 + 1) cp8).ownBlock = some q → wy.heap.size ≤ q from fun q hq => hp8 q (by rw [hl8]; exact hq))
            have HE8 := Lib.hid (show Cel wc wy.heap.size 8 B k cp (evCells (out.drop 0)) from Cel.below HEOy.out hb8)
            have hkcp := Cel.cap HEOy.out
            rw [hl8]
            clear ho8
            by_cases hcj : cp = 0
            · skip
              go_wp2_with (at_builtin; refine wpList_app (P := Tryz.prog) rfl (.tmp 43) (.tmp 46) 22 rfl 28 i0 _ 8 96 Tryz.underlying22 HI.out HZ0.out HZ1.out HZ2.out rfl (by decide) w.heap.size _ (0 + 1) (evCells (out.take 0 ++ [e])) rfl ?c1 wy.heap.size _ _ _ (evCells (out.drop 0)) rfl ?c2 ?c3 ?c4 ?c5 ?c6 ?_)
              case c1 => (have := HO8.out; unfold OwnE at this; rw [hl8] at this; exact this)
              case c2 => first | exact HE8.out | (have h8 := HE8.out; simpa [hcj] using h8)
              case c3 => exact cells_ones _
              case c4 => unfold maxLen; omega
              case c5 => omega
              case c6 => omega
              intro v9 w9 ho9 hg9 _
              have hb9 : Below w.heap.size w w9 := Below.grown hbw8 hg9 (by omega) (fun q hq => by have := HP8.out q hq; omega)
              have HR := Lib.hid (show SrRel w es v9 (.int .i64 ((k + 1 : Nat) : Int)) w9 from ⟨k + 1, rfl, by have := HL.out; omega, by
                rw [HTK.out, insE_eq, ← HPOS.out]
                unfold OwnE
                rw [evCells_append (out.take 0 ++ [e]) (out.drop 0)]
                have e9 : (out.take 0 ++ [e] ++ out.drop 0).length = 0 + 1 + (k - 0) := by
                  rw [List.length_append, hl8, List.length_drop, HLO.out]
                rw [e9]
                first | exact ho9 | (have h9 := ho9; simpa using h9), hb9⟩)
              clear ho9 hg9 hb9
              go_wp2
              go_roundw
              case rel => exact HR.out
              case measure => simp [intOf]; omega
            · skip
              go_wp2_with (at_builtin; refine wpList_app (P := Tryz.prog) rfl (.tmp 43) (.tmp 46) 22 rfl 28 i0 _ 8 96 Tryz.underlying22 HI.out HZ0.out HZ1.out HZ2.out rfl (by decide) w.heap.size _ (0 + 1) (evCells (out.take 0 ++ [e])) rfl ?c1 wy.heap.size _ _ _ (evCells (out.drop 0)) rfl ?c2 ?c3 ?c4 ?c5 ?c6 ?_)
              case c1 => (have := HO8.out; unfold OwnE at this; rw [hl8] at this; exact this)
              case c2 => first | exact HE8.out | (have h8 := HE8.out; simpa [Addr.add_mid, hcj] using h8)
              case c3 => exact cells_ones _
              case c4 => unfold maxLen; omega
              case c5 => omega
              case c6 => omega
              intro v9 w9 ho9 hg9 _
              have hb9 : Below w.heap.size w w9 := Below.grown hbw8 hg9 (by omega) (fun q hq => by have := HP8.out q hq; omega)
              have HR := Lib.hid (show SrRel w es v9 (.int .i64 ((k + 1 : Nat) : Int)) w9 from ⟨k + 1, rfl, by have := HL.out; omega, by
                rw [HTK.out, insE_eq, ← HPOS.out]
                unfold OwnE
                rw [evCells_append (out.take 0 ++ [e]) (out.drop 0)]
                have e9 : (out.take 0 ++ [e] ++ out.drop 0).length = 0 + 1 + (k - 0) := by
                  rw [List.length_append, hl8, List.length_drop, HLO.out]
                rw [e9]
                first | exact ho9 | (have h9 := ho9; simpa using h9), hb9⟩)
              clear ho9 hg9 hb9
              go_wp2
              go_roundw
              case rel => exact HR.out
              case measure => simp [intOf]; omega
    · have t1 : ¬ (k : Int) < n := by omega
      have HR := Lib.hid (show OwnPost w (sortL es) (.returned u3) wo from ⟨u3, rfl, by have := hown; rw [List.take_of_length_le (by have := HL.out; omega)] at this; exact this, hbel⟩)
      clear hown
      go_wp2
      go_ret
      exact HR.out
end Go.Proofs.YtoljbbmjbgepiaaGreatDoor
