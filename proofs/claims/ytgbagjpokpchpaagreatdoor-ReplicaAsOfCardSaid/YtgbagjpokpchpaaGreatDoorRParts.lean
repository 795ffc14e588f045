/-
  Layer 7: putNumber.
  Layer 7: Sources.
  Layer 7, plain: how long a set's bytes are.
  A slice whose cells lie in given blocks.
  Layer 7: Encode.
  Layer 8: Parts.
-/
import Derived.Test.YtgbagjpokpchpaaGreatDoorRPnM
import Derived.Test.YtgbagjpokpchpaaGreatDoorRHad
import Derived.Test.YtgbagjpokpchpaaGreatDoorRSearch
import Derived.Test.YtgbagjpokpchpaaGreatDoorRHadPlain
import Derived.Test.YtgbagjpokpchpaaGreatDoorRSets
import Derived.Lib.AppendZeros
import Derived.Deep.RegionHeld3
import Derived.Deep.DeepCutAuto
import Derived.RegionTactic
import Derived.BigRegion
import Derived.Test.YtgbagjpokpchpaaGreatDoorROpenEvs
import Derived.Test.YtgbagjpokpchpaaGreatDoorRClkEnc2
import Derived.Test.YtgbagjpokpchpaaGreatDoorRAdmAll
namespace Go.Proofs.YtgbagjpokpchpaaGreatDoor
open Go.RowKit Go.Maps Go.Sort

set_option maxRecDepth 100000 in
set_option maxHeartbeats 2000000 in
theorem putnum_any (w : World) (base : Nat) (v : Value) (l : List UInt8) (ho : OwnB w base v l) (hb : base ≤ w.heap.size) (n : Nat) (hn : n < 4611686018427387904) (hl : l.length ≤ 200000000000) :
    Calls Tryz.prog 78 #[v, .int .i64 n] w (PnPost w base v (l ++ numB n)) := by
  have hn8 := numB_len8 hn
  have HST := Lib.hid (show PnRel w base v (l ++ numB n) v (.int .i64 n) w from ⟨n, l, rfl, hn, rfl, ho, Keep.refl _ _, fun b hb => .inl hb⟩)
  have hll : (l ++ numB n).length ≤ 200000000009 := by simp; omega
  generalize l ++ numB n = L at *
  clear ho hn8
  go_enter Tryz.func78, Tryz.ntmps78
  go_wp2
  go_loopw [0, 1] (fun v' q wr => PnRel w base v L v' q wr) (fun _ q _ => (intOf q).toNat)
  case atStart => exact HST.out
  case round =>
    obtain ⟨q, l', rfl, hq, hL, hm⟩ := hrel
    have HL := Lib.hid hL; have HM := Lib.hid hm
    have hl' : l'.length ≤ 200000000009 := by have := congrArg List.length hL; simp at this; omega
    have hsr := hm.keep.size
    clear hL hm
    by_cases hlo : q < 128
    · have t1 : ¬ (128 : Int) ≤ q := by omega
      have HB := Lib.hid (show L = l' ++ [UInt8.ofNat q] by rw [← HL.out, numB_lo hlo])
      go_wp2_with (at_builtin; refine wpList_app8 rfl (.tmp 15) (.tmp 18) rfl base _ l' rfl ?c1 (wr.heap.size + 1) _ _ _ [UInt8.ofNat q] rfl ?c2 ?c3 ?c4 ?_)
      case c1 => exact OwnB.alloc HM.out.own _
      case c2 => exact Byt.new wr _ _ [UInt8.ofNat q] (by simp; omega) 1 rfl (by unfold maxLen; omega)
      case c3 => first | omega | (simp; omega)
      case c4 => first | omega | (simp; omega)
      intro v2 w2 ho2 hg2 hv2
      have HR := Lib.hid (show PnPost w base v L (.returned v2) w2 from ⟨v2, rfl, HM.out.app _ (by rw [HB.out]; exact ho2) hg2 hv2⟩)
      clear ho2 hg2 hv2
      go_wp2
      go_ret
      exact HR.out
    · have t1 : (128 : Int) ≤ q := by omega
      have HB := Lib.hid (show L = l' ++ [UInt8.ofNat (q % 128 + 128)] ++ numB (q / 128) by rw [← HL.out, numB_hi hlo]; simp)
      have eo : bits .or .u8 ((q : Int) % 256) 128 = ((q % 128 + 128 : Nat) : Int) := by
        have := or128 (q % 256) (by omega)
        rw [show ((q % 256 : Nat) : Int) = (q : Int) % 256 by omega] at this
        rw [this]; congr 1; omega
      generalize hc : q % 128 + 128 = cN at *
      have hcl : cN < 256 := by omega
      clear hc
      go_wp2_with (at_builtin; refine wpList_app8 rfl (.tmp 9) (.tmp 13) rfl base _ l' rfl ?c1 (wr.heap.size + 1) _ _ _ [UInt8.ofNat cN] rfl ?c2 ?c3 ?c4 ?_)
      case c1 => exact OwnB.alloc HM.out.own _
      case c2 => exact Byt.new wr _ _ [UInt8.ofNat cN] (by simp; omega) 1 rfl (by unfold maxLen; omega)
      case c3 => first | omega | (simp; omega)
      case c4 => first | omega | (simp; omega)
      intro v2 w2 ho2 hg2 hv2
      have HR := Lib.hid (show PnRel w base v L v2 (.int .i64 ((q / 128 : Nat) : Int)) w2 from ⟨q / 128, l' ++ [UInt8.ofNat cN], rfl, by omega, HB.out.symm, HM.out.app _ ho2 hg2 hv2⟩)
      clear ho2 hg2 hv2 eo
      go_wp2
      go_roundw
      case rel => exact HR.out
      case measure => simp [intOf]; omega
end Go.Proofs.YtgbagjpokpchpaaGreatDoor
namespace Go.Proofs.YtgbagjpokpchpaaGreatDoor
open Go.RowKit Go.Maps Go.Sort Go.Shelf

set_option maxHeartbeats 2000000 in
theorem sources_any (w : World) (G : Nat → Prop) (bs bm : Nat) (m : Had) (V : List UInt8 → Value) (h : HadAt w G bs bm m V) (hml : m.length ≤ 100000) : Calls Tryz.prog 79 #[.pointer (some ⟨bs, 0, none⟩)] w (SrcPost w (m.map (·.1))) := by
  have c0 := h.cell
  obtain ⟨row, hrw⟩ : ∃ row : Row Value, row = m.map fun p => (p.1, V p.1) := ⟨_, rfl⟩
  have HD := Lib.hid (show w.ownsMap Tryz.prog 9 raw bm row.length (mapD row) by rw [hrw]; exact h.map)
  have hds : Maps.size (mapD row) = m.length := by rw [hrw]; simp [mapD, Maps.size]
  have HRW := Lib.hid (show row.map (·.1) = m.map (·.1) by rw [hrw]; simp)
  clear hrw
  have HKR := Lib.hid (keys_rising h.ok.up)
  have hnd : (m.map (·.1)).Nodup := (List.pairwise_map.2 (h.ok.up.imp fun {a b} h e => by rw [e, bb_irrefl] at h; cases h))
  have HND := Lib.hid hnd
  clear h hnd
  refine (callsIn_wide (n := 6)).1 ?_
  have hfK : Fence.wide.fn 124 := trivial
  have hfS : Fence.wide.fn 33 := trivial
  refine callsIn_of_wp Tryz.func79 rfl trivial ?_ rfl
  simp only [Tryz.ntmps79, List.size_toArray, List.length_cons, List.length_nil, Nat.reduceAdd, Nat.reduceSub, Array.replicate_succ, Array.replicate_zero, List.push_toArray, List.append_toArray, List.nil_append, List.cons_append]
  have HDS := Lib.hid hds
  clear hds
  gi_wp2_with fail
  refine (Tryz.maps_Keys_124 _ _).mono ?_
  rintro e w2 ⟨rfl, rfl⟩
  gi_wp2_with fail
  refine (Tryz.slices_Sorted_keys_33_124 bm row.length (mapD row) raw w HD.out (by rw [HDS.out]; unfold maxLen; omega) (by rw [HDS.out]; omega)).mono ?_
  rintro e w3 ⟨v, ss, rfl, hS, hrow, hnil, hb3⟩
  clear c0
  gi_wp2_with fail
  go_ret
  rw [strKeys_mapD] at hS
  rw [HRW.out] at hS
  have hr := rising_sort (hS.nodup_iff.2 HND.out) (fun x => hS.mem_iff)
  have he := rising_unique hr HKR.out
  rw [he] at hrow
  have hl : ss.length = (m.map (·.1)).length := hS.length_eq
  rw [hl] at hrow
  refine ⟨v, rfl, ?_, ((Below.refl _ _).alloc (Nat.le_refl _) _).trans (hb3.mono (by simp))⟩
  refine ⟨hrow.1, ?_⟩
  rcases hrow.2 with ⟨e, hl⟩ | ⟨g, cap, cur, e, hb', hg, hrr⟩
  · exact .inl ⟨e, hl⟩
  · exact .inr ⟨g, cap, cur, e, by simp at hb'; omega, hg, hrr⟩
end Go.Proofs.YtgbagjpokpchpaaGreatDoor
namespace Go.Proofs.YtgbagjpokpchpaaGreatDoor
open Go.RowKit Go.Maps Go.Sort

theorem endR_take (e : Int) (rs : Rg) (j : Nat) (hj : j < rs.length) : endR e (rs.take (j + 1)) = rs[j].2 := by
  rw [List.take_add_one, List.getElem?_eq_getElem hj, Option.toList_some, endR_snoc]
theorem encR_take (e : Int) (rs : Rg) (j : Nat) (hj : j < rs.length) : encR e (rs.take (j + 1)) = encR e (rs.take j) ++ (numB (rs[j].1 - endR e (rs.take j)).toNat ++ numB (rs[j].2 - rs[j].1).toNat) := by
  rw [List.take_add_one, List.getElem?_eq_getElem hj, Option.toList_some, encR_snoc]
theorem endR_le {rs : Rg} (h : RgOk rs) (j : Nat) (hj : j < rs.length) : 1 ≤ endR 1 (rs.take j) ∧ endR 1 (rs.take j) ≤ rs[j].1 := by
  have h1 := h.each rs[j] (List.getElem_mem hj)
  cases j with
  | zero => simp [endR]; exact h1.1
  | succ i =>
    rw [endR_take 1 rs i (by omega)]
    have h2 := h.each (rs[i]'(by omega)) (List.getElem_mem _)
    have h3 := List.pairwise_iff_getElem.1 h.up i (i + 1) (by omega) hj (by omega)
    omega
theorem encS_len {p : List UInt8 × Rg} (hn : nameB p.1 = true) (h : RgOk p.2) (hl : p.2.length ≤ 90000) : (encS p).length ≤ 1500000 := by
  have h1 : p.1.length ≤ 24 := by unfold nameB at hn; simp at hn; omega
  have h2 := numB_short (n := p.2.length) (by omega)
  have h3 := encR_len p.2 h.each 1 (by omega)
  unfold encS
  simp only [List.length_cons, List.length_append]
  omega
theorem flat_len {m : Had} (h : HadOk m) (hl : ∀ p ∈ m, p.2.length ≤ 90000) (k : Nat) : ((m.take k).flatMap encS).length ≤ 1500000 * k := by
  have key : ∀ l : Had, (∀ p ∈ l, (encS p).length ≤ 1500000) → (l.flatMap encS).length ≤ 1500000 * l.length := fun l => by
    induction l with
    | nil => intro _; simp
    | cons p l ih =>
      intro hp
      have := ih (fun q hq => hp q (by simp [hq]))
      have := hp p (by simp)
      simp only [List.flatMap_cons, List.length_append, List.length_cons]
      omega
  have h1 := key (m.take k) (fun p hp => encS_len (h.each p (List.mem_of_mem_take hp)).1 (h.each p (List.mem_of_mem_take hp)).2.1 (hl p (List.mem_of_mem_take hp)))
  rw [List.length_take] at h1
  have h2 : 1500000 * min k m.length ≤ 1500000 * k := Nat.mul_le_mul_left _ (by omega)
  omega
theorem flat_take (m : Had) (k : Nat) (hk : k < m.length) : (m.take (k + 1)).flatMap encS = (m.take k).flatMap encS ++ encS m[k] := by
  rw [List.take_add_one, List.getElem?_eq_getElem hk, Option.toList_some, List.flatMap_append]; simp
end Go.Proofs.YtgbagjpokpchpaaGreatDoor
namespace Go.Proofs.YtgbagjpokpchpaaGreatDoor
open Go.RowKit

/-- a slice whose cells lie in blocks of S -/
def VwIn (S : Nat → Prop) (A : Option Addr) (n : Nat) : Prop := ∀ a, A = some a → 0 < n → S a.block
theorem VwIn.mono {S T : Nat → Prop} {A : Option Addr} {n : Nat} (h : VwIn S A n) (hT : ∀ b, S b → T b) : VwIn T A n := fun a ha hn => hT _ (h a ha hn)
theorem Cel.stay {w w' : World} {B B' size n c : Nat} {A : Option Addr} {xs : List Value} {S : Nat → Prop} (h : Cel w B size A n c xs) (hA : VwIn S A n) (hB : B ≤ B') (hk : ∀ b off, S b → b < B → w'.cell? ⟨b, off, none⟩ = w.cell? ⟨b, off, none⟩) : Cel w' B' size A n c xs :=
  ⟨h.len, h.cap, h.max, fun hn => by
    obtain ⟨b, off, e, hb, hc⟩ := h.cell hn
    exact ⟨b, off, e, by omega, fun i u hi => (hk b _ (hA _ e hn) hb).trans (hc i u hi)⟩⟩
theorem own_in {w : World} {base n : Nat} {e : TypeId} {size : Nat} {A : Option Addr} {c : Nat} {xs : List Value} (h : w.ownsRow base e size (.slice A n c) n xs) : VwIn (fun b => base ≤ b ∧ b < w.heap.size) A n := by
  intro a ha hn
  subst ha
  rcases h.2 with ⟨_, h'⟩ | ⟨g, cap, cur, e, hb, hg, _⟩
  · omega
  · injection e with e1; injection e1 with e1; subst e1; exact ⟨hb, (Array.getElem?_eq_some_iff.1 hg).1⟩
end Go.Proofs.YtgbagjpokpchpaaGreatDoor
namespace Go.Proofs.YtgbagjpokpchpaaGreatDoor
open Go.RowKit Go.Maps Go.Sort Go.Shelf

def EnRel (w2 : World) (base : Nat) (v3 : Value) (m : Had) (b i : Value) (wr : World) : Prop := ∃ k : Nat, i = .int .i64 k ∧ k ≤ m.length ∧ PnM w2 base v3 (numB m.length ++ (m.take k).flatMap encS) b wr
def EnIn (w2 : World) (base : Nat) (v3 : Value) (pre : List UInt8) (rs : Rg) (b en i : Value) (wz : World) : Prop := ∃ (j : Nat) (e : Int), i = .int .i64 j ∧ j ≤ rs.length ∧ en = .int .i64 e ∧ e = endR 1 (rs.take j) ∧ PnM w2 base v3 (pre ++ encR 1 (rs.take j)) b wz
def EncPost (w : World) (l : List UInt8) (e : Ending) (w' : World) : Prop := ∃ v, e = .returned v ∧ OwnB w' w.heap.size v l ∧ Below w.heap.size w w'

set_option maxRecDepth 100000 in
set_option maxHeartbeats 4000000 in
theorem encode_any (w : World) (G : Nat → Prop) (bs bm : Nat) (m : Had) (V : List UInt8 → Value) (h : HadAt w G bs bm m V) (hml : m.length ≤ 90000) (hrl : ∀ p ∈ m, p.2.length ≤ 90000) : Calls Tryz.prog 42 #[.pointer (some ⟨bs, 0, none⟩)] w (EncPost w (encH m)) := by
  have HH := Lib.hid h; have HRL := Lib.hid hrl
  have hlen : ∀ ty, (Builtin.len_ #[124] ty #[.map (some bm)]).run Tryz.prog w = .ok (.int .i64 (m.length : Int)) w := fun ty => by
    have := World.ownsMap.len (show w.ownsMap Tryz.prog 9 raw bm _ _ from h.map) Tryz.underlying124 ty
    rw [this]; simp [mapD, Maps.size]
  have c0 := h.cell
  have HENC := Lib.hid (show encH m = numB m.length ++ m.flatMap encS from rfl)
  have hn8 := numB_short (n := m.length) (by omega)
  clear h hrl
  go_enter Tryz.func42, Tryz.ntmps42
  go_wp2_with fail
  with_reducible refine (putnum_any w w.heap.size (.slice none 0 0) [] (OwnB.nil w w.heap.size) (Nat.le_refl _) m.length (by omega) (by simp)).mono ?_
  rintro r w1 ⟨v3, rfl, hp1⟩
  rw [List.nil_append] at hp1
  have HP1 := Lib.hid hp1
  have hkb : ∀ (l : List UInt8) (v' : Value) (wx : World), PnM w w.heap.size (.slice none 0 0) l v' wx → Below w.heap.size w wx := fun _ _ _ hx => hx.keep.below (Nat.le_refl _) (fun k _ e => by cases e)
  have HKB := Lib.hid hkb
  have hb1 : Below w.heap.size w w1 := hkb _ _ _ hp1
  have HH1 := Lib.hid (HH.out.up hb1)
  clear hp1 hkb c0 hlen
  go_wp2_with fail
  with_reducible refine (sources_any w1 G bs bm m V HH1.out (by omega)).mono ?_
  rintro r w2 ⟨vS, rfl, hS, hb2⟩
  have HP2 := Lib.hid (HP1.out.up hb2)
  have HH2 := Lib.hid (HH1.out.up hb2)
  obtain ⟨AS, cS, hvS⟩ := ownsRow_form hS
  have hSC : Cel w2 w2.heap.size 1 AS (m.map (·.1)).length cS ((m.map (·.1)).map encStr) := by rw [hvS] at hS; exact Cel.of_own hS
  have hSB : VwIn (fun b => w1.heap.size ≤ b) AS (m.map (·.1)).length := by rw [hvS] at hS; exact (own_in hS).mono (fun b h => h.1)
  have hkl : (m.map (·.1)).length = m.length := by simp
  rw [hkl] at hvS hSC hSB
  subst hvS
  have hv3 : ∀ b, v3.ownBlock = some b → w.heap.size ≤ b ∧ b < w1.heap.size := fun b hb => World.ownsRow.lt HP1.out.own b hb
  have HSC := Lib.hid hSC; have HSB := Lib.hid hSB; have HV3 := Lib.hid hv3
  have hGw : ∀ b, G b → b < w.heap.size := HH.out.lt
  have HGW := Lib.hid hGw
  have hs12 := hb2.size
  have hs01 := hb1.size
  have HST := Lib.hid (show EnRel w2 w.heap.size v3 m v3 (.int .i64 ((0 : Nat) : Int)) w2 from ⟨0, rfl, Nat.zero_le _, by simpa using HP2.out.own, Keep.refl _ _, fun b hb => .inl hb⟩)
  clear hS hSC hSB hv3 hGw hb2 hkl HP1
  go_wp2
  go_loopw [3, 19] (fun b i wr => EnRel w2 w.heap.size v3 m b i wr) (fun _ i _ => m.length - (intOf i).toNat)
  case atStart => exact HST.out
  case round =>
    obtain ⟨k, rfl, hk, hm⟩ := hrel
    have HM := Lib.hid hm
    have hsr := hm.keep.size
    clear hm
    have hll : (numB m.length ++ (m.take k).flatMap encS).length ≤ 140000000000 := by
      rw [List.length_append]
      have h2 := flat_len HH.out.ok HRL.out k
      have h3 : 1500000 * k ≤ 1500000 * 90000 := Nat.mul_le_mul_left _ (by omega)
      omega
    have hl0 : 0 < (numB m.length ++ (m.take k).flatMap encS).length := by
      rw [List.length_append]
      have : 0 < (numB m.length).length := by
        by_cases h : m.length < 128
        · rw [numB_lo h]; simp
        · rw [numB_hi h]; simp
      omega
    by_cases hkn : k < m.length
    · have HSTR := Lib.hid (show ∀ wx, Keep (fun b => v3.ownBlock = some b) w2 wx → Cel wx wx.heap.size 1 AS m.length cS ((m.map (·.1)).map encStr) from fun wx hx => Cel.stay HSC.out HSB.out hx.size (fun b off hb hlt => hx.cell (p := ⟨b, off, none⟩) hlt (fun e => by have := HV3.out b e; omega)))
      have HHX := Lib.hid (show ∀ wx, Keep (fun b => v3.ownBlock = some b) w2 wx → HadAt wx G bs bm m V from fun wx hx => HH2.out.keep hx.size (fun b hb => hx.block b (HH2.out.lt b hb) (fun e => by have := HV3.out b e; have := HGW.out b hb; omega)))
      obtain ⟨b, off, rfl, hb, hc⟩ := Strs.at_ (ss := m.map (fun p : List UInt8 × Rg => p.1)) (HSTR.out wr HM.out.keep) k (by simpa using hkn)
      have hmk : (m.map (fun p : List UInt8 × Rg => p.1))[k]'(by simpa using hkn) = m[k].1 := by simp
      rw [hmk] at hc
      have hpo := HH.out.ok.each m[k] (List.getElem_mem hkn)
      have hpl := HRL.out m[k] (List.getElem_mem hkn)
      have HFT := Lib.hid (flat_take m k hkn)
      have hmem : m[k] ∈ m := List.getElem_mem hkn
      obtain ⟨nm, rs, hmk2⟩ : ∃ nm rs, m[k] = (nm, rs) := ⟨_, _, rfl⟩
      rw [hmk2] at hc hpo hpl HFT hmem
      simp only at hc hpo hpl
      clear hmk hmk2
      have HPO := Lib.hid hpo; have HMEM := Lib.hid hmem
      have hnm : nm.length ≤ 24 := by have := hpo.1; unfold nameB at this; simp at this; omega
      have HES := Lib.hid (show encS (nm, rs) = UInt8.ofNat nm.length :: (nm ++ numB rs.length ++ encR 1 rs) from rfl)
      have HROW := Lib.hid (show hadRow m nm = rs by unfold hadRow; rw [getB_of_mem HH.out.ok.up hmem]; rfl)
      generalize hL : numB m.length ++ (m.take k).flatMap encS = L at *
      have HL := Lib.hid hL
      clear hL hpo hmem
      have t1 : (k : Int) < m.length := by omega
      have e4 : IntKind.u8.wrap (nm.length : Int) = (nm.length : Int) := by simp [IntKind.wrap, IntKind.bits, IntKind.signed]; omega
      have hn24 : (nm.length : Int) % 256 = nm.length := by omega
      go_wp2_with (at_builtin; refine wpList_app8 rfl (.tmp 23) (.tmp 27) rfl w.heap.size _ L rfl ?c1 (wr.heap.size + 1) _ _ _ [UInt8.ofNat nm.length] rfl ?c2 ?c3 ?c4 ?_)
      case c1 => exact OwnB.alloc HM.out.own _
      case c2 => exact Byt.new wr _ _ [UInt8.ofNat nm.length] (by simp; omega) 1 rfl (by unfold maxLen; omega)
      case c3 => first | omega | (simp; omega)
      case c4 => first | omega | (simp; omega)
      intro v5 w5 ho5 hg5 hv5
      have HM5 := Lib.hid (HM.out.app _ ho5 hg5 hv5)
      clear ho5 hg5 hv5 HM e4 hn24
      have hs5 := HM5.out.keep.size
      obtain ⟨v6, w6, hr6, ho6, hg6, hv6⟩ := app_str w5 w.heap.size v5 (L ++ [UInt8.ofNat nm.length]) nm HM5.out.own (by simp) (by omega) (by simp; omega) 83
      have HR6 := Lib.hid hr6
      have HM6 := Lib.hid (HM5.out.str ho6 hg6 hv6)
      have hs6 := HM6.out.keep.size
      have hc0 := (HHX.out w6 HM6.out.keep).cell
      obtain ⟨vr, hlk, hor, _, hvV⟩ := (HHX.out w6 HM6.out.keep).look nm (by omega)
      rw [HROW.out] at hor
      have hvr := hvV rs (getB_of_mem HH.out.ok.up HMEM.out)
      have HVR := Lib.hid hvr
      have hrs0 : 0 < rs.length := List.length_pos_iff.2 HPO.out.2.2
      obtain ⟨g, cr, hvf, _, hgl⟩ := World.ownsRow.form hor hrs0
      subst hvf
      clear hr6 ho6 hg6 hv6 hor hvV hvr hc
      go_wp2_with (at_builtin; refine Lib.wpList_append_run _ rfl (.tmp 29) (.tmp 30) _ _ rfl _ _ rfl rfl _ _ HR6.out ?_)
      go_wp2_with fail
      with_reducible refine (putnum_any w6 w.heap.size v6 (L ++ [UInt8.ofNat nm.length] ++ nm) HM6.out.own (by omega) rs.length (by omega) (by simp; omega)).mono ?_
      rintro r w7 ⟨v7, rfl, hp7⟩
      have HM7 := Lib.hid (HM6.out.then_ hp7)
      obtain ⟨pre, hpre⟩ : ∃ pre, pre = L ++ [UInt8.ofNat nm.length] ++ nm ++ numB rs.length := ⟨_, rfl⟩
      have HPR := Lib.hid (show pre ++ encR 1 rs = numB m.length ++ (m.take (k + 1)).flatMap encS by rw [HFT.out, HES.out, hpre, ← HL.out]; simp)
      have hprel : pre.length ≤ 150000000000 := by rw [hpre]; have := numB_short (n := rs.length) (by omega); simp; omega
      rw [← hpre] at HM7
      clear hp7 hpre hc0 hlk HM5 HM6 HR6 HES HFT
      have HSI := Lib.hid (show EnIn w2 w.heap.size v3 pre rs v7 (.int .i64 1) (.int .i64 ((0 : Nat) : Int)) w7 from ⟨0, 1, rfl, Nat.zero_le _, rfl, rfl, by simpa [encR] using HM7.out⟩)
      clear HM7
      go_wp2
      go_loopw [3, 7, 44] (fun b en i wz => EnIn w2 w.heap.size v3 pre rs b en i wz) (fun _ _ i _ => rs.length - (intOf i).toNat)
      case atStart => exact HSI.out
      case round =>
        obtain ⟨j, en, rfl, hj, rfl, hen, hmz⟩ := hrel
        generalize wr = wz at *
        have HMZ := Lib.hid hmz
        have hsz := hmz.keep.size
        have hlil : (pre ++ encR 1 (rs.take j)).length ≤ 160000000000 := by
          rw [List.length_append]
          have h1 := encR_len (rs.take j) (fun r hr => HPO.out.2.1.each r (List.mem_of_mem_take hr)) 1 (by omega)
          rw [List.length_take] at h1
          omega
        clear hmz
        by_cases hjn : j < rs.length
        · have hle := endR_le HPO.out.2.1 j hjn
          rw [← hen] at hle
          have hea := HPO.out.2.1.each rs[j] (List.getElem_mem hjn)
          have HTA := Lib.hid (encR_take 1 rs j hjn)
          have HTE := Lib.hid (endR_take 1 rs j hjn)
          have hoz : OwnR wz (.slice (some ⟨g, 0, none⟩) rs.length cr) rs := by
            have := (HHX.out wz HMZ.out.keep).own (nm, rs) HMEM.out
            rw [HVR.out]; exact this
          obtain ⟨y0, y1, _, _⟩ := hoz.cell j hjn
          rw [← hen] at HTA
          clear hen hoz
          generalize rs[j] = r at *
          obtain ⟨ra, rb⟩ := r
          simp only at hle hea HTA HTE y0 y1
          generalize hP : pre ++ encR 1 (rs.take j) = P at *
          have HP := Lib.hid hP
          clear hP
          have t2 : (j : Int) < rs.length := by omega
          have hbW : Below wz.heap.size wz (wz.alloc (.cells #[.int .i64 ra, .int .i64 rb] 129)) := (Below.refl _ _).alloc (Nat.le_refl _) _
          have HMA := Lib.hid (HMZ.out.up hbW)
          have z0 : (wz.alloc (.cells #[.int .i64 ra, .int .i64 rb] 129)).cell? ⟨wz.heap.size, 0, none⟩ = some (.int .i64 ra) := cell_of_row _ wz.heap.size 0 _ _ (0, 0) (heap_alloc_new wz _)
          have z1 : (wz.alloc (.cells #[.int .i64 ra, .int .i64 rb] 129)).cell? ⟨wz.heap.size, 1, none⟩ = some (.int .i64 rb) := cell_of_row _ wz.heap.size 1 _ _ (0, 0) (heap_alloc_new wz _)
          have hsa : (wz.alloc (.cells #[.int .i64 ra, .int .i64 rb] 129)).heap.size = wz.heap.size + 1 := by simp
          go_upto_region 13 with fail
          clear hbW y0 y1
          generalize wz.alloc (.cells #[.int .i64 ra, .int .i64 rb] 129) = wa at *
          have hbx : ∀ b, u3.ownBlock = some b → b ≠ wz.heap.size := fun b hb e => by have := (World.ownsRow.lt HMZ.out.own b hb).2; omega
          have HBX := Lib.hid hbx
          clear hbx HMZ
          have hN1 := putnum_any wa w.heap.size u3 P HMA.out.own (by omega) (ra - en).toNat (by omega) (by omega)
          rw [Int.toNat_of_nonneg (by omega)] at hN1
          have HN1 := Lib.hid hN1
          clear hN1
          go_wp2_with fail
          with_reducible refine HN1.out.mono ?_
          rintro r8 w8 ⟨v8, rfl, hp8⟩
          have HMB := Lib.hid (HMA.out.then_ hp8)
          have hs8 := hp8.keep.size
          have x0 : w8.cell? ⟨wz.heap.size, 0, none⟩ = some (.int .i64 ra) := (hp8.keep.cell (p := ⟨wz.heap.size, 0, none⟩) (by show wz.heap.size < _; omega) (fun e => HBX.out _ e rfl)).trans z0
          have x1 : w8.cell? ⟨wz.heap.size, 1, none⟩ = some (.int .i64 rb) := (hp8.keep.cell (p := ⟨wz.heap.size, 1, none⟩) (by show wz.heap.size < _; omega) (fun e => HBX.out _ e rfl)).trans z1
          have HBX8 := Lib.hid (show ∀ b, v8.ownBlock = some b → b ≠ wz.heap.size from fun b hb e => by
            rcases hp8.blk b hb with h' | h'
            · exact HBX.out b h' e
            · omega)
          have hla := numB_short (n := (ra - en).toNat) (by omega)
          clear hp8 z0 z1 HMA HN1
          have hN2 := putnum_any w8 w.heap.size v8 (P ++ numB (ra - en).toNat) HMB.out.own (by omega) (rb - ra).toNat (by omega) (by simp; omega)
          rw [Int.toNat_of_nonneg (by omega)] at hN2
          have HN2 := Lib.hid hN2
          clear hN2
          go_wp2_with fail
          with_reducible refine HN2.out.mono ?_
          rintro r9 w9 ⟨v9, rfl, hp9⟩
          have HMC := Lib.hid (HMB.out.then_ hp9)
          have q1 : w9.cell? ⟨wz.heap.size, 1, none⟩ = some (.int .i64 rb) := (hp9.keep.cell (p := ⟨wz.heap.size, 1, none⟩) (by show wz.heap.size < _; omega) (fun e => HBX8.out _ e rfl)).trans x1
          have HR := Lib.hid (show EnIn w2 w.heap.size v3 pre rs v9 (.int .i64 rb) (.int .i64 ((j + 1 : Nat) : Int)) w9 from ⟨j + 1, rb, rfl, by omega, rfl, HTE.out.symm, by
            rw [HTA.out, ← List.append_assoc, HP.out, ← List.append_assoc]; exact HMC.out⟩)
          clear hp9 x0 x1 HMB HN2
          go_wp2
          go_roundw
          case rel => exact HR.out
          case measure => simp [intOf]; omega
        · have t2 : ¬ (j : Int) < rs.length := by omega
          have HR := Lib.hid (show EnRel w2 w.heap.size v3 m u3 (.int .i64 ((k + 1 : Nat) : Int)) wz from ⟨k + 1, rfl, by omega, by
            have := HMZ.out
            rw [List.take_of_length_le (by omega), HPR.out] at this; exact this⟩)
          clear hen
          go_wp2
          go_roundw
          case rel => exact HR.out
          case measure => simp [intOf]; omega
    · have t1 : ¬ (k : Int) < m.length := by omega
      have HE := Lib.hid (show numB m.length ++ (m.take k).flatMap encS = encH m by rw [HENC.out, List.take_of_length_le (by omega)])
      rw [HE.out] at HM
      have HF := Lib.hid (HP2.out.then_ HM.out)
      obtain ⟨B, cB, hvB⟩ := HF.out.own.form
      subst hvB
      go_wp2
      go_ret
      exact ⟨_, rfl, HF.out.own, HKB.out _ _ _ HF.out⟩
end Go.Proofs.YtgbagjpokpchpaaGreatDoor
namespace Go.Proofs.YtgbagjpokpchpaaGreatDoor
open Go.RowKit Go.Maps Go.Sort Go.Shelf

abbrev ptsAgg (a b : Int) (vc vh vt vl vg : Value) : Value := .agg #[.int .i64 a, .int .i64 b, vc, vh, vt, vl, vg]
theorem ownsRow_base {w : World} {base base' : Nat} {e : TypeId} {size n : Nat} {v : Value} {xs : List Value} (h : w.ownsRow base e size v n xs) (hb : base' ≤ base) : w.ownsRow base' e size v n xs := by
  refine ⟨h.1, ?_⟩
  rcases h.2 with h' | ⟨g, cap, cur, rfl, hb', hg, hr⟩
  · exact .inl h'
  · exact .inr ⟨g, cap, cur, rfl, by omega, hg, hr⟩
theorem alloc_size2 {B : Nat} {w W V : World} {o : Obj} (h : RowKit.Below B w W) (_h0 : RowKit.Below (W.alloc o).heap.size (W.alloc o) V) : w.heap.size ≤ (W.alloc o).heap.size := by have := h.size; simp; omega
theorem alloc_blk {w W : World} {o : Obj} (h : RowKit.Below (w.alloc o).heap.size (w.alloc o) W) : W.heap[w.heap.size]? = some o := (h.block _ (by simp)).trans (heap_alloc_new w o)
theorem alloc_below {w W : World} {o : Obj} (h : RowKit.Below (w.alloc o).heap.size (w.alloc o) W) : RowKit.Below w.heap.size w W := ((Below.refl _ _).alloc (Nat.le_refl _) o).trans (h.mono (Nat.le_of_lt (by simp)))
theorem pts_cells {W : World} {b : Nat} {T : TypeId} {a0 a1 a2 a3 a4 a5 a6 : Value} (h : W.heap[b]? = some (.cells #[a0, a1, a2, a3, a4, a5, a6] T (0, 0))) :
    W.cell? ⟨b, 0, none⟩ = some a0 ∧ W.cell? ⟨b, 1, none⟩ = some a1 ∧ W.cell? ⟨b, 2, none⟩ = some a2 ∧ W.cell? ⟨b, 3, none⟩ = some a3 ∧ W.cell? ⟨b, 4, none⟩ = some a4 ∧ W.cell? ⟨b, 5, none⟩ = some a5 ∧ W.cell? ⟨b, 6, none⟩ = some a6 ∧
    W.frozen? ⟨b, 0, none⟩ = false ∧ W.frozen? ⟨b, 1, none⟩ = false ∧ W.frozen? ⟨b, 2, none⟩ = false ∧ W.frozen? ⟨b, 3, none⟩ = false ∧ W.frozen? ⟨b, 4, none⟩ = false ∧ W.frozen? ⟨b, 5, none⟩ = false ∧ W.frozen? ⟨b, 6, none⟩ = false := by
  have key : ∀ o, W.cell? ⟨b, o, none⟩ = _ := fun o => cell_of_row W b o _ _ (0, 0) h
  exact ⟨(key 0).trans rfl, (key 1).trans rfl, (key 2).trans rfl, (key 3).trans rfl, (key 4).trans rfl, (key 5).trans rfl, (key 6).trans rfl, frozen_of_row W b 0 _ _ h, frozen_of_row W b 1 _ _ h, frozen_of_row W b 2 _ _ h, frozen_of_row W b 3 _ _ h, frozen_of_row W b 4 _ _ h, frozen_of_row W b 5 _ _ h, frozen_of_row W b 6 _ _ h⟩
/-- what an intake's parts hold -/
structure PtsV (w : World) (B : Nat) (x : Itk) (vc vh vt vl vg : Value) (r : List (List UInt8)) : Prop where
  clk : OwnB w B vc (encC x.clk)
  had : OwnB w B vh (encH x.had)
  taken : OwnE w B vt x.taken
  late : OwnE w B vl x.late
  gone : w.ownsRow B 9 1 vg r.length (r.map encStr)
  rise : Rising r x.gone
theorem PtsV.keepB {w W : World} {B t : Nat} {x : Itk} {vc vh vt vl vg : Value} {r : List (List UInt8)} {cs : Array Value} (h : PtsV w B x vc vh vt vl vg r) (ht : w.heap[t]? = some (.cells cs 85 (0, 0))) (hk : ∀ b, b < w.heap.size → b ≠ t → W.heap[b]? = w.heap[b]?) : PtsV W B x vc vh vt vl vg r := by
  have key : ∀ {b : Nat} {e : TypeId} {n size : Nat} {v : Value} {xs : List Value}, w.ownsRow B e size v n xs → e ≠ 85 → v.ownBlock = some b → W.heap[b]? = w.heap[b]? := fun {b e n size v xs} ho he hb => by
    refine hk b (World.ownsRow.lt ho b hb).2 fun hbt => ?_
    obtain ⟨cs', hc⟩ := ownsRow_typ ho hb
    rw [hbt, ht] at hc
    injection hc with hc; injection hc with _ hc; exact he hc.symm
  exact ⟨ownsRow_keep h.clk fun b hb => key h.clk (by decide) hb, ownsRow_keep h.had fun b hb => key h.had (by decide) hb, ownsRow_keep h.taken fun b hb => key h.taken (by decide) hb, ownsRow_keep h.late fun b hb => key h.late (by decide) hb, ownsRow_keep h.gone fun b hb => key h.gone (by decide) hb, h.rise⟩
theorem PtsV.up {w W : World} {B : Nat} {x : Itk} {vc vh vt vl vg : Value} {r : List (List UInt8)} (h : PtsV w B x vc vh vt vl vg r) (hb : RowKit.Below w.heap.size w W) : PtsV W B x vc vh vt vl vg r :=
  ⟨ownsRow_below h.clk hb (Nat.le_refl _), ownsRow_below h.had hb (Nat.le_refl _), ownsRow_below h.taken hb (Nat.le_refl _), ownsRow_below h.late hb (Nat.le_refl _), ownsRow_below h.gone hb (Nat.le_refl _), h.rise⟩
abbrev ptsObj (a b : Int) (vc vh vt vl vg : Value) : Obj := .cells #[.int .i64 a, .int .i64 b, vc, vh, vt, vl, vg] 85
/-- parts that lie in block t -/
def PfAt (w1 : World) (x : Itk) (a b : Int) (v : Value) (W : World) : Prop :=
  ∃ t Ac nc kc Ah nh kh At nt kt Al nl kl Ag ng kg r, v = .pointer (some ⟨t, 0, none⟩) ∧ w1.heap.size ≤ t ∧ W.heap[t]? = some (ptsObj a b (.slice Ac nc kc) (.slice Ah nh kh) (.slice At nt kt) (.slice Al nl kl) (.slice Ag ng kg)) ∧ PtsV W w1.heap.size x (.slice Ac nc kc) (.slice Ah nh kh) (.slice At nt kt) (.slice Al nl kl) (.slice Ag ng kg) r ∧ RowKit.Below w1.heap.size w1 W
theorem pf_new {w1 we : World} {x : Itk} {Ac Ah At Al Ag : Option Addr} {nc kc nh kh nt kt nl kl ng kg : Nat} {r : List (List UInt8)} (h : PtsV we w1.heap.size x (.slice Ac nc kc) (.slice Ah nh kh) (.slice At nt kt) (.slice Al nl kl) (.slice Ag ng kg) r) (hb : RowKit.Below w1.heap.size w1 we) (a b : Int) :
    PfAt w1 x a b (.pointer (some ⟨we.heap.size, 0, none⟩)) (we.alloc (ptsObj a b (.slice Ac nc kc) (.slice Ah nh kh) (.slice At nt kt) (.slice Al nl kl) (.slice Ag ng kg))) :=
  ⟨_, _, _, _, _, _, _, _, _, _, _, _, _, _, _, _, r, rfl, hb.size, heap_alloc_new we _, h.up ((Below.refl _ _).alloc (Nat.le_refl _) _), hb.alloc hb.size _⟩
theorem pf_set {w1 we : World} {x : Itk} {t : Nat} {Ac Ah At Al Ag : Option Addr} {nc kc nh kh nt kt nl kl ng kg : Nat} {r : List (List UInt8)} {a0 a1 a2 a3 a4 a5 a6 : Value} (h3 : we.heap[t]? = some (.cells #[a0, a1, a2, a3, a4, a5, a6] 85 (0, 0))) (ht : w1.heap.size ≤ t) (h : PtsV we w1.heap.size x (.slice Ac nc kc) (.slice Ah nh kh) (.slice At nt kt) (.slice Al nl kl) (.slice Ag ng kg) r) (hb : RowKit.Below w1.heap.size w1 we) (a b : Int) :
    PfAt w1 x a b (.pointer (some ⟨t, 0, none⟩)) (((((((we.setCell ⟨t, 0, none⟩ (.int .i64 a)).setCell ⟨t, 1, none⟩ (.int .i64 b)).setCell ⟨t, 2, none⟩ (.slice Ac nc kc)).setCell ⟨t, 3, none⟩ (.slice Ah nh kh)).setCell ⟨t, 4, none⟩ (.slice At nt kt)).setCell ⟨t, 5, none⟩ (.slice Al nl kl)).setCell ⟨t, 6, none⟩ (.slice Ag ng kg)) := by
  have e1 := heap_set_row (o := 6) (u := .slice Ag ng kg) (heap_set_row (o := 5) (u := .slice Al nl kl) (heap_set_row (o := 4) (u := .slice At nt kt) (heap_set_row (o := 3) (u := .slice Ah nh kh) (heap_set_row (o := 2) (u := .slice Ac nc kc) (heap_set_row (o := 1) (u := .int .i64 b) (heap_set_row (o := 0) (u := .int .i64 a) h3))))))
  simp only [List.setIfInBounds_toArray, List.set_cons_zero, List.set_cons_succ] at e1
  refine ⟨_, _, _, _, _, _, _, _, _, _, _, _, _, _, _, _, r, rfl, ht, e1, h.keepB h3 fun k _ hk => ?_, (((((((hb.setCell (p := ⟨t, 0, none⟩) ht _).setCell (p := ⟨t, 1, none⟩) ht _).setCell (p := ⟨t, 2, none⟩) ht _).setCell (p := ⟨t, 3, none⟩) ht _).setCell (p := ⟨t, 4, none⟩) ht _).setCell (p := ⟨t, 5, none⟩) ht _).setCell (p := ⟨t, 6, none⟩) ht _)⟩
  repeat rw [Below.heap_setCell _ _ _ _ hk]
def PtsPost (w : World) (x : Itk) (e : Ending) (w' : World) : Prop := ∃ vc vh vt vl vg r, e = .returned (ptsAgg x.clk.slack x.clk.idle vc vh vt vl vg) ∧ PtsV w' w.heap.size x vc vh vt vl vg r ∧ RowKit.Below w.heap.size w w'
theorem tab_up {w W : World} {nm : String} {k : IntKind} {zs : List Int} (h : Lib.TabBelow Tryz.prog w.heap.size w nm k zs) (hb : RowKit.Below w.heap.size w W) : Lib.TabBelow Tryz.prog W.heap.size W nm k zs := fun w' hw => h w' (hb.trans (hw.mono hb.size))
theorem ItkOk.hadrow {N : Nat} {x : Itk} (h : ItkOk N x) (hok : HadOk x.had) : ∀ p ∈ x.had, p.2.length ≤ N := fun p hp => by
  have := h.rows p.1
  unfold hadRow at this
  rw [getB_of_mem hok.up (k := p.1) (v := p.2) hp] at this
  exact this
set_option maxRecDepth 100000 in
set_option maxHeartbeats 4000000 in
theorem parts_any (w : World) (F : Nat → Prop) (bi N : Nat) (x : Itk) (h : ItkAt w F bi N x) (hN : N ≤ 90000) (hm : MaxAt w) (htab : Lib.TabBelow Tryz.prog w.heap.size w "internal/strconv.uint64pow10" .u64 Lib.pow10Tab) :
    Calls Tryz.prog 40 #[.pointer (some ⟨bi, 0, none⟩)] w (PtsPost w x) := by
  have HI := Lib.hid h
  obtain ⟨A, hM, hO, _⟩ := h
  have HMM := Lib.hid hM; have HO := Lib.hid hO; have HM := Lib.hid hm; have HT := Lib.hid htab
  clear hM hO hm htab
  have hb1 : RowKit.Below w.heap.size w (w.alloc (.cells #[.int .i64 0, .int .i64 0, .slice none 0 0, .slice none 0 0, .slice none 0 0, .slice none 0 0, .slice none 0 0] 85)) := (Below.refl _ _).alloc (Nat.le_refl _) _
  have HB1 := Lib.hid hb1
  have hs1 : w.heap.size < (w.alloc (.cells #[.int .i64 0, .int .i64 0, .slice none 0 0, .slice none 0 0, .slice none 0 0, .slice none 0 0, .slice none 0 0] 85)).heap.size := by simp
  have HX1 := Lib.hid (heap_alloc_new w (.cells #[.int .i64 0, .int .i64 0, .slice none 0 0, .slice none 0 0, .slice none 0 0, .slice none 0 0, .slice none 0 0] 85))
  clear hb1
  go_enter Tryz.func40, Tryz.ntmps40
  go_wp2
  generalize w.alloc (.cells #[.int .i64 0, .int .i64 0, .slice none 0 0, .slice none 0 0, .slice none 0 0, .slice none 0 0, .slice none 0 0] 85) = w1 at *
  have HCE := Lib.hid (show ∀ W, RowKit.Below w.heap.size w W → Calls Tryz.prog 75 #[.pointer (some ⟨A.bc, 0, none⟩)] W (CePost W (encC x.clk)) from fun W hW =>
    clkenc_any W A.bc A.bm x.clk (HMM.out.clk.up hW) (Nat.le_trans HO.out.src (by omega)) (tab_up HT.out hW))
  have HHE := Lib.hid (show ∀ W, RowKit.Below w.heap.size w W → Calls Tryz.prog 42 #[.pointer (some ⟨A.bs, 0, none⟩)] W (EncPost W (encH x.had)) from fun W hW =>
    encode_any W A.G A.bs A.bh x.had A.V (HMM.out.had.up hW) (Nat.le_trans HO.out.had hN) (fun p hp => Nat.le_trans (HO.out.hadrow HMM.out.had.ok p hp) hN))
  have HTK := Lib.hid (show ∀ W, RowKit.Below w.heap.size w W → Calls Tryz.prog 13 #[.pointer (some ⟨bi, 0, none⟩)] W (OwnPost W x.taken) from fun W hW => itaken_any W F bi N x (HI.out.up hW) (by omega))
  have HLT := Lib.hid (show ∀ W, RowKit.Below w.heap.size w W → Calls Tryz.prog 76 #[.pointer (some ⟨bi, 0, none⟩)] W (OwnPost W x.late) from fun W hW => ilate_any W F bi N x (HI.out.up hW) (by omega))
  have HGO := Lib.hid (show ∀ W, RowKit.Below w.heap.size w W → Calls Tryz.prog 15 #[.pointer (some ⟨bi, 0, none⟩)] W (GonePost W x.gone) from fun W hW => igone_any W F bi N x (HI.out.up hW) (by omega))
  have HSS := Lib.hid (show ∀ W, RowKit.Below w.heap.size w W → W.cell? ⟨bi, 0, none⟩ = some (.pointer (some ⟨A.bc, 0, none⟩)) ∧ W.cell? ⟨bi, 1, none⟩ = some (.pointer (some ⟨A.bs, 0, none⟩)) from fun W hW => by
    have hb := (HMM.out.up hW).blk
    exact ⟨(cell_of_row W bi 0 _ _ (0, 0) hb).trans rfl, (cell_of_row W bi 1 _ _ (0, 0) hb).trans rfl⟩)
  have HCK := Lib.hid HMM.out.clk.ok
  have HBX := Lib.hid (show RowKit.Below w.heap.size w w1.drew from below_drewN HB1.out 1)
  have HBY := Lib.hid (show RowKit.Below w1.heap.size w1 w1.drew from below_drewN (Below.refl _ _) 1)
  have HBD := Lib.hid (show RowKit.Below w.heap.size w (w1.alloc (.cells #[.int .i64 0, .int .i64 0, .slice none 0 0, .slice none 0 0, .slice none 0 0, .slice none 0 0, .slice none 0 0] 85)).drew from below_drewN (HB1.out.alloc HB1.out.size _) 1)
  have HBE := Lib.hid (show RowKit.Below w1.heap.size w1 (w1.alloc (.cells #[.int .i64 0, .int .i64 0, .slice none 0 0, .slice none 0 0, .slice none 0 0, .slice none 0 0, .slice none 0 0] 85)).drew from below_drewN ((Below.refl _ _).alloc (Nat.le_refl _) _) 1)
  have HTZ := Lib.hid (show ((w1.alloc (.cells #[.int .i64 0, .int .i64 0, .slice none 0 0, .slice none 0 0, .slice none 0 0, .slice none 0 0, .slice none 0 0] 85)).drew).heap[w1.heap.size]? = some (.cells #[.int .i64 0, .int .i64 0, .slice none 0 0, .slice none 0 0, .slice none 0 0, .slice none 0 0, .slice none 0 0] 85) from heap_alloc_new w1 _)
  have hS := HSS.out _ HBX.out
  have hcl : (encC x.clk).length ≤ 10000000 := by
    have h1 := HMM.out.clk.ok
    have h2 := srcB_len h1 x.clk.src.length
    rw [List.take_length] at h2
    have h3 := HO.out.src
    have k1 := h1.slack; have k2 := h1.idle; have k3 := h1.now; have k4 := h1.mark
    have h4 := lineB_len [99, 108, 111, 99, 107] [x.clk.slack, x.clk.idle, x.clk.now, x.clk.mark] (by intro v hv; simp at hv; rcases hv with rfl | rfl | rfl | rfl <;> omega)
    simp only [List.length_cons, List.length_nil] at h4
    unfold encC; rw [List.length_append]; omega
  have HCL := Lib.hid hcl
  clear hcl HI HMM HO
  generalize A.bc = bc at *
  generalize A.bs = bs at *
  go_cut [3] (fun v wc => PfAt w1 x 0 0 v wc)
  case first =>
    go_region_held3 (fun W => W.cell? ⟨bi, 0, none⟩ = some (.pointer (some ⟨bc, 0, none⟩)) ∧ W.cell? ⟨bi, 1, none⟩ = some (.pointer (some ⟨bs, 0, none⟩))) (first | with_reducible assumption | with_reducible exact HSS.out _ HBX.out | with_reducible exact HSS.out _ HBD.out | with_reducible exact HSS.out _ (HBX.out.alloc HBX.out.size _) | with_reducible exact HSS.out _ (((((((HBX.out.setCell (p := ⟨_, 0, none⟩) HTN _).setCell (p := ⟨_, 1, none⟩) HTN _).setCell (p := ⟨_, 2, none⟩) HTN _).setCell (p := ⟨_, 3, none⟩) HTN _).setCell (p := ⟨_, 4, none⟩) HTN _).setCell (p := ⟨_, 5, none⟩) HTN _).setCell (p := ⟨_, 6, none⟩) HTN _) | go_keep)
      (first
        | (go_at_call 75; first | ((with_reducible refine (HCE.out _ HBX.out).mono ?_); rintro r wa ⟨vc, rfl, oc, hba0⟩; have HSZ := HBY.out.size; obtain ⟨Ac, kc, rfl⟩ := oc.form; have OC := Lib.hid (oc.base_le HSZ); have hba := hba0; (first | (have HT4 := Lib.hid ((hba.block _ (heap_lt HT3.out)).trans HT3.out); clear HT3; have HT3 := HT4; clear HT4) | skip); have HBX2 := Lib.hid (HBX.out.trans (hba.mono HBX.out.size)); have HBY2 := Lib.hid (HBY.out.trans (hba.mono HBY.out.size)); clear HBX HBY; have HBX := HBX2; have HBY := HBY2; clear HBX2 HBY2 hS; have hS := HSS.out _ HBX.out; clear oc hba hba0 HSZ) | ((with_reducible refine (HCE.out _ HBD.out).mono ?_); rintro r wa ⟨vc, rfl, oc, hba0⟩; have HSZ := HBE.out.size; obtain ⟨Ac, kc, rfl⟩ := oc.form; have OC := Lib.hid (oc.base_le HSZ); have HT3 := Lib.hid ((hba0.block w1.heap.size (heap_lt HTZ.out)).trans HTZ.out); have HTN := HB1.out.size; have HTM := Nat.le_refl w1.heap.size; have HBX2 := Lib.hid (HBD.out.trans (hba0.mono HBD.out.size)); have HBY2 := Lib.hid (HBE.out.trans (hba0.mono HBE.out.size)); clear HBX HBY; have HBX := HBX2; have HBY := HBY2; clear HBX2 HBY2 hS; have hS := HSS.out _ HBX.out; clear oc hba0 HSZ))
        | (go_at_call 42; first | ((with_reducible refine (HHE.out _ HBX.out).mono ?_); rintro r wb ⟨vh, rfl, oh, hba0⟩; have HSZ := HBY.out.size; obtain ⟨Ah, kh, rfl⟩ := oh.form; have OH := Lib.hid (oh.base_le HSZ); have hba := hba0; (first | (have HT4 := Lib.hid ((hba.block _ (heap_lt HT3.out)).trans HT3.out); clear HT3; have HT3 := HT4; clear HT4) | skip); have OC2 := Lib.hid (OC.out.below hba (Nat.le_refl _)); clear OC; have OC := OC2; clear OC2; have HBX2 := Lib.hid (HBX.out.trans (hba.mono HBX.out.size)); have HBY2 := Lib.hid (HBY.out.trans (hba.mono HBY.out.size)); clear HBX HBY; have HBX := HBX2; have HBY := HBY2; clear HBX2 HBY2 hS; have hS := HSS.out _ HBX.out; clear oh hba hba0 HSZ) | ((with_reducible refine (HHE.out _ (HBX.out.alloc HBX.out.size _)).mono ?_); rintro r wb ⟨vh, rfl, oh, hba0⟩; have HSZ := alloc_size2 HBY.out hba0; obtain ⟨Ah, kh, rfl⟩ := oh.form; have OH := Lib.hid (oh.base_le HSZ); have hba := alloc_below hba0; have HT3 := Lib.hid (alloc_blk hba0); have HTN := HBX.out.size; have HTM := HBY.out.size; have OC2 := Lib.hid (OC.out.below hba (Nat.le_refl _)); clear OC; have OC := OC2; clear OC2; have HBX2 := Lib.hid (HBX.out.trans (hba.mono HBX.out.size)); have HBY2 := Lib.hid (HBY.out.trans (hba.mono HBY.out.size)); clear HBX HBY; have HBX := HBX2; have HBY := HBY2; clear HBX2 HBY2 hS; have hS := HSS.out _ HBX.out; clear oh hba hba0 HSZ))
        | (go_at_call 13; first | ((with_reducible refine (HTK.out _ HBX.out).mono ?_); rintro r wc ⟨vt, rfl, ot, hba0⟩; have HSZ := HBY.out.size; obtain ⟨At, kt, rfl⟩ := ownsRow_form ot; have OT := Lib.hid (OwnE.base_le ot HSZ); have hba := hba0; (first | (have HT4 := Lib.hid ((hba.block _ (heap_lt HT3.out)).trans HT3.out); clear HT3; have HT3 := HT4; clear HT4) | skip); have OC2 := Lib.hid (OC.out.below hba (Nat.le_refl _)); clear OC; have OC := OC2; clear OC2; have OH2 := Lib.hid (OH.out.below hba (Nat.le_refl _)); clear OH; have OH := OH2; clear OH2; have HBX2 := Lib.hid (HBX.out.trans (hba.mono HBX.out.size)); have HBY2 := Lib.hid (HBY.out.trans (hba.mono HBY.out.size)); clear HBX HBY; have HBX := HBX2; have HBY := HBY2; clear HBX2 HBY2 hS; have hS := HSS.out _ HBX.out; clear ot hba hba0 HSZ) | ((with_reducible refine (HTK.out _ (HBX.out.alloc HBX.out.size _)).mono ?_); rintro r wc ⟨vt, rfl, ot, hba0⟩; have HSZ := alloc_size2 HBY.out hba0; obtain ⟨At, kt, rfl⟩ := ownsRow_form ot; have OT := Lib.hid (OwnE.base_le ot HSZ); have hba := alloc_below hba0; have HT3 := Lib.hid (alloc_blk hba0); have HTN := HBX.out.size; have HTM := HBY.out.size; have OC2 := Lib.hid (OC.out.below hba (Nat.le_refl _)); clear OC; have OC := OC2; clear OC2; have OH2 := Lib.hid (OH.out.below hba (Nat.le_refl _)); clear OH; have OH := OH2; clear OH2; have HBX2 := Lib.hid (HBX.out.trans (hba.mono HBX.out.size)); have HBY2 := Lib.hid (HBY.out.trans (hba.mono HBY.out.size)); clear HBX HBY; have HBX := HBX2; have HBY := HBY2; clear HBX2 HBY2 hS; have hS := HSS.out _ HBX.out; clear ot hba hba0 HSZ))
        | (go_at_call 76; first | ((with_reducible refine (HLT.out _ HBX.out).mono ?_); rintro r wd ⟨vl, rfl, ol, hba0⟩; have HSZ := HBY.out.size; obtain ⟨Al, kl, rfl⟩ := ownsRow_form ol; have OL := Lib.hid (OwnE.base_le ol HSZ); have hba := hba0; (first | (have HT4 := Lib.hid ((hba.block _ (heap_lt HT3.out)).trans HT3.out); clear HT3; have HT3 := HT4; clear HT4) | skip); have OC2 := Lib.hid (OC.out.below hba (Nat.le_refl _)); clear OC; have OC := OC2; clear OC2; have OH2 := Lib.hid (OH.out.below hba (Nat.le_refl _)); clear OH; have OH := OH2; clear OH2; have OT2 := Lib.hid (ownsRow_below OT.out hba (Nat.le_refl _)); clear OT; have OT := OT2; clear OT2; have HBX2 := Lib.hid (HBX.out.trans (hba.mono HBX.out.size)); have HBY2 := Lib.hid (HBY.out.trans (hba.mono HBY.out.size)); clear HBX HBY; have HBX := HBX2; have HBY := HBY2; clear HBX2 HBY2 hS; have hS := HSS.out _ HBX.out; clear ol hba hba0 HSZ) | ((with_reducible refine (HLT.out _ (HBX.out.alloc HBX.out.size _)).mono ?_); rintro r wd ⟨vl, rfl, ol, hba0⟩; have HSZ := alloc_size2 HBY.out hba0; obtain ⟨Al, kl, rfl⟩ := ownsRow_form ol; have OL := Lib.hid (OwnE.base_le ol HSZ); have hba := alloc_below hba0; have HT3 := Lib.hid (alloc_blk hba0); have HTN := HBX.out.size; have HTM := HBY.out.size; have OC2 := Lib.hid (OC.out.below hba (Nat.le_refl _)); clear OC; have OC := OC2; clear OC2; have OH2 := Lib.hid (OH.out.below hba (Nat.le_refl _)); clear OH; have OH := OH2; clear OH2; have OT2 := Lib.hid (ownsRow_below OT.out hba (Nat.le_refl _)); clear OT; have OT := OT2; clear OT2; have HBX2 := Lib.hid (HBX.out.trans (hba.mono HBX.out.size)); have HBY2 := Lib.hid (HBY.out.trans (hba.mono HBY.out.size)); clear HBX HBY; have HBX := HBX2; have HBY := HBY2; clear HBX2 HBY2 hS; have hS := HSS.out _ HBX.out; clear ol hba hba0 HSZ))
        | (go_at_call 15; first | ((with_reducible refine (HGO.out _ HBX.out).mono ?_); rintro r we ⟨vg, rg, rfl, hrg, og, hba0⟩; have HSZ := HBY.out.size; obtain ⟨Ag, kg, rfl⟩ := ownsRow_form og; have OG := Lib.hid (ownsRow_base og HSZ); have HRG := Lib.hid hrg; clear hrg; have hba := hba0; (first | (have HT4 := Lib.hid ((hba.block _ (heap_lt HT3.out)).trans HT3.out); clear HT3; have HT3 := HT4; clear HT4) | skip); have OC2 := Lib.hid (OC.out.below hba (Nat.le_refl _)); clear OC; have OC := OC2; clear OC2; have OH2 := Lib.hid (OH.out.below hba (Nat.le_refl _)); clear OH; have OH := OH2; clear OH2; have OT2 := Lib.hid (ownsRow_below OT.out hba (Nat.le_refl _)); clear OT; have OT := OT2; clear OT2; have OL2 := Lib.hid (ownsRow_below OL.out hba (Nat.le_refl _)); clear OL; have OL := OL2; clear OL2; have HBX2 := Lib.hid (HBX.out.trans (hba.mono HBX.out.size)); have HBY2 := Lib.hid (HBY.out.trans (hba.mono HBY.out.size)); clear HBX HBY; have HBX := HBX2; have HBY := HBY2; clear HBX2 HBY2 hS; have hS := HSS.out _ HBX.out; clear og hba hba0 HSZ; (first | (have HT5 := HT3.out; obtain ⟨z0, z1, z2, z3, z4, z5, z6, y0, y1, y2, y3, y4, y5, y6⟩ := pts_cells HT5) | skip)) | ((with_reducible refine (HGO.out _ (HBX.out.alloc HBX.out.size _)).mono ?_); rintro r we ⟨vg, rg, rfl, hrg, og, hba0⟩; have HSZ := alloc_size2 HBY.out hba0; obtain ⟨Ag, kg, rfl⟩ := ownsRow_form og; have OG := Lib.hid (ownsRow_base og HSZ); have HRG := Lib.hid hrg; clear hrg; have hba := alloc_below hba0; have HT3 := Lib.hid (alloc_blk hba0); have HTN := HBX.out.size; have HTM := HBY.out.size; have OC2 := Lib.hid (OC.out.below hba (Nat.le_refl _)); clear OC; have OC := OC2; clear OC2; have OH2 := Lib.hid (OH.out.below hba (Nat.le_refl _)); clear OH; have OH := OH2; clear OH2; have OT2 := Lib.hid (ownsRow_below OT.out hba (Nat.le_refl _)); clear OT; have OT := OT2; clear OT2; have OL2 := Lib.hid (ownsRow_below OL.out hba (Nat.le_refl _)); clear OL; have OL := OL2; clear OL2; have HBX2 := Lib.hid (HBX.out.trans (hba.mono HBX.out.size)); have HBY2 := Lib.hid (HBY.out.trans (hba.mono HBY.out.size)); clear HBX HBY; have HBX := HBX2; have HBY := HBY2; clear HBX2 HBY2 hS; have hS := HSS.out _ HBX.out; clear og hba hba0 HSZ; obtain ⟨z0, z1, z2, z3, z4, z5, z6, y0, y1, y2, y3, y4, y5, y6⟩ := pts_cells HT3.out)))
    all_goals
      have HFV := Lib.hid (show PtsV we w1.heap.size x _ _ _ _ _ rg from ⟨OC.out, OH.out, OT.out, OL.out, OG.out, HRG.out⟩)
      go_wp2_with fail
      go_meet
      first
        | with_reducible exact pf_new HFV.out HBY.out 0 0
        | with_reducible exact pf_set HT3.out HTM HFV.out HBY.out 0 0
  case rest =>
    obtain ⟨t, Ac, nc, kc, Ah, nh, kh, At, nt, kt, Al, nl, kl, Ag, ng, kg, r, rfl, ht, hblk, hV, hB⟩ := hcut
    have HV := Lib.hid hV; have HB := Lib.hid hB; have HBK := Lib.hid hblk
    have hby := hV.clk.byt
    have hnc := hby.len
    have hcl := HCL.out
    have HTM := Lib.hid (terms_any wc Ac nc kc x.clk HCK.out hby (by omega) (HM.out.up (HB1.out.trans (hB.mono HB1.out.size))))
    obtain ⟨z0, z1, z2, z3, z4, z5, z6, y0, y1, y2, y3, y4, y5, y6⟩ := pts_cells hblk
    clear hcl hnc hby hblk hV hB
    go_wp2_with fail
    with_reducible refine HTM.out.mono ?_
    rintro r6 w6 ⟨rfl, hb6⟩
    clear z0 z1 z2 z3 z4 z5 z6 y0 y1 y2 y3 y4 y5 y6 HTM
    have hblk6 := (hb6.block _ (heap_lt HBK.out)).trans HBK.out
    have hX6 := (hb6.block _ (by have := HB.out.size; omega)).trans ((HB.out.block _ hs1).trans HX1.out)
    have HV6 := Lib.hid (HV.out.up hb6)
    have HB6 := Lib.hid (HB.out.trans (hb6.mono HB.out.size))
    have hne : w.heap.size ≠ t := by omega
    obtain ⟨z0, z1, z2, z3, z4, z5, z6, y0, y1, y2, y3, y4, y5, y6⟩ := pts_cells hblk6
    have e1 := heap_set_row (o := 1) (u := .int .i64 x.clk.idle) (heap_set_row (o := 0) (u := .int .i64 x.clk.slack) hblk6)
    simp only [List.setIfInBounds_toArray, List.set_cons_zero, List.set_cons_succ] at e1
    have HBK7 := Lib.hid e1
    have HX7 := Lib.hid (show ((w6.setCell ⟨t, 0, none⟩ (.int .i64 x.clk.slack)).setCell ⟨t, 1, none⟩ (.int .i64 x.clk.idle)).heap[w.heap.size]? = _ from (Below.heap_setCell _ _ _ _ hne).trans ((Below.heap_setCell _ _ _ _ hne).trans hX6))
    have HV7 := Lib.hid (show PtsV ((w6.setCell ⟨t, 0, none⟩ (.int .i64 x.clk.slack)).setCell ⟨t, 1, none⟩ (.int .i64 x.clk.idle)) w1.heap.size x _ _ _ _ _ r from HV6.out.keepB hblk6 fun b _ hb => (Below.heap_setCell _ _ _ _ hb).trans (Below.heap_setCell _ _ _ _ hb))
    have HB7 := Lib.hid (show RowKit.Below w1.heap.size w1 ((w6.setCell ⟨t, 0, none⟩ (.int .i64 x.clk.slack)).setCell ⟨t, 1, none⟩ (.int .i64 x.clk.idle)) from (HB6.out.setCell (p := ⟨t, 0, none⟩) ht _).setCell (p := ⟨t, 1, none⟩) ht _)
    clear e1 hX6 hblk6 hb6 HV HB HBK HV6 HB6
    go_upto_region 3 with fail
    clear z0 z1 z2 z3 z4 z5 z6 y0 y1 y2 y3 y4 y5 y6
    generalize (w6.setCell ⟨t, 0, none⟩ (.int .i64 x.clk.slack)).setCell ⟨t, 1, none⟩ (.int .i64 x.clk.idle) = w7 at *
    obtain ⟨z0, z1, z2, z3, z4, z5, z6, _, _, _, _, _, _, _⟩ := pts_cells HBK7.out
    obtain ⟨x0, x1, x2, x3, x4, x5, x6, y0, y1, y2, y3, y4, y5, y6⟩ := pts_cells HX7.out
    have e1 := heap_set_row (o := 6) (u := .slice Ag ng kg) (heap_set_row (o := 5) (u := .slice Al nl kl) (heap_set_row (o := 4) (u := .slice At nt kt) (heap_set_row (o := 3) (u := .slice Ah nh kh) (heap_set_row (o := 2) (u := .slice Ac nc kc) (heap_set_row (o := 1) (u := .int .i64 x.clk.idle) (heap_set_row (o := 0) (u := .int .i64 x.clk.slack) HX7.out))))))
    simp only [List.setIfInBounds_toArray, List.set_cons_zero, List.set_cons_succ] at e1
    have HR := Lib.hid (show PtsPost w x (.returned (ptsAgg x.clk.slack x.clk.idle (.slice Ac nc kc) (.slice Ah nh kh) (.slice At nt kt) (.slice Al nl kl) (.slice Ag ng kg))) (((((((w7.setCell ⟨w.heap.size, 0, none⟩ (.int .i64 x.clk.slack)).setCell ⟨w.heap.size, 1, none⟩ (.int .i64 x.clk.idle)).setCell ⟨w.heap.size, 2, none⟩ (.slice Ac nc kc)).setCell ⟨w.heap.size, 3, none⟩ (.slice Ah nh kh)).setCell ⟨w.heap.size, 4, none⟩ (.slice At nt kt)).setCell ⟨w.heap.size, 5, none⟩ (.slice Al nl kl)).setCell ⟨w.heap.size, 6, none⟩ (.slice Ag ng kg)) from by
      have hk : ∀ b, b ≠ w.heap.size → (((((((w7.setCell ⟨w.heap.size, 0, none⟩ (.int .i64 x.clk.slack)).setCell ⟨w.heap.size, 1, none⟩ (.int .i64 x.clk.idle)).setCell ⟨w.heap.size, 2, none⟩ (.slice Ac nc kc)).setCell ⟨w.heap.size, 3, none⟩ (.slice Ah nh kh)).setCell ⟨w.heap.size, 4, none⟩ (.slice At nt kt)).setCell ⟨w.heap.size, 5, none⟩ (.slice Al nl kl)).setCell ⟨w.heap.size, 6, none⟩ (.slice Ag ng kg)).heap[b]? = w7.heap[b]? := fun b hb => by
        repeat rw [Below.heap_setCell _ _ _ _ hb]
      have hV8 := HV7.out.keepB HX7.out fun b _ hb => hk b hb
      refine ⟨_, _, _, _, _, r, rfl, ⟨ownsRow_base hV8.clk (by omega), ownsRow_base hV8.had (by omega), ownsRow_base hV8.taken (by omega), ownsRow_base hV8.late (by omega), ownsRow_base hV8.gone (by omega), hV8.rise⟩, ?_⟩
      have hb := HB1.out.trans (HB7.out.mono (Nat.le_of_lt hs1))
      exact ((((((hb.setCell (p := ⟨w.heap.size, 0, none⟩) (Nat.le_refl _) _).setCell (p := ⟨w.heap.size, 1, none⟩) (Nat.le_refl _) _).setCell (p := ⟨w.heap.size, 2, none⟩) (Nat.le_refl _) _).setCell (p := ⟨w.heap.size, 3, none⟩) (Nat.le_refl _) _).setCell (p := ⟨w.heap.size, 4, none⟩) (Nat.le_refl _) _).setCell (p := ⟨w.heap.size, 5, none⟩) (Nat.le_refl _) _).setCell (p := ⟨w.heap.size, 6, none⟩) (Nat.le_refl _) _)
    go_wp2
    have key : ∀ o, _ = _ := fun o => cell_of_row _ w.heap.size o _ _ (0, 0) e1
    have r0 := key 0; have r1 := key 1; have r2 := key 2; have r3 := key 3; have r4 := key 4; have r5 := key 5; have r6' := key 6
    exact bodyPost_ret (v := ptsAgg x.clk.slack x.clk.idle (.slice Ac nc kc) (.slice Ah nh kh) (.slice At nt kt) (.slice Al nl kl) (.slice Ag ng kg)) (by simp [results, Tryz.results40, go_sem, r0, r1, r2, r3, r4, r5, r6']) rfl HR.out
end Go.Proofs.YtgbagjpokpchpaaGreatDoor
