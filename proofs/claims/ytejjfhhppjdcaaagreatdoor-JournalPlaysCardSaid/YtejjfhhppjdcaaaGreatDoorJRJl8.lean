/-
  Layer 5: the document's Read.
  Layer 5: the document's Of.
-/
import Derived.Test.YtejjfhhppjdcaaaGreatDoorJRJl6
namespace Go.Proofs.YtejjfhhppjdcaaaGreatDoor
open Go.RowKit Go.Maps Go.Sort

def RRdRel (w : World) (f : Nat) (l : List (Option Ev)) (v u i : Value) (wr : World) : Prop := ∃ k : Nat, i = .int .i64 ((f + k : Nat) : Int) ∧ k ≤ l.length ∧ OwnE wr w.heap.size v (rdEv (l.take k)) ∧ OwnI wr w.heap.size u (rdAt f (l.take k)) ∧ RowKit.Below w.heap.size w wr
def RRdPost (w : World) (evs : List Ev) (ats : List Int) (e : Ending) (w' : World) : Prop := ∃ v u, e = .returned (.tuple #[v, u]) ∧ OwnE w' w.heap.size v evs ∧ OwnI w' w.heap.size u ats ∧ RowKit.Below w.heap.size w w'
set_option maxRecDepth 100000 in
set_option maxHeartbeats 4000000 in
theorem rread05_any (w : World) (A : Option Addr) (n c : Nat) (l : List (Option Ev)) (h : Ents w w.heap.size A n c l) (hn : n ≤ 100000) (f b : Nat) (hf : f ≤ n) (hb : b ≤ 1000000) (seg : List (Option Ev)) (hs : seg = (l.drop f).take b) :
    Calls Tryz.prog 78 #[.slice A n c, .int .i64 f, .int .i64 b] w (RRdPost w (rdEv seg) (rdAt f seg)) := by
  have HH := Lib.hid h
  have HSL := Lib.hid (show seg.length = min b (n - f) by rw [hs, List.length_take, List.length_drop, h.len])
  have HSG := Lib.hid (show ∀ k (hk : k < seg.length) (hk' : f + k < l.length), seg[k] = l[f + k] from fun k hk hk' => by subst hs; simp)
  have HL := Lib.hid h.len
  clear h hs
  have HST := Lib.hid (show RRdRel w f seg (.slice (some ⟨w.heap.size, 0, none⟩) 0 0) (.slice (some ⟨w.heap.size + 1, 0, none⟩) 0 0) (.int .i64 (f : Int)) ((w.alloc (.cells #[] 36)).alloc (.cells #[] 3)) from by
    refine ⟨0, rfl, Nat.zero_le _, ?_, ?_, ((Below.refl _ _).alloc (Nat.le_refl _) _).alloc (by simp) _⟩
    · have : OwnE (w.alloc (.cells #[] 36)) w.heap.size (.slice (some ⟨w.heap.size, 0, none⟩) 0 0) [] := World.ownsRow_lit w #[] 0 (Nat.le_refl _) (by simp [maxLen]) rfl
      exact World.ownsRow.alloc this _
    · have := World.ownsRow_lit (base := w.heap.size) (e := 3) (size := 1) (w.alloc (.cells #[] 36)) #[] 0 (by simp) (by simp [maxLen]) rfl
      rw [show (w.alloc (.cells #[] 36)).heap.size = w.heap.size + 1 by simp] at this
      exact this)
  go_enter Tryz.func78, Tryz.ntmps78
  go_wp2
  go_loopw [8, 9, 10] (fun v u i wr => RRdRel w f seg v u i wr) (fun _ _ i _ => n - (intOf i).toNat)
  case atStart => exact HST.out
  case round =>
    obtain ⟨k, rfl, hk, hov, hou, hbel⟩ := hrel
    have HV := Lib.hid hov; have HU := Lib.hid hou; have HBL := Lib.hid hbel
    clear hov hou
    have hkL : k ≤ b ∧ k ≤ n - f := by have := HSL.out; omega
    by_cases hkn : f + k < n ∧ k < b
    · have hkl : k < seg.length := by have := HSL.out; omega
      obtain ⟨b', off, rfl, hbb, hd⟩ := HH.out.at_ (f + k) (by rw [HL.out]; exact hkn.1)
      rw [← HSG.out k hkl (by rw [HL.out]; exact hkn.1)] at hd
      obtain ⟨e0, e1, e2, e3, e4, e5, e6, e7, e8⟩ := hd.below hbel hbb
      have HTK := Lib.hid (show seg.take (k + 1) = seg.take k ++ [seg[k]] by rw [List.take_add_one, List.getElem?_eq_getElem hkl, Option.toList_some])
      have hlk : (seg.take k).length = k := by rw [List.length_take]; omega
      have hle := rdEv_le (seg.take k)
      have hlu := rdAt_len (seg.take k) f
      have hsz := hbel.size
      have t1 : ((f + k : Nat) : Int) < n := by omega
      have t2 : ((f + k : Nat) : Int) - f < b := by omega
      have hmx : k < 1000000 := by omega
      generalize seg[k] = x at *
      clear hd hbb hbel
      generalize hfk : f + k = q at *
      have HFK := Lib.hid hfk; clear hfk
      cases hxn : x.isNone
      · obtain ⟨e, rfl⟩ : ∃ e, x = some e := by cases x with
          | none => simp at hxn
          | some e => exact ⟨e, rfl⟩
        simp only [entE, Option.getD_some, Option.isNone_some] at e0 e1 e2 e3 e4 e5 e6 e7 e8
        have HFIN := Lib.hid (show ∀ v' u' w3, OwnE w3 w.heap.size v' (rdEv (seg.take k) ++ [e]) → OwnI w3 w.heap.size u' (rdAt f (seg.take k) ++ [(q : Int)]) → RowKit.Below w.heap.size w w3 → RRdRel w f seg v' u' (.int .i64 ((q : Int) + 1)) w3 from fun v' u' w3 h1 h2 h3 => by
          refine ⟨k + 1, by rw [← HFK.out]; rfl, by omega, ?_, ?_, h3⟩
          · rw [HTK.out, rdEv_snoc]; exact h1
          · rw [HTK.out, rdAt_snoc, Option.isSome_some, if_pos rfl, hlk, show (f : Int) + (k : Int) = (q : Int) by rw [← HFK.out]; simp]; exact h2)
        obtain ⟨i0, hi, hz0, hz1, hz2⟩ := info_parts ev_info
        have HI := Lib.hid hi; have HZ0 := Lib.hid hz0; have HZ1 := Lib.hid hz1; have HZ2 := Lib.hid hz2
        clear hi hz0 hz1 hz2 HTK
        obtain ⟨j0, hi, hz0, hz1, hz2⟩ := info_parts jint_info
        have KI := Lib.hid hi; have KZ0 := Lib.hid hz0; have KZ1 := Lib.hid hz1; have KZ2 := Lib.hid hz2
        clear hi hz0 hz1 hz2 hkn
        go_wp2_with (at_builtin; refine wpList_app (P := Tryz.prog) rfl (.tmp 33) (.tmp 39) 22 rfl 36 i0 _ 8 96 Tryz.underlying22 HI.out HZ0.out HZ1.out HZ2.out rfl (by decide) w.heap.size _ (rdEv (seg.take k)).length (evCells (rdEv (seg.take k))) rfl ?c1 (wr.heap.size + 1) _ _ _ e.cells rfl ?c2 (cells_one e) ?c4 ?c5 ?c6 ?_)
        case c1 => exact World.ownsRow.alloc HV.out _
        case c2 => exact Cel.new (size := 8) (n := 1) wr #[.string ⟨e.src.toArray⟩, .int .i64 e.num, .int .i64 e.at_, .int .i64 e.kind, .string ⟨e.per.toArray⟩, .string ⟨e.item.toArray⟩, .int .i64 e.val, .string ⟨e.text.toArray⟩] 36 (by unfold maxLen; omega) rfl
        case c4 => unfold maxLen; omega
        case c5 => omega
        case c6 => first | omega | (simp; omega)
        intro v' w2 hown2 hg2 _
        have HV2 := Lib.hid (show OwnE w2 w.heap.size v' (rdEv (seg.take k) ++ [e]) from by
          unfold OwnE; rw [evCells_one, List.length_append]; exact hown2)
        have hbl2 : RowKit.Below w.heap.size w w2 := Below.grown (HBL.out.alloc HBL.out.size _) hg2 (by first | omega | (simp; omega)) (fun k' hk' => (World.ownsRow.lt HV.out k' hk').1)
        have HB2 := Lib.hid hbl2
        have HU2 := Lib.hid (show OwnI w2 w.heap.size u9 (rdAt f (seg.take k)) from World.ownsRow.kept (World.ownsRow.alloc HU.out _) hg2 (ownsRow_apart HU.out HV.out (by decide)))
        have hsz2 := hbl2.size
        clear hown2 hg2 hbl2 e0 e1 e2 e3 e4 e5 e6 e7 e8
        go_wp2_with (at_builtin; refine wpList_app (P := Tryz.prog) rfl (.tmp 41) (.tmp 43) 63 rfl 3 j0 _ 1 8 Tryz.underlying63 KI.out KZ0.out KZ1.out KZ2.out rfl (by decide) w.heap.size _ (rdAt f (seg.take k)).length (intVs (rdAt f (seg.take k))) rfl ?c1 (w2.heap.size + 1) _ _ _ [.int .i64 (q : Int)] rfl ?c2 ?c3 ?c4 ?c5 ?c6 ?_)
        case c1 => exact World.ownsRow.alloc HU2.out _
        case c2 => exact Cel.new (size := 1) (n := 1) w2 #[.int .i64 (q : Int)] 3 (by unfold maxLen; omega) rfl
        case c3 => intro u hu; simp at hu; subst hu; rfl
        case c4 => unfold maxLen; omega
        case c5 => omega
        case c6 => first | omega | (simp; omega)
        intro u' w3 hown3 hg3 _
        have HU3 := Lib.hid (show OwnI w3 w.heap.size u' (rdAt f (seg.take k) ++ [(q : Int)]) from by
          unfold OwnI intVs; rw [List.map_append, List.length_append, hlu]; exact hown3)
        have HV3 := Lib.hid (show OwnE w3 w.heap.size v' (rdEv (seg.take k) ++ [e]) from World.ownsRow.kept (World.ownsRow.alloc HV2.out _) hg3 (ownsRow_apart HV2.out HU2.out (by decide)))
        have HB3 := Lib.hid (show RowKit.Below w.heap.size w w3 from Below.grown (HB2.out.alloc HB2.out.size _) hg3 (by first | omega | (simp; omega)) (fun k' hk' => (World.ownsRow.lt HU2.out k' hk').1))
        have HRL := Lib.hid (HFIN.out v' u' w3 HV3.out HU3.out HB3.out)
        clear hown3 hg3
        go_wp2
        go_roundw
        case rel => exact HRL.out
        case measure => simp [intOf]; omega
      · have hx : x = none := by cases x with
          | none => rfl
          | some e => simp at hxn
        rw [hxn] at e8
        have HRL := Lib.hid (show RRdRel w f seg u8 u9 (.int .i64 ((q : Int) + 1)) wr from by
          refine ⟨k + 1, by rw [← HFK.out]; rfl, by omega, ?_, ?_, HBL.out⟩
          · rw [HTK.out, rdEv_snoc, hx, Option.toList_none, List.append_nil]; exact HV.out
          · rw [HTK.out, rdAt_snoc, hx, Option.isSome_none, if_neg (by simp), List.append_nil]; exact HU.out)
        subst hx
        clear e0 e1 e2 e3 e4 e5 e6 e7 hkn
        go_wp2
        go_roundw
        case rel => exact HRL.out
        case measure => simp [intOf]; omega
    · have hz : seg.take k = seg := List.take_of_length_le (by have := HSL.out; omega)
      have HFIN := Lib.hid (show RRdPost w (rdEv seg) (rdAt f seg) (.returned (.tuple #[u8, u9])) wr from ⟨_, _, rfl, by rw [← hz]; exact HV.out, by rw [← hz]; exact HU.out, HBL.out⟩)
      clear hz
      by_cases hk1 : f + k < n
      · have t1 : ((f + k : Nat) : Int) < n := by omega
        have t2 : ¬ ((f + k : Nat) : Int) - f < b := by omega
        generalize hfk : f + k = q at *
        have HFK := Lib.hid hfk; clear hfk hkn
        go_wp2
        go_ret2
        exact HFIN.out
      · have t1 : ¬ ((f + k : Nat) : Int) < n := by omega
        generalize hfk : f + k = q at *
        have HFK := Lib.hid hfk; clear hfk hkn
        go_wp2
        go_ret2
        exact HFIN.out
end Go.Proofs.YtejjfhhppjdcaaaGreatDoor
namespace Go.Proofs.YtejjfhhppjdcaaaGreatDoor
open Go.RowKit Go.Maps Go.Sort

theorem rent_info : (Tryz.prog.info? 72).map (fun i => (i.zero, i.size, i.bytes)) = some (some (.agg #[.string ByteArray.empty, .int .i64 0, .int .i64 0, .int .i64 0, .string ByteArray.empty, .string ByteArray.empty, .int .i64 0, .string ByteArray.empty, .bool false]), 9, 104) := by kernel_rfl
/-- a row of the document's entries -/
def OwnR (w : World) (base : Nat) (v : Value) (es : List (Option Ev)) : Prop := w.ownsRow base 72 9 v es.length (entCells es)
def ROfRel (w : World) (ds : List Ev) (v i : Value) (wr : World) : Prop := ∃ k : Nat, i = .int .i64 k ∧ k ≤ ds.length ∧ OwnR wr w.heap.size v ((ds.map some).take k) ∧ RowKit.Below w.heap.size w wr
def OwnRP (w : World) (es : List (Option Ev)) (e : Ending) (w' : World) : Prop := ∃ v, e = .returned v ∧ OwnR w' w.heap.size v es ∧ RowKit.Below w.heap.size w w'
set_option maxRecDepth 100000 in
set_option maxHeartbeats 4000000 in
theorem rof_any (w : World) (A : Option Addr) (n c : Nat) (ds : List Ev) (h : Evs w w.heap.size A n c ds) (hn : n ≤ 100000) :
    Calls Tryz.prog 27 #[.slice A n c] w (OwnRP w (ds.map some)) := by
  have HH := Lib.hid h
  have HL := Lib.hid h.len
  clear h
  have HST := Lib.hid (show ROfRel w ds (.slice (some ⟨w.heap.size, 0, none⟩) 0 0) (.int .i64 ((0 : Nat) : Int)) (w.alloc (.cells #[] 72)) from ⟨0, rfl, Nat.zero_le _, World.ownsRow_lit w #[] 0 (Nat.le_refl _) (by simp [maxLen]) rfl, (Below.refl _ _).alloc (Nat.le_refl _) _⟩)
  obtain ⟨i0, hi, hz0, hz1, hz2⟩ := info_parts rent_info
  have HI := Lib.hid hi; have HZ0 := Lib.hid hz0; have HZ1 := Lib.hid hz1; have HZ2 := Lib.hid hz2
  clear hi hz0 hz1 hz2
  go_enter Tryz.func27, Tryz.ntmps27
  go_wp2
  go_loopw [3, 4] (fun v i wr => ROfRel w ds v i wr) (fun _ i _ => n - (intOf i).toNat)
  case atStart => exact HST.out
  case round =>
    obtain ⟨k, rfl, hk, hov, hbel⟩ := hrel
    have HV := Lib.hid hov; have HBL := Lib.hid hbel
    clear hov
    have hkL : k ≤ n := by rw [← HL.out]; exact hk
    by_cases hkn : k < n
    · have hkl : k < ds.length := by rw [HL.out]; exact hkn
      obtain ⟨b, off, rfl, hb, hd⟩ := HH.out.ev k hkl
      obtain ⟨e0, e1, e2, e3, e4, e5, e6, e7⟩ := hd.below hbel hb
      have HTK := Lib.hid (show (ds.map some).take (k + 1) = (ds.map some).take k ++ [some ds[k]] by rw [List.take_add_one, List.getElem?_map, List.getElem?_eq_getElem hkl]; rfl)
      have hlk : ((ds.map some).take k).length = k := by rw [List.length_take, List.length_map]; omega
      have hsz := hbel.size
      generalize ds[k] = e at *
      have t1 : (k : Int) < n := by omega
      clear hd hb hbel hkn
      go_wp2_with (at_builtin; refine wpList_app (P := Tryz.prog) rfl (.tmp 12) (.tmp 18) 47 rfl 72 i0 _ 9 104 Tryz.underlying47 HI.out HZ0.out HZ1.out HZ2.out rfl (by decide) w.heap.size _ ((ds.map some).take k).length (entCells ((ds.map some).take k)) rfl ?c1 (wr.heap.size + 1) _ _ _ (entC (some e)) rfl ?c2 (entC_one _) ?c4 ?c5 ?c6 ?_)
      case c1 => exact World.ownsRow.alloc HV.out _
      case c2 => exact Cel.new (size := 9) (n := 1) wr #[.string ⟨e.src.toArray⟩, .int .i64 e.num, .int .i64 e.at_, .int .i64 e.kind, .string ⟨e.per.toArray⟩, .string ⟨e.item.toArray⟩, .int .i64 e.val, .string ⟨e.text.toArray⟩, .bool false] 72 (by unfold maxLen; omega) rfl
      case c4 => unfold maxLen; omega
      case c5 => omega
      case c6 => first | omega | (simp; omega)
      intro v' w2 hown2 hg2 _
      have HRL := Lib.hid (show ROfRel w ds v' (.int .i64 ((k : Int) + 1)) w2 from ⟨k + 1, rfl, by omega, by
        rw [HTK.out]; unfold OwnR; rw [entCells_one, List.length_append, hlk]; exact hown2, Below.grown (HBL.out.alloc HBL.out.size _) hg2 (by first | omega | (simp; omega)) (fun k' hk' => (World.ownsRow.lt HV.out k' hk').1)⟩)
      clear hown2 hg2 e0 e1 e2 e3 e4 e5 e6 e7
      go_wp2
      go_roundw
      case rel => exact HRL.out
      case measure => simp [intOf]; omega
    · have t1 : ¬ (k : Int) < n := by omega
      have HZ := Lib.hid (show OwnRP w (ds.map some) (.returned u3) wr from ⟨_, rfl, by rw [show ds.map some = (ds.map some).take k by rw [List.take_of_length_le (by rw [List.length_map, HL.out]; omega)]]; exact HV.out, HBL.out⟩)
      go_wp2
      go_ret
      exact HZ.out
end Go.Proofs.YtejjfhhppjdcaaaGreatDoor
