/-
  Layer 5: the document's Read.
  Layer 5: the document's Of.
  Layer 5: the document's Files.
-/
import Derived.Test.YtejjfhhppjdcaaaGreatDoorORJl6
import Derived.Test.YtejjfhhppjdcaaaGreatDoorODk7
namespace Go.Proofs.YtejjfhhppjdcaaaGreatDoor
open Go.RowKit Go.Maps Go.Sort

def RRdRel (w : World) (f : Nat) (l : List (Option Ev)) (v u i : Value) (wr : World) : Prop := ∃ k : Nat, i = .int .i64 ((f + k : Nat) : Int) ∧ k ≤ l.length ∧ OwnE wr w.heap.size v (rdEv (l.take k)) ∧ OwnI wr w.heap.size u (rdAt f (l.take k)) ∧ RowKit.Below w.heap.size w wr
def RRdPost (w : World) (evs : List Ev) (ats : List Int) (e : Ending) (w' : World) : Prop := ∃ v u, e = .returned (.tuple #[v, u]) ∧ OwnE w' w.heap.size v evs ∧ OwnI w' w.heap.size u ats ∧ RowKit.Below w.heap.size w w'
set_option maxRecDepth 100000 in
set_option maxHeartbeats 4000000 in
theorem rread05_any (w : World) (A : Option Addr) (n c : Nat) (l : List (Option Ev)) (h : Ents w w.heap.size A n c l) (hn : n ≤ 100000) (f b : Nat) (hf : f ≤ n) (hb : b ≤ 1000000) (seg : List (Option Ev)) (hs : seg = (l.drop f).take b) :
    Calls Tryz.prog 78 #[.slice A n c, .int .i64 f, .int .i64 b] w (RRdPost w (rdEv seg) (rdAt f seg)) := by
  have HH := Lib.hid h
  have HSL := Lib.hid (show seg.length = min b (n - f) by rw [hs, List.length_take, List.length_drop, h.len])
  have HSG := Lib.hid (show ∀ k (hk : k < seg.length) (hk' : f + k < l.length), seg[k] = l[f + k] from fun k hk hk' => by subst hs; simp)
  have HL := Lib.hid h.len
  clear h hs
  have HST := Lib.hid (show RRdRel w f seg (.slice (some ⟨w.heap.size, 0, none⟩) 0 0) (.slice (some ⟨w.heap.size + 1, 0, none⟩) 0 0) (.int .i64 (f : Int)) ((w.alloc (.cells #[] 36)).alloc (.cells #[] 3)) from by
    refine ⟨0, rfl, Nat.zero_le _, ?_, ?_, ((Below.refl _ _).alloc (Nat.le_refl _) _).alloc (by simp) _⟩
    · have : OwnE (w.alloc (.cells #[] 36)) w.heap.size (.slice (some ⟨w.heap.size, 0, none⟩) 0 0) [] := World.ownsRow_lit w #[] 0 (Nat.le_refl _) (by simp [maxLen]) rfl
      exact World.ownsRow.alloc this _
    · have := World.ownsRow_lit (base := w.heap.size) (e := 3) (size := 1) (w.alloc (.cells #[] 36)) #[] 0 (by simp) (by simp [maxLen]) rfl
      rw [show (w.alloc (.cells #[] 36)).heap.size = w.heap.size + 1 by simp] at this
      exact this)
  go_enter Tryz.func78, Tryz.ntmps78
  go_wp2
  go_loopw [8, 9, 10] (fun v u i wr => RRdRel w f seg v u i wr) (fun _ _ i _ => n - (intOf i).toNat)
  case atStart => exact HST.out
  case round =>
    obtain ⟨k, rfl, hk, hov, hou, hbel⟩ := hrel
    have HV := Lib.hid hov; have HU := Lib.hid hou; have HBL := Lib.hid hbel
    clear hov hou
    have hkL : k ≤ b ∧ k ≤ n - f := by have := HSL.out; omega
    by_cases hkn : f + k < n ∧ k < b
    · have hkl : k < seg.length := by have := HSL.out; omega
      obtain ⟨b', off, rfl, hbb, hd⟩ := HH.out.at_ (f + k) (by rw [HL.out]; exact hkn.1)
      rw [← HSG.out k hkl (by rw [HL.out]; exact hkn.1)] at hd
      obtain ⟨e0, e1, e2, e3, e4, e5, e6, e7, e8⟩ := hd.below hbel hbb
      have HTK := Lib.hid (show seg.take (k + 1) = seg.take k ++ [seg[k]] by rw [List.take_add_one, List.getElem?_eq_getElem hkl, Option.toList_some])
      have hlk : (seg.take k).length = k := by rw [List.length_take]; omega
      have hle := rdEv_le (seg.take k)
      have hlu := rdAt_len (seg.take k) f
      have hsz := hbel.size
      have t1 : ((f + k : Nat) : Int) < n := by omega
      have t2 : ((f + k : Nat) : Int) - f < b := by omega
      have hmx : k < 1000000 := by omega
      generalize seg[k] = x at *
      clear hd hbb hbel
      generalize hfk : f + k = q at *
      have HFK := Lib.hid hfk; clear hfk
      cases hxn : x.isNone
      · obtain ⟨e, rfl⟩ : ∃ e, x = some e := by cases x with
          | none => simp at hxn
          | some e => exact ⟨e, rfl⟩
        simp only [entE, Option.getD_some, Option.isNone_some] at e0 e1 e2 e3 e4 e5 e6 e7 e8
        have HFIN := Lib.hid (show ∀ v' u' w3, OwnE w3 w.heap.size v' (rdEv (seg.take k) ++ [e]) → OwnI w3 w.heap.size u' (rdAt f (seg.take k) ++ [(q : Int)]) → RowKit.Below w.heap.size w w3 → RRdRel w f seg v' u' (.int .i64 ((q : Int) + 1)) w3 from fun v' u' w3 h1 h2 h3 => by
          refine ⟨k + 1, by rw [← HFK.out]; rfl, by omega, ?_, ?_, h3⟩
          · rw [HTK.out, rdEv_snoc]; exact h1
          · rw [HTK.out, rdAt_snoc, Option.isSome_some, if_pos rfl, hlk, show (f : Int) + (k : Int) = (q : Int) by rw [← HFK.out]; simp]; exact h2)
        obtain ⟨i0, hi, hz0, hz1, hz2⟩ := info_parts ev_info
        have HI := Lib.hid hi; have HZ0 := Lib.hid hz0; have HZ1 := Lib.hid hz1; have HZ2 := Lib.hid hz2
        clear hi hz0 hz1 hz2 HTK
        obtain ⟨j0, hi, hz0, hz1, hz2⟩ := info_parts jint_info
        have KI := Lib.hid hi; have KZ0 := Lib.hid hz0; have KZ1 := Lib.hid hz1; have KZ2 := Lib.hid hz2
        clear hi hz0 hz1 hz2 hkn
        go_wp2_with (at_builtin; refine wpList_app (P := Tryz.prog) rfl (.tmp 33) (.tmp 39) 22 rfl 36 i0 _ 8 96 Tryz.underlying22 HI.out HZ0.out HZ1.out HZ2.out rfl (by decide) w.heap.size _ (rdEv (seg.take k)).length (evCells (rdEv (seg.take k))) rfl ?c1 (wr.heap.size + 1) _ _ _ e.cells rfl ?c2 (cells_one e) ?c4 ?c5 ?c6 ?_)
        case c1 => exact World.ownsRow.alloc HV.out _
        case c2 => exact Cel.new (size := 8) (n := 1) wr #[.string ⟨e.src.toArray⟩, .int .i64 e.num, .int .i64 e.at_, .int .i64 e.kind, .string ⟨e.per.toArray⟩, .string ⟨e.item.toArray⟩, .int .i64 e.val, .string ⟨e.text.toArray⟩] 36 (by unfold maxLen; omega) rfl
        case c4 => unfold maxLen; omega
        case c5 => omega
        case c6 => first | omega | (simp; omega)
        intro v' w2 hown2 hg2 _
        have HV2 := Lib.hid (show OwnE w2 w.heap.size v' (rdEv (seg.take k) ++ [e]) from by
          unfold OwnE; rw [evCells_one, List.length_append]; exact hown2)
        have hbl2 : RowKit.Below w.heap.size w w2 := Below.grown (HBL.out.alloc HBL.out.size _) hg2 (by first | omega | (simp; omega)) (fun k' hk' => (World.ownsRow.lt HV.out k' hk').1)
        have HB2 := Lib.hid hbl2
        have HU2 := Lib.hid (show OwnI w2 w.heap.size u9 (rdAt f (seg.take k)) from World.ownsRow.kept (World.ownsRow.alloc HU.out _) hg2 (ownsRow_apart HU.out HV.out (by decide)))
        have hsz2 := hbl2.size
        clear hown2 hg2 hbl2 e0 e1 e2 e3 e4 e5 e6 e7 e8
        go_wp2_with (at_builtin; refine wpList_app (P := Tryz.prog) rfl (.tmp 41) (.tmp 43) 63 rfl 3 j0 _ 1 8 Tryz.underlying63 KI.out KZ0.out KZ1.out KZ2.out rfl (by decide) w.heap.size _ (rdAt f (seg.take k)).length (intVs (rdAt f (seg.take k))) rfl ?c1 (w2.heap.size + 1) _ _ _ [.int .i64 (q : Int)] rfl ?c2 ?c3 ?c4 ?c5 ?c6 ?_)
        case c1 => exact World.ownsRow.alloc HU2.out _
        case c2 => exact Cel.new (size := 1) (n := 1) w2 #[.int .i64 (q : Int)] 3 (by unfold maxLen; omega) rfl
        case c3 => intro u hu; simp at hu; subst hu; rfl
        case c4 => unfold maxLen; omega
        case c5 => omega
        case c6 => first | omega | (simp; omega)
        intro u' w3 hown3 hg3 _
        have HU3 := Lib.hid (show OwnI w3 w.heap.size u' (rdAt f (seg.take k) ++ [(q : Int)]) from by
          unfold OwnI intVs; rw [List.map_append, List.length_append, hlu]; exact hown3)
        have HV3 := Lib.hid (show OwnE w3 w.heap.size v' (rdEv (seg.take k) ++ [e]) from World.ownsRow.kept (World.ownsRow.alloc HV2.out _) hg3 (ownsRow_apart HV2.out HU2.out (by decide)))
        have HB3 := Lib.hid (show RowKit.Below w.heap.size w w3 from Below.grown (HB2.out.alloc HB2.out.size _) hg3 (by first | omega | (simp; omega)) (fun k' hk' => (World.ownsRow.lt HU2.out k' hk').1))
        have HRL := Lib.hid (HFIN.out v' u' w3 HV3.out HU3.out HB3.out)
        clear hown3 hg3
        go_wp2
        go_roundw
        case rel => exact HRL.out
        case measure => simp [intOf]; omega
      · have hx : x = none := by cases x with
          | none => rfl
          | some e => simp at hxn
        rw [hxn] at e8
        have HRL := Lib.hid (show RRdRel w f seg u8 u9 (.int .i64 ((q : Int) + 1)) wr from by
          refine ⟨k + 1, by rw [← HFK.out]; rfl, by omega, ?_, ?_, HBL.out⟩
          · rw [HTK.out, rdEv_snoc, hx, Option.toList_none, List.append_nil]; exact HV.out
          · rw [HTK.out, rdAt_snoc, hx, Option.isSome_none, if_neg (by simp), List.append_nil]; exact HU.out)
        subst hx
        clear e0 e1 e2 e3 e4 e5 e6 e7 hkn
        go_wp2
        go_roundw
        case rel => exact HRL.out
        case measure => simp [intOf]; omega
    · have hz : seg.take k = seg := List.take_of_length_le (by have := HSL.out; omega)
      have HFIN := Lib.hid (show RRdPost w (rdEv seg) (rdAt f seg) (.returned (.tuple #[u8, u9])) wr from ⟨_, _, rfl, by rw [← hz]; exact HV.out, by rw [← hz]; exact HU.out, HBL.out⟩)
      clear hz
      by_cases hk1 : f + k < n
      · have t1 : ((f + k : Nat) : Int) < n := by omega
        have t2 : ¬ ((f + k : Nat) : Int) - f < b := by omega
        generalize hfk : f + k = q at *
        have HFK := Lib.hid hfk; clear hfk hkn
        go_wp2
        go_ret2
        exact HFIN.out
      · have t1 : ¬ ((f + k : Nat) : Int) < n := by omega
        generalize hfk : f + k = q at *
        have HFK := Lib.hid hfk; clear hfk hkn
        go_wp2
        go_ret2
        exact HFIN.out
end Go.Proofs.YtejjfhhppjdcaaaGreatDoor
namespace Go.Proofs.YtejjfhhppjdcaaaGreatDoor
open Go.RowKit Go.Maps Go.Sort

theorem rent_info : (Tryz.prog.info? 72).map (fun i => (i.zero, i.size, i.bytes)) = some (some (.agg #[.string ByteArray.empty, .int .i64 0, .int .i64 0, .int .i64 0, .string ByteArray.empty, .string ByteArray.empty, .int .i64 0, .string ByteArray.empty, .bool false]), 9, 104) := by kernel_rfl
/-- a row of the document's entries -/
def OwnR (w : World) (base : Nat) (v : Value) (es : List (Option Ev)) : Prop := w.ownsRow base 72 9 v es.length (entCells es)
def ROfRel (w : World) (ds : List Ev) (v i : Value) (wr : World) : Prop := ∃ k : Nat, i = .int .i64 k ∧ k ≤ ds.length ∧ OwnR wr w.heap.size v ((ds.map some).take k) ∧ RowKit.Below w.heap.size w wr
def OwnRP (w : World) (es : List (Option Ev)) (e : Ending) (w' : World) : Prop := ∃ v, e = .returned v ∧ OwnR w' w.heap.size v es ∧ RowKit.Below w.heap.size w w'
set_option maxRecDepth 100000 in
set_option maxHeartbeats 4000000 in
theorem rof_any (w : World) (A : Option Addr) (n c : Nat) (ds : List Ev) (h : Evs w w.heap.size A n c ds) (hn : n ≤ 100000) :
    Calls Tryz.prog 27 #[.slice A n c] w (OwnRP w (ds.map some)) := by
  have HH := Lib.hid h
  have HL := Lib.hid h.len
  clear h
  have HST := Lib.hid (show ROfRel w ds (.slice (some ⟨w.heap.size, 0, none⟩) 0 0) (.int .i64 ((0 : Nat) : Int)) (w.alloc (.cells #[] 72)) from ⟨0, rfl, Nat.zero_le _, World.ownsRow_lit w #[] 0 (Nat.le_refl _) (by simp [maxLen]) rfl, (Below.refl _ _).alloc (Nat.le_refl _) _⟩)
  obtain ⟨i0, hi, hz0, hz1, hz2⟩ := info_parts rent_info
  have HI := Lib.hid hi; have HZ0 := Lib.hid hz0; have HZ1 := Lib.hid hz1; have HZ2 := Lib.hid hz2
  clear hi hz0 hz1 hz2
  go_enter Tryz.func27, Tryz.ntmps27
  go_wp2
  go_loopw [3, 4] (fun v i wr => ROfRel w ds v i wr) (fun _ i _ => n - (intOf i).toNat)
  case atStart => exact HST.out
  case round =>
    obtain ⟨k, rfl, hk, hov, hbel⟩ := hrel
    have HV := Lib.hid hov; have HBL := Lib.hid hbel
    clear hov
    have hkL : k ≤ n := by rw [← HL.out]; exact hk
    by_cases hkn : k < n
    · have hkl : k < ds.length := by rw [HL.out]; exact hkn
      obtain ⟨b, off, rfl, hb, hd⟩ := HH.out.ev k hkl
      obtain ⟨e0, e1, e2, e3, e4, e5, e6, e7⟩ := hd.below hbel hb
      have HTK := Lib.hid (show (ds.map some).take (k + 1) = (ds.map some).take k ++ [some ds[k]] by rw [List.take_add_one, List.getElem?_map, List.getElem?_eq_getElem hkl]; rfl)
      have hlk : ((ds.map some).take k).length = k := by rw [List.length_take, List.length_map]; omega
      have hsz := hbel.size
      generalize ds[k] = e at *
      have t1 : (k : Int) < n := by omega
      clear hd hb hbel hkn
      go_wp2_with (at_builtin; refine wpList_app (P := Tryz.prog) rfl (.tmp 12) (.tmp 18) 47 rfl 72 i0 _ 9 104 Tryz.underlying47 HI.out HZ0.out HZ1.out HZ2.out rfl (by decide) w.heap.size _ ((ds.map some).take k).length (entCells ((ds.map some).take k)) rfl ?c1 (wr.heap.size + 1) _ _ _ (entC (some e)) rfl ?c2 (entC_one _) ?c4 ?c5 ?c6 ?_)
      case c1 => exact World.ownsRow.alloc HV.out _
      case c2 => exact Cel.new (size := 9) (n := 1) wr #[.string ⟨e.src.toArray⟩, .int .i64 e.num, .int .i64 e.at_, .int .i64 e.kind, .string ⟨e.per.toArray⟩, .string ⟨e.item.toArray⟩, .int .i64 e.val, .string ⟨e.text.toArray⟩, .bool false] 72 (by unfold maxLen; omega) rfl
      case c4 => unfold maxLen; omega
      case c5 => omega
      case c6 => first | omega | (simp; omega)
      intro v' w2 hown2 hg2 _
      have HRL := Lib.hid (show ROfRel w ds v' (.int .i64 ((k : Int) + 1)) w2 from ⟨k + 1, rfl, by omega, by
        rw [HTK.out]; unfold OwnR; rw [entCells_one, List.length_append, hlk]; exact hown2, Below.grown (HBL.out.alloc HBL.out.size _) hg2 (by first | omega | (simp; omega)) (fun k' hk' => (World.ownsRow.lt HV.out k' hk').1)⟩)
      clear hown2 hg2 e0 e1 e2 e3 e4 e5 e6 e7
      go_wp2
      go_roundw
      case rel => exact HRL.out
      case measure => simp [intOf]; omega
    · have t1 : ¬ (k : Int) < n := by omega
      have HZ := Lib.hid (show OwnRP w (ds.map some) (.returned u3) wr from ⟨_, rfl, by rw [show ds.map some = (ds.map some).take k by rw [List.take_of_length_le (by rw [List.length_map, HL.out]; omega)]]; exact HV.out, HBL.out⟩)
      go_wp2
      go_ret
      exact HZ.out
end Go.Proofs.YtejjfhhppjdcaaaGreatDoor
namespace Go.Proofs.YtejjfhhppjdcaaaGreatDoor
open Go.RowKit Go.Maps Go.Sort

theorem lt_tot5 {a b : List UInt8} (h : ¬ a < b) (hne : a ≠ b) : b < a := by
  have hle : b ≤ a := List.not_lt.1 h
  rcases Decidable.em (b < a) with h' | h'
  · exact h'
  · exact absurd (List.le_antisymm (List.not_lt.1 h') hle) hne
theorem rising_ins {L ks : List (List UInt8)} (h : Rising L ks) (s : List UInt8) (hs : s ∉ ks) (a : Nat) (ha : a ≤ L.length) (hi : ∀ j (hj : j < L.length), a ≤ j → s < L[j]) (lo : ∀ h0 : 0 < a, ¬ s < L[a - 1]'(by omega)) :
    Rising (L.take a ++ [s] ++ L.drop a) (ks ++ [s]) := by
  have hpw := List.pairwise_iff_getElem.1 h.1
  have h1 : ∀ x ∈ L.take a, x < s := fun x hx => by
    obtain ⟨i, hi', rfl⟩ := List.getElem_of_mem hx
    rw [List.length_take] at hi'
    rw [List.getElem_take]
    have h0 : 0 < a := by omega
    have hl : L[a - 1]'(by omega) < s := lt_tot5 (lo h0) (fun e => hs (e ▸ (h.2 _).1 (List.getElem_mem _)))
    by_cases e : i = a - 1
    · subst e; exact hl
    · exact List.lt_trans (hpw i (a - 1) (by omega) (by omega) (by omega)) hl
  have h2 : ∀ x ∈ L.drop a, s < x := fun x hx => by
    obtain ⟨i, hi', rfl⟩ := List.getElem_of_mem hx
    rw [List.getElem_drop]
    rw [List.length_drop] at hi'
    exact hi (a + i) (by omega) (by omega)
  have hsp : (L.take a ++ L.drop a).Pairwise (· < ·) := by rw [List.take_append_drop]; exact h.1
  obtain ⟨p1, p2, p3⟩ := List.pairwise_append.1 hsp
  refine ⟨?_, fun x => ?_⟩
  · rw [List.append_assoc]
    refine List.pairwise_append.2 ⟨p1, List.pairwise_cons.2 ⟨h2, p2⟩, fun x hx y hy => ?_⟩
    rcases List.mem_cons.1 hy with e | e
    · rw [e]; exact h1 x hx
    · exact p3 x hx y e
  · have e1 : x ∈ ks ++ [s] ↔ x ∈ L ∨ x = s := by rw [List.mem_append, ← h.2 x, List.mem_singleton]
    rw [e1]
    have : x ∈ L ↔ x ∈ L.take a ∨ x ∈ L.drop a := by rw [← List.mem_append, List.take_append_drop]
    rw [this]
    simp only [List.mem_append, List.mem_singleton]
    constructor
    · rintro ((h | h) | h)
      · exact .inl (.inl h)
      · exact .inr h
      · exact .inl (.inr h)
    · rintro ((h | h) | h)
      · exact .inl (.inl h)
      · exact .inr h
      · exact .inl (.inr h)
theorem rising_len {L : List (List UInt8)} (s : List UInt8) (a : Nat) (ha : a ≤ L.length) : (L.take a ++ [s] ++ L.drop a).length = L.length + 1 := by
  simp only [List.length_append, List.length_take, List.length_drop, List.length_singleton]; omega
theorem ownsRow_le {w : World} {base base' : Nat} {e : TypeId} {size n : Nat} {v : Value} {xs : List Value} (h : w.ownsRow base e size v n xs) (hb : base' ≤ base) : w.ownsRow base' e size v n xs := by
  refine ⟨h.1, ?_⟩
  rcases h.2 with ⟨e, hl⟩ | ⟨g, cap, cur, e, hb', hg, hr⟩
  · exact .inl ⟨e, hl⟩
  · exact .inr ⟨g, cap, cur, e, by omega, hg, hr⟩
/-- the names of the first k files -/
def fileNs (s : List UInt8) (k : Nat) : List (List UInt8) := (List.range k).map (segF s)
theorem fileNs_succ (s : List UInt8) (k : Nat) : fileNs s (k + 1) = fileNs s k ++ [segF s k] := by simp [fileNs, List.range_succ]
theorem fileNs_not (s : List UInt8) (k : Nat) : segF s k ∉ fileNs s k := fun h => by
  obtain ⟨i, hi, e⟩ := List.mem_map.1 h
  have := segF_inj e
  have := List.mem_range.1 hi
  omega
def OwnT (w : World) (base : Nat) (v : Value) (L : List (List UInt8)) : Prop := w.ownsRow base 9 1 v L.length (L.map encStr)
def RFlRel (w : World) (s : List UInt8) (v i : Value) (wr : World) (n : Nat) : Prop := ∃ (k : Nat) (L : List (List UInt8)), i = .int .i64 k ∧ k ≤ n ∧ L.length = k ∧ Rising L (fileNs s k) ∧ OwnT wr w.heap.size v L ∧ RowKit.Below w.heap.size w wr
def RFlPost (w : World) (s : List UInt8) (n : Nat) (e : Ending) (w' : World) : Prop := ∃ v L, e = .returned v ∧ Rising L (fileNs s n) ∧ OwnT w' w.heap.size v L ∧ RowKit.Below w.heap.size w w'
set_option maxRecDepth 100000 in
set_option maxHeartbeats 4000000 in
theorem rfiles_any (w : World) (s : List UInt8) (n p : Nat) (hs : s.length ≤ 100) (hn : n ≤ 1000000) (hp1 : 1 ≤ p) (hp2 : p ≤ 4096) (hnn : nseg n p < 100) :
    Calls Tryz.prog 44 #[.string ⟨s.toArray⟩, .int .i64 n, .int .i64 p] w (RFlPost w s (nseg n p)) := by
  obtain ⟨i0, hi, hz0, hz1, hz2⟩ := info_parts str_info
  have HI := Lib.hid hi; have HZ0 := Lib.hid hz0; have HZ1 := Lib.hid hz1; have HZ2 := Lib.hid hz2
  clear hi hz0 hz1 hz2
  have HSG := Lib.hid (fun W => rsegs_any W n p hn hp1 hp2)
  obtain ⟨m, hm⟩ : ∃ m, m = nseg n p := ⟨_, rfl⟩
  rw [← hm] at hnn HSG ⊢
  clear hm
  have HST := Lib.hid (show RFlRel w s (.slice (some ⟨w.heap.size, 0, none⟩) 0 0) (.int .i64 ((0 : Nat) : Int)) (w.alloc (.cells #[] 9)) m from ⟨0, [], rfl, Nat.zero_le _, rfl, ⟨List.Pairwise.nil, fun x => by simp [fileNs]⟩, World.ownsRow_lit w #[] 0 (Nat.le_refl _) (by simp [maxLen]) rfl, (Below.refl _ _).alloc (Nat.le_refl _) _⟩)
  go_enter Tryz.func44, Tryz.ntmps44
  go_wp2_with fail
  go_loopw [7, 8] (fun v i wr => RFlRel w s v i wr m) (fun _ i _ => m - (intOf i).toNat)
  case atStart => exact HST.out
  case round =>
    obtain ⟨k, L, rfl, hk, hL, hri, hov, hbel⟩ := hrel
    have HRI := Lib.hid hri; have HV := Lib.hid hov; have HBL := Lib.hid hbel
    clear hri hov hbel
    go_wp2_with fail
    refine (HSG.out wr).mono ?_
    rintro r w1 ⟨rfl, rfl⟩
    by_cases hkm : k < m
    · have t1 : (k : Int) < m := by omega
      go_wp2_with fail
      refine (rfile_any wr s k hs (by omega)).mono ?_
      rintro r w2 ⟨rfl, hb2⟩
      have HB2 := Lib.hid (show RowKit.Below w.heap.size w w2 from HBL.out.trans (hb2.mono HBL.out.size))
      have HV2 := Lib.hid (show OwnT w2 w.heap.size u7 L from ownsRow_below HV.out hb2 (Nat.le_refl _))
      obtain ⟨A, c, hv⟩ := ownsRow_form HV2.out
      subst hv
      have HC2 := Lib.hid (show Strs w2 w2.heap.size A L.length c L from Cel.of_own HV2.out)
      have hcap := Cel.cap HC2.out
      have hsz := HB2.out.size
      clear hb2
      have HFN := Lib.hid (fileNs_not s k)
      have HSC := Lib.hid (fileNs_succ s k)
      generalize segF s k = nm at *
      go_wp2_with fail
      go_loopw [10] (fun a wr => ∃ q : Nat, a = .int .i64 q ∧ q ≤ L.length ∧ wr = w2 ∧ ∀ j (hj : j < L.length), q ≤ j → nm < L[j]) (fun a _ => (intOf a).toNat)
      case atStart => exact ⟨L.length, by first | rfl | (simp [hL]; done), Nat.le_refl _, rfl, fun j hj h => by omega⟩
      case round =>
        obtain ⟨q, rfl, hq, rfl, hhi⟩ := hrel
        have HHI := Lib.hid hhi; clear hhi
        have HGO := Lib.hid (show (∀ h0 : 0 < q, ¬ nm < L[q - 1]'(by omega)) → Rising (L.take q ++ [nm] ++ L.drop q) (fileNs s (k + 1)) ∧ (L.take q ++ [nm] ++ L.drop q).length = k + 1 from fun hlo => ⟨by rw [HSC.out]; exact rising_ins HRI.out nm HFN.out q hq HHI.out hlo, by rw [rising_len nm q hq, hL]⟩)
        have HRD := Lib.hid (show ∀ v w3, (∀ h0 : 0 < q, ¬ nm < L[q - 1]'(by omega)) → w3.ownsRow wr.heap.size 9 1 v (q + 1 + (L.length - q)) ((L.take q).map encStr ++ [.string ⟨nm.toArray⟩] ++ (L.drop q).map encStr) → RowKit.Below wr.heap.size wr w3 → RFlRel w s v (.int .i64 ((k : Int) + 1)) w3 m from fun v w3 hlo ho hb => by
          refine ⟨k + 1, _, rfl, by omega, (HGO.out hlo).2, (HGO.out hlo).1, ?_, HB2.out.trans (hb.mono HB2.out.size)⟩
          unfold OwnT
          have e1 : (L.take q ++ [nm] ++ L.drop q).map encStr = (L.take q).map encStr ++ [.string ⟨nm.toArray⟩] ++ (L.drop q).map encStr := by simp [encStr]
          rw [e1, (HGO.out hlo).2, show k + 1 = q + 1 + (L.length - q) by omega]
          exact ownsRow_le ho HB2.out.size)
        clear HGO
        by_cases hq0 : ∃ q' : Nat, ∃ h : q = q' + 1, nm < L[q']'(by omega)
        · obtain ⟨q', rfl, hlt⟩ := hq0
          obtain ⟨b, off, rfl, hb, hc⟩ := HC2.out.at_ q' (by omega)
          have hl1 : Op.bytesLess nm L[q'] = true := by rw [bytesLess_eq]; exact decide_eq_true hlt
          have HN := Lib.hid (show ∀ j (hj : j < L.length), q' ≤ j → nm < L[j] from fun j hj h => by
            by_cases e : j = q'
            · subst e; exact hlt
            · exact HHI.out j hj (by omega))
          clear hlt HRD HHI
          generalize L[q'] = y at hc hl1
          have t3 : (0 : Int) < (q' : Int) + 1 := by omega
          go_wp2
          go_roundw
          case rel => exact ⟨q', by first | rfl | go_num, by omega, by trivial, HN.out⟩
          case measure => simp [intOf]
        · have hlo : ∀ h0 : 0 < q, ¬ nm < L[q - 1]'(by omega) := fun h0 h => hq0 ⟨q - 1, by omega, h⟩
          replace HRD := Lib.hid (fun v w3 => HRD.out v w3 hlo)
          have HU2 := Lib.hid (Cel.upto HC2.out q hq)
          have hTL : (L.map encStr).take (q * 1) = (L.take q).map encStr := by rw [Nat.mul_one, List.map_take]
          have hDL : (L.map encStr).drop (q * 1) = (L.drop q).map encStr := by rw [Nat.mul_one, List.map_drop]
          rw [hTL] at HU2
          clear hTL hq0
          have hlL : L.length ≤ 100 := by omega
          generalize hTk : (L.take q).map encStr = tk at *
          generalize hDr : (L.drop q).map encStr = dr at *
          have HTO := Lib.hid (show ∀ u ∈ tk, u.oneCell' = true from fun u hu => by subst hTk; obtain ⟨x, _, rfl⟩ := List.mem_map.1 hu; rfl)
          have HDO := Lib.hid (show ∀ u ∈ dr, u.oneCell' = true from fun u hu => by subst hDr; obtain ⟨x, _, rfl⟩ := List.mem_map.1 hu; rfl)
          by_cases hq1 : q = 0
          case' pos =>
            subst hq1
            have HD2 := Lib.hid (show Cel wr wr.heap.size 1 A k c dr from by
              have := HC2.out; unfold Strs at this; rw [hL] at this; rw [← hDr]; exact this)
            clear hlo hTk hDr
            go_upto_region 9 with fail
          case' neg =>
            have HD2 := Lib.hid (Cel.from_ HC2.out q hq)
            rw [hDL, hL] at HD2
            obtain ⟨q', rfl⟩ : ∃ q', q = q' + 1 := ⟨q - 1, by omega⟩
            obtain ⟨b, off, rfl, hb, hc⟩ := HC2.out.at_ q' (by omega)
            have hl1 : Op.bytesLess nm L[q'] = false := by rw [bytesLess_eq]; exact decide_eq_false (hlo (by omega))
            clear hlo hTk hDr
            generalize L[q'] = y at hc hl1
            have t3 : (0 : Int) < (q' : Int) + 1 := by omega
            go_upto_region 9 with fail
            generalize hqq : q' + 1 = q at *
            by_cases hcq : c = q
            case' pos =>
              rw [if_pos hcq] at HD2
              subst hcq
              rw [Nat.sub_self] at HD2
            case' neg =>
              have HD2 := Lib.hid (show Cel wr wr.heap.size 1 (some ⟨b, off + q, none⟩) (k - q) (c - q) dr from by
                have := HD2.out; rw [if_neg hcq, Nat.mul_one, Option.map_some, show (⟨b, off, none⟩ : Addr).add q = ⟨b, off + q, none⟩ by unfold Addr.add; split <;> simp_all] at this; exact this)
          all_goals
            go_wp2_with (at_builtin; refine wpList_app (P := Tryz.prog) rfl (.tmp 38) (.tmp 41) 37 rfl 9 i0 (.string ByteArray.empty) 1 16 Tryz.underlying37 HI.out HZ0.out HZ1.out HZ2.out rfl (by decide) wr.heap.size _ 0 [] rfl ?c1 wr.heap.size _ _ _ tk rfl ?c2 HTO.out ?c4 ?c5 ?c6 ?_)
            case c1 => exact World.ownsRow_lit wr #[] 0 (Nat.le_refl _) (by simp [maxLen]) rfl
            case c2 => exact Cel.alloc HU2.out (Nat.le_refl _) _
            case c4 => unfold maxLen; omega
            case c5 => omega
            case c6 => first | omega | (simp; omega) | simp
            intro v3 w3 hown3 hg3 _
            have HO3 := Lib.hid hown3
            have HB3 := Lib.hid (show RowKit.Below wr.heap.size wr w3 from Below.grown ((Below.refl _ _).alloc (Nat.le_refl _) _) hg3 (by simp) (fun j hj => Nat.le_of_eq (Option.some.inj hj)))
            have hs3 := HB3.out.size
            clear hown3 hg3
            go_wp2_with (at_builtin; refine wpList_app (P := Tryz.prog) rfl (.tmp 42) (.tmp 44) 37 rfl 9 i0 (.string ByteArray.empty) 1 16 Tryz.underlying37 HI.out HZ0.out HZ1.out HZ2.out rfl (by decide) wr.heap.size _ _ _ rfl (World.ownsRow.alloc HO3.out _) (w3.heap.size + 1) _ _ _ [.string ⟨nm.toArray⟩] rfl ?c2 ?c3 ?c4 ?c5 ?c6 ?_)
            case c2 => exact Cel.new w3 #[.string ⟨nm.toArray⟩] _ (by unfold maxLen; omega) rfl
            case c3 => simp [Value.oneCell']
            case c4 => unfold maxLen; omega
            case c5 => omega
            case c6 => first | omega | (simp; omega)
            intro v4 w4 hown4 hg4 _
            have HO4 := Lib.hid hown4
            have HB4 := Lib.hid (show RowKit.Below wr.heap.size wr w4 from Below.grown (HB3.out.alloc HB3.out.size _) hg4 (by first | omega | (simp; omega)) (fun j hj => (World.ownsRow.lt HO3.out j hj).1))
            have hs4 := HB4.out.size
            clear hown4 hg4 hs3
            go_wp2_with (at_builtin; refine wpList_app (P := Tryz.prog) rfl (.tmp 46) (.tmp 49) 37 rfl 9 i0 (.string ByteArray.empty) 1 16 Tryz.underlying37 HI.out HZ0.out HZ1.out HZ2.out rfl (by decide) wr.heap.size _ _ _ rfl HO4.out wr.heap.size _ _ _ dr rfl ?c2 HDO.out ?c4 ?c5 ?c6 ?_)
            case c2 => exact Cel.below HD2.out HB4.out
            case c4 => unfold maxLen; omega
            case c5 => omega
            case c6 => first | omega | (simp; omega)
            intro v5 w5 hown5 hg5 _
            have HB5 := Lib.hid (show RowKit.Below wr.heap.size wr w5 from Below.grown HB4.out hg5 (by first | omega | (simp; omega)) (fun j hj => (World.ownsRow.lt HO4.out j hj).1))
            have HRL := Lib.hid (HRD.out v5 w5 (by rw [hL]; first | exact hown5 | (simpa using hown5)) HB5.out)
            clear hown5 hg5 hs4
            go_wp2
            go_roundw
            case rel => exact HRL.out
            case measure => simp [intOf]; omega
    · have t1 : ¬ (k : Int) < m := by omega
      have HFI := Lib.hid (show RFlPost w s m (.returned u7) wr from ⟨_, L, rfl, by rw [show m = k by omega]; exact HRI.out, HV.out, HBL.out⟩)
      go_wp2
      go_ret
      exact HFI.out
end Go.Proofs.YtejjfhhppjdcaaaGreatDoor
