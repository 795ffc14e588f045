/-
  The law EraseDrops, walked.
-/
import Derived.Test.YtoljbbmjbgepiaaGreatDoorDStable
import Derived.Test.YtoljbbmjbgepiaaGreatDoorDGrLaws
import Derived.Test.YtoljbbmjbgepiaaGreatDoorDOpenEvs
import Derived.Test.YtoljbbmjbgepiaaGreatDoorDItkAdmit
import Derived.Test.YtoljbbmjbgepiaaGreatDoorDItkTkn
import Derived.Deep.RegionHeld3
namespace Go.Proofs.YtoljbbmjbgepiaaGreatDoor
open Go.RowKit Go.Maps Go.Sort

theorem wfilt_take2 (es : List Ev) (p : Ev → Bool) (k : Nat) (hk : k < es.length) : (es.take (k + 1)).filter p = (es.take k).filter p ++ (if p es[k] then [es[k]] else []) := by
  rw [List.take_add_one, List.getElem?_eq_getElem hk, List.filter_append]
  congr 1
  simp [List.filter_cons]
theorem may_forgetB {e : Ev} (h : mayB e = true) (hk : e.kind = 14) : forgetB e = true := by
  unfold mayB tailB at h
  unfold forgetB
  rw [hk] at h
  simp only [Bool.and_eq_true] at h ⊢
  have h2 := h.2
  simp at h2
  simp [hk, h.1, h2]
theorem forget_kind {e : Ev} (h : forgetB e = true) : e.kind = 14 ∧ nameB e.per = true := by
  unfold forgetB at h
  simp only [Bool.and_eq_true, beq_iff_eq] at h
  exact ⟨h.1.1.1.1.1, h.1.1.1.2⟩
theorem goneL_may (l : List Ev) (q : List UInt8) : q ∈ goneL (l.filter mayB) ↔ GoneBy l q := by
  unfold goneL GoneBy
  constructor
  · intro h
    obtain ⟨f, hf, rfl⟩ := List.mem_map.1 h
    obtain ⟨hf1, hf2⟩ := List.mem_filter.1 hf
    obtain ⟨hf3, hf4⟩ := List.mem_filter.1 hf1
    exact ⟨f, hf3, hf4, (forget_kind hf2).1, rfl⟩
  · rintro ⟨f, hf, h1, h2, rfl⟩
    exact List.mem_map.2 ⟨f, List.mem_filter.2 ⟨List.mem_filter.2 ⟨hf, h1⟩, may_forgetB h1 h2⟩, rfl⟩
theorem gone_name (l : List Ev) {q : List UInt8} (h : q ∈ goneL (l.filter mayB)) : nameB q = true := by
  unfold goneL at h
  obtain ⟨f, hf, rfl⟩ := List.mem_map.1 h
  exact (forget_kind (List.mem_filter.1 hf).2).2
theorem out_iff (l : List Ev) (e : Ev) : outB (goneL (l.filter mayB)) e = true ↔ (e.kind = 14 ∨ e.per ∉ goneL (l.filter mayB)) := by
  unfold outB
  by_cases hg : e.per ∈ goneL (l.filter mayB)
  · have hn := gone_name l hg
    unfold ownB
    simp [hg, hn]
  · simp [hg]
theorem adm_inv {l : List Ev} (ha : AlikeP l) (hl : l.length ≤ 1000) : ∀ k, k ≤ l.length → OrdInv (l.take k) (admAll (Itk.new 0 0) (l.take k)) := by
  intro k
  induction k with
  | zero => intro _; exact OrdInv.new _ _
  | succ k ih =>
    intro hk
    rw [admAll_take _ _ _ (by omega)]
    have e1 : l.take (k + 1) = l.take k ++ [l[k]] := by rw [List.take_add_one, List.getElem?_eq_getElem (by omega), Option.toList_some]
    rw [e1]
    refine (ih (by omega)).admits (by rw [List.length_take]; omega) ?_
    rw [← e1]
    intro a ha' b hb
    exact ha a (List.mem_of_mem_take ha') b (List.mem_of_mem_take hb)
theorem drops_plain {l s : List Ev} (hi : (l.map idOf).Nodup) (hl : l.length ≤ 1000) (hs : SortedE s) (hp : s.Perm ((l.filter mayB).filter (outB (goneL (l.filter mayB))))) : (admAll (Itk.new 0 0) l).taken = s := by
  have ha : AlikeP l := fun a ha b hb h1 h2 => ids_inj hi ha hb (by unfold idOf; rw [h1, h2])
  have hinv := adm_inv ha hl l.length (Nat.le_refl _)
  rw [List.take_length] at hinv
  have hsi : (s.map idOf).Nodup := by
    rw [(hp.map idOf).nodup_iff]
    exact ((List.filter_sublist.trans List.filter_sublist).map idOf).nodup hi
  refine sorted_unique hinv.sorted hs hinv.ids hsi fun e => ?_
  rw [hinv.taken, hp.mem_iff, List.mem_filter, List.mem_filter, out_iff, goneL_may]
  constructor
  · rintro ⟨h1, h2, h3⟩
    exact ⟨⟨h1, h2⟩, h3.imp id (fun h4 h5 => h4 ((hinv.gone _).2 h5))⟩
  · rintro ⟨⟨h1, h2⟩, h3⟩
    exact ⟨h1, h2, h3.imp id (fun h4 h5 => h4 ((hinv.gone _).1 h5))⟩
def sameI (a b : Ev) : Bool := (a.src == b.src) && (a.num == b.num)
theorem evsame_any (w : World) (a b : Ev) : Calls Tryz.prog 21 #[a.agg, b.agg] w (Says (sameI a b) w) := by
  have hb1 : Below w.heap.size w (w.alloc (evObj a)) := (Below.refl _ _).alloc (Nat.le_refl _) _
  have hb2 : Below w.heap.size w ((w.alloc (evObj a)).alloc (evObj b)) := hb1.alloc hb1.size _
  have hsa : (w.alloc (evObj a)).heap.size = w.heap.size + 1 := by simp
  have HX := (EvIn.new w a).below ((Below.refl (w.alloc (evObj a)).heap.size (w.alloc (evObj a))).alloc (Nat.le_refl _) (evObj b)) (by omega)
  have HY : EvIn ((w.alloc (evObj a)).alloc (evObj b)) (w.heap.size + 1) b := by rw [← hsa]; exact EvIn.new _ b
  obtain ⟨e0, e1, e2, e3, e4, e5, e6, e7⟩ := HX
  obtain ⟨f0, f1, f2, f3, f4, f5, f6, f7⟩ := HY
  have HS := Lib.hid (show sameI a b = ((a.src == b.src) && (a.num == b.num)) from rfl)
  clear hsa hb1
  cases h1 : a.src == b.src
  · have HV := Lib.hid (show sameI a b = false by rw [HS.out, h1]; rfl)
    unfold Ev.agg
    go_enter Tryz.func21, Tryz.ntmps21
    go_wp2
    go_ret
    exact ⟨ret_bool HV.out.symm, hb2⟩
  · have HV := Lib.hid (show sameI a b = (a.num == b.num) by rw [HS.out, h1]; rfl)
    unfold Ev.agg
    go_enter Tryz.func21, Tryz.ntmps21
    go_wp2
    go_ret
    exact ⟨ret_bool HV.out.symm, hb2⟩
def OnRel (w : World) (es : List Ev) (v i : Value) (wr : World) : Prop := ∃ k : Nat, i = .int .i64 k ∧ k ≤ es.length ∧ OwnE wr w.heap.size v ((es.take k).filter mayB) ∧ Below w.heap.size w wr
set_option maxRecDepth 100000 in
set_option maxHeartbeats 2000000 in
theorem only_any (w : World) (A : Option Addr) (n c : Nat) (es : List Ev) (h : Evs w w.heap.size A n c es) (hn : n ≤ 1000) (hsm : ∀ e ∈ es, e.small) (hmx : MaxAt w) :
    Calls Tryz.prog 26 #[.slice A n c] w (SievePost w es mayB) := by
  have HH := Lib.hid h; have HSM := Lib.hid hsm; have HMX := Lib.hid hmx
  have HL := Lib.hid h.len
  clear h hsm hmx
  obtain ⟨i0, hi, hz0, hz1, hz2⟩ := info_parts ev_info
  have HI := Lib.hid hi; have HZ0 := Lib.hid hz0; have HZ1 := Lib.hid hz1; have HZ2 := Lib.hid hz2
  clear hi hz0 hz1 hz2
  have HST := Lib.hid (show OnRel w es (.slice none 0 0) (.int .i64 ((0 : Nat) : Int)) w from ⟨0, rfl, Nat.zero_le _, World.ownsRow_nil _ _ _ _, Below.refl _ _⟩)
  go_enter Tryz.func26, Tryz.ntmps26
  go_wp2
  go_loopw [3, 8] (fun v i wr => OnRel w es v i wr) (fun _ i _ => n - (intOf i).toNat)
  case atStart => exact HST.out
  case round =>
    obtain ⟨k, rfl, hk, ho, hbel⟩ := hrel
    have HO := Lib.hid ho; clear ho HST
    have hkL : k ≤ n := by rw [← HL.out]; exact hk
    by_cases hkn : k < n
    · have hkl : k < es.length := by rw [HL.out]; exact hkn
      obtain ⟨b, off, rfl, hb, hev⟩ := HH.out.ev k hkl
      obtain ⟨e0, e1, e2, e3, e4, e5, e6, e7⟩ := hev.below hbel hb
      have HTK := Lib.hid (wfilt_take2 es mayB k hkl)
      have HSE := Lib.hid (HSM.out _ (List.getElem_mem hkl))
      have hlen : ((es.take k).filter mayB).length ≤ k := by
        have := List.length_filter_le mayB (es.take k); rw [List.length_take] at this; omega
      generalize es[k] = y at *
      have t1 : (k : Int) < n := by omega
      have hb1 : Below wr.heap.size wr (wr.alloc (evObj y)) := (Below.refl _ _).alloc (Nat.le_refl _) _
      have HE1 := Lib.hid (EvIn.new wr y)
      have hs1 : wr.heap.size < (wr.alloc (evObj y)).heap.size := by simp
      have HB1 := Lib.hid (hbel.trans (hb1.mono hbel.size))
      have HO1 := Lib.hid (HO.out.keep (fun b' hb' => hb1.block b' (HO.out.lt hb')))
      have hsr := hbel.size
      clear hev hb1 HO
      go_upto_region 5 with fail
      clear e0 e1 e2 e3 e4 e5 e6 e7
      generalize wr.alloc (evObj y) = w1 at *
      obtain ⟨e0, e1, e2, e3, e4, e5, e6, e7⟩ := HE1.out
      go_wp2_with fail
      refine (may_any w1 y HSE.out (HMX.out.up HB1.out)).mono ?_
      rintro r w2 ⟨rfl, hb2⟩
      have HB2 := Lib.hid (HB1.out.trans (hb2.mono HB1.out.size))
      have HE2 := Lib.hid (HE1.out.below hb2 hs1)
      have HO2 := Lib.hid (HO1.out.keep (fun b' hb' => hb2.block b' (HO1.out.lt hb')))
      clear e0 e1 e2 e3 e4 e5 e6 e7 hb2 HE1 HO1
      cases hm : mayB y
      · have HT : Hid ((es.take (k + 1)).filter mayB = (es.take k).filter mayB) := by have := HTK.out; rw [hm] at this; unfold Hid; simpa using this
        have HREL := Lib.hid (show OnRel w es u3 (.int .i64 ((k + 1 : Nat) : Int)) w2 from ⟨k + 1, rfl, by omega, by rw [HT.out]; exact HO2.out, HB2.out⟩)
        clear hm HTK
        go_wp2
        go_roundw
        case rel => exact HREL.out
        case measure => simp [intOf]; omega
      · have HT : Hid ((es.take (k + 1)).filter mayB = (es.take k).filter mayB ++ [y]) := by have := HTK.out; rw [hm] at this; unfold Hid; simpa using this
        clear hm HTK
        generalize (es.take k).filter mayB = out at *
        have hs2 := HB2.out.size
        obtain ⟨e0, e1, e2, e3, e4, e5, e6, e7⟩ := HE2.out
        go_wp2_with (at_builtin; refine wpList_app (P := Tryz.prog) rfl (.tmp 14) (.tmp 16) 22 rfl 28 i0 _ 8 96 Tryz.underlying22 HI.out HZ0.out HZ1.out HZ2.out rfl (by decide) w.heap.size _ out.length (evCells out) rfl ?c1 (w2.heap.size + 1) _ _ _ y.cells rfl ?c2 (cells_one y) ?c4 ?c5 ?c6 ?_)
        case c1 => exact World.ownsRow.alloc HO2.out _
        case c2 => exact Cel.new w2 _ _ (by unfold maxLen; omega) rfl
        case c4 => unfold maxLen; omega
        case c5 => omega
        case c6 => first | omega | (simp; omega)
        intro v' w3 hown3 hg3 hvv
        have hown4 : OwnE w3 w.heap.size v' (out ++ [y]) := by unfold OwnE; rw [evCells_one, List.length_append]; exact hown3
        have HREL := Lib.hid (show OnRel w es v' (.int .i64 ((k + 1 : Nat) : Int)) w3 from ⟨k + 1, rfl, by omega, by rw [HT.out]; exact hown4, Below.grown (HB2.out.alloc hs2 _) hg3 (by simp; omega) (fun k' hk' => (World.ownsRow.lt HO2.out k' hk').1)⟩)
        clear hown3 hown4 hg3 hvv e0 e1 e2 e3 e4 e5 e6 e7
        go_wp2
        go_roundw
        case rel => exact HREL.out
        case measure => simp [intOf]; omega
    · have t1 : ¬ (k : Int) < n := by omega
      have HF := Lib.hid (show SievePost w es mayB (.returned u3) wr from ⟨u3, rfl, by have := HO.out; rw [List.take_of_length_le (by rw [HL.out]; omega)] at this; exact this, hbel⟩)
      clear HO
      go_wp2
      go_ret
      exact HF.out
def DrpRel (w : World) (bi : Nat) (es : List Ev) (i : Value) (wr : World) : Prop := ∃ (k : Nat) (F : Nat → Prop), i = .int .i64 k ∧ k ≤ es.length ∧ ((es.take k).map idOf).Nodup ∧ ItkAt wr F bi (2 * k) (admAll (Itk.new 0 0) (es.take k)) ∧ Below w.heap.size w wr ∧ ∀ b, F b → w.heap.size ≤ b
def DrpIn (w1 : World) (es : List Ev) (e : Ev) (j : Value) (wz : World) : Prop := ∃ k : Nat, j = .int .i64 k ∧ k ≤ es.length ∧ (∀ a ∈ es.take k, idOf a ≠ idOf e) ∧ Below w1.heap.size w1 wz
theorem same_ids {a b : Ev} : sameI a b = true ↔ idOf a = idOf b := by
  unfold sameI idOf
  simp only [Bool.and_eq_true, beq_iff_eq, Prod.mk.injEq]
theorem long_small {es : List Ev} (h : longB es = false) : es.length ≤ 40 ∧ ∀ e ∈ es, e.small := by
  unfold longB at h
  simp only [Bool.or_eq_false_iff, decide_eq_false_iff_not, List.any_eq_false] at h
  refine ⟨by omega, fun e he => ?_⟩
  have := h.1 e he
  unfold Ev.bulk at this
  simp at this
  exact ⟨by omega, by omega, by omega, by omega⟩

set_option maxRecDepth 100000 in
set_option maxHeartbeats 8000000 in
theorem drops31_any (w : World) (A : Option Addr) (n c : Nat) (es : List Ev) (h : Evs w w.heap.size A n c es) (hn : n ≤ 140737488355328) (hfit : ∀ e ∈ es, e.fit) (hmx : MaxAt w) :
    Calls Tryz.prog 4 #[.slice A n c] w (Says true w) := by
  have HH := Lib.hid h; have HFT := Lib.hid hfit; have HMX := Lib.hid hmx
  have HL := Lib.hid h.len
  have hmlt := hmx.lt
  clear h hfit hmx
  go_enter Tryz.func4, Tryz.ntmps4
  go_wp2_with fail
  refine (long_any w A n c es HH.out hn HFT.out).mono ?_
  rintro r w1 ⟨rfl, hb1⟩
  cases hlg : longB es
  case true =>
    clear hlg
    go_wp2_with fail
    refine (awake_any w1).mono ?_
    rintro r w2 ⟨rfl, hb2⟩
    have hbw2 : Below w.heap.size w w2 := hb1.trans (hb2.mono hb1.size)
    clear hb2
    go_wp2
    go_ret
    exact ⟨rfl, hbw2⟩
  obtain ⟨hl40, hsm⟩ := long_small hlg
  have HSM := Lib.hid hsm
  have hn40 : n ≤ 40 := by have := HL.out; omega
  clear hlg hsm hl40
  go_wp2_with fail
  refine (itknew_any w1 0 0).mono ?_
  rintro r w2 ⟨bi, F2, rfl, hI2, hb2, hF2⟩
  have hbw2 : Below w.heap.size w w2 := hb1.trans (hb2.mono hb1.size)
  have hs1 := hb1.size
  have HST := Lib.hid (show DrpRel w bi es (.int .i64 ((0 : Nat) : Int)) w2 from ⟨0, F2, rfl, Nat.zero_le _, by simp, hI2, hbw2, fun b hb => by have := hF2 b hb; omega⟩)
  clear hI2 hb2 hF2 hb1 hbw2
  go_wp2
  go_loopw [15] (fun i wr => DrpRel w bi es i wr) (fun i _ => n - (intOf i).toNat)
  case atStart => exact HST.out
  case round =>
    obtain ⟨k, F, rfl, hk, hnd, hI, hbel, hFn⟩ := hrel
    have HND := Lib.hid hnd; have HI := Lib.hid hI; have HFN := Lib.hid hFn
    clear hnd hI hFn HST
    have hkL : k ≤ n := by rw [← HL.out]; exact hk
    have hsr := hbel.size
    by_cases hkn : k < n
    · have hkl : k < es.length := by rw [HL.out]; exact hkn
      obtain ⟨b, off, hA, hb, hev⟩ := HH.out.ev k hkl
      subst hA
      obtain ⟨e0, e1, e2, e3, e4, e5, e6, e7⟩ := hev.below hbel hb
      have t1 : (k : Int) < n := by omega
      have HSE := Lib.hid (HSM.out _ (List.getElem_mem hkl))
      have HAT := Lib.hid (admAll_take (Itk.new 0 0) es k hkl)
      have HTS := Lib.hid (show es.take (k + 1) = es.take k ++ [es[k]] by rw [List.take_add_one, List.getElem?_eq_getElem hkl]; rfl)
      generalize es[k] = e at *
      obtain ⟨be, hbe⟩ : ∃ be, be = wr.heap.size := ⟨_, rfl⟩
      have hb1 : Below wr.heap.size wr (wr.alloc (evObj e)) := (Below.refl _ _).alloc (Nat.le_refl _) _
      have HE1 := Lib.hid (show EvIn (wr.alloc (evObj e)) be e by rw [hbe]; exact EvIn.new wr e)
      have HI1 := Lib.hid (HI.out.up hb1)
      have HB1 := Lib.hid (hbel.trans (hb1.mono hsr))
      have hbe1 : be < (wr.alloc (evObj e)).heap.size := by rw [hbe]; simp
      have HNF := Lib.hid (show ¬ F be from fun hf => by obtain ⟨_, _, _, _, _, _, h6⟩ := HI.out; have := h6 _ hf; omega)
      have hbl : b < be := by omega
      clear hev hb1 HI
      go_upto_region 9 with fail
      rw [← hbe]
      clear e0 e1 e2 e3 e4 e5 e6 e7 hbe
      generalize wr.alloc (evObj e) = w3 at *
      have HIN := Lib.hid (show DrpIn w3 (es.take k) e (.int .i64 ((0 : Nat) : Int)) w3 from ⟨0, rfl, Nat.zero_le _, fun a ha => by simp at ha, Below.refl _ _⟩)
      have HTL := Lib.hid (show (es.take k).length = k by rw [List.length_take]; omega)
      go_wp2
      go_loopw [21] (fun j wz => DrpIn w3 (es.take k) e j wz) (fun j _ => k - (intOf j).toNat)
      case atStart => exact HIN.out
      case round =>
        obtain ⟨j, rfl, hj, hno, hbz⟩ := hrel
        have HNO := Lib.hid hno
        have HE2 := Lib.hid (HE1.out.below hbz hbe1)
        have hbwz : Below w.heap.size w wr := HB1.out.trans (hbz.mono HB1.out.size)
        have hjk : j ≤ k := by rw [← HTL.out]; exact hj
        clear hno HIN
        generalize wr = wz at *
        by_cases hjn : j < k
        · have t2 : (j : Int) < k := by omega
          have hjl : j < es.length := by omega
          obtain ⟨b', off', q, hb', hev2⟩ := HH.out.ev j hjl
          injection q with q; injection q with q1 q2; subst q1 q2
          have hjt : j < (es.take k).length := by rw [HTL.out]; exact hjn
          have HGE := Lib.hid (show (es.take k)[j] = es[j] from List.getElem_take ..)
          have HTJ := Lib.hid (show (es.take k).take (j + 1) = (es.take k).take j ++ [es[j]] by rw [List.take_add_one, List.getElem?_eq_getElem hjt, HGE.out]; rfl)
          have HEV := Lib.hid (show ∀ W, Below w.heap.size w W → EvAt W b (off + j * 8) es[j] from fun W hW => hev2.below hW hb)
          generalize es[j] = y at *
          have hjn' : (j : Int) < n := by omega
          have hbb : be < wz.heap.size := by have := hbz.size; omega
          have HSS := Lib.hid (show ∀ W : World, Below wz.heap.size wz W → (W.cell? ⟨b, off + j * 8, none⟩ = some (.string ⟨y.src.toArray⟩) ∧ W.cell? ⟨b, off + j * 8 + 1, none⟩ = some (.int .i64 y.num) ∧ W.cell? ⟨b, off + j * 8 + 2, none⟩ = some (.int .i64 y.at_) ∧ W.cell? ⟨b, off + j * 8 + 3, none⟩ = some (.int .i64 y.kind) ∧ W.cell? ⟨b, off + j * 8 + 4, none⟩ = some (.string ⟨y.per.toArray⟩) ∧ W.cell? ⟨b, off + j * 8 + 5, none⟩ = some (.string ⟨y.item.toArray⟩) ∧ W.cell? ⟨b, off + j * 8 + 6, none⟩ = some (.int .i64 y.val) ∧ W.cell? ⟨b, off + j * 8 + 7, none⟩ = some (.string ⟨y.text.toArray⟩) ∧ W.cell? ⟨be, 0, none⟩ = some (.string ⟨e.src.toArray⟩) ∧ W.cell? ⟨be, 1, none⟩ = some (.int .i64 e.num) ∧ W.cell? ⟨be, 2, none⟩ = some (.int .i64 e.at_) ∧ W.cell? ⟨be, 3, none⟩ = some (.int .i64 e.kind) ∧ W.cell? ⟨be, 4, none⟩ = some (.string ⟨e.per.toArray⟩) ∧ W.cell? ⟨be, 5, none⟩ = some (.string ⟨e.item.toArray⟩) ∧ W.cell? ⟨be, 6, none⟩ = some (.int .i64 e.val) ∧ W.cell? ⟨be, 7, none⟩ = some (.string ⟨e.text.toArray⟩)) from fun W hW => by
            obtain ⟨a0, a1, a2, a3, a4, a5, a6, a7⟩ := HEV.out W (hbwz.trans (hW.mono hbwz.size))
            obtain ⟨b0, b1, b2, b3, b4, b5, b6, b7⟩ := HE2.out.below hW hbb
            exact ⟨a0, a1, a2, a3, a4, a5, a6, a7, b0, b1, b2, b3, b4, b5, b6, b7⟩)
          have HCM := Lib.hid (show ∀ W, Calls Tryz.prog 21 #[.agg #[.string ⟨y.src.toArray⟩, .int .i64 y.num, .int .i64 y.at_, .int .i64 y.kind, .string ⟨y.per.toArray⟩, .string ⟨y.item.toArray⟩, .int .i64 y.val, .string ⟨y.text.toArray⟩], .agg #[.string ⟨e.src.toArray⟩, .int .i64 e.num, .int .i64 e.at_, .int .i64 e.kind, .string ⟨e.per.toArray⟩, .string ⟨e.item.toArray⟩, .int .i64 e.val, .string ⟨e.text.toArray⟩]] W (Says (sameI y e) W) from fun W => evsame_any W y e)
          have HX := Lib.hid (show Below wz.heap.size wz wz.drew from (Below.refl _ _).drew)
          have hS := HSS.out _ (Below.refl _ _)
          clear hev2 hjt hjl HGE
          go_wp2
          go_region_held3 (fun W => W.cell? ⟨b, off + j * 8, none⟩ = some (.string ⟨y.src.toArray⟩) ∧ W.cell? ⟨b, off + j * 8 + 1, none⟩ = some (.int .i64 y.num) ∧ W.cell? ⟨b, off + j * 8 + 2, none⟩ = some (.int .i64 y.at_) ∧ W.cell? ⟨b, off + j * 8 + 3, none⟩ = some (.int .i64 y.kind) ∧ W.cell? ⟨b, off + j * 8 + 4, none⟩ = some (.string ⟨y.per.toArray⟩) ∧ W.cell? ⟨b, off + j * 8 + 5, none⟩ = some (.string ⟨y.item.toArray⟩) ∧ W.cell? ⟨b, off + j * 8 + 6, none⟩ = some (.int .i64 y.val) ∧ W.cell? ⟨b, off + j * 8 + 7, none⟩ = some (.string ⟨y.text.toArray⟩) ∧ W.cell? ⟨be, 0, none⟩ = some (.string ⟨e.src.toArray⟩) ∧ W.cell? ⟨be, 1, none⟩ = some (.int .i64 e.num) ∧ W.cell? ⟨be, 2, none⟩ = some (.int .i64 e.at_) ∧ W.cell? ⟨be, 3, none⟩ = some (.int .i64 e.kind) ∧ W.cell? ⟨be, 4, none⟩ = some (.string ⟨e.per.toArray⟩) ∧ W.cell? ⟨be, 5, none⟩ = some (.string ⟨e.item.toArray⟩) ∧ W.cell? ⟨be, 6, none⟩ = some (.int .i64 e.val) ∧ W.cell? ⟨be, 7, none⟩ = some (.string ⟨e.text.toArray⟩)) (first | assumption | exact HSS.out _ HX.out | go_keep) ((go_at_call 21; (with_reducible refine (HCM.out _).mono ?_); rintro r9 w9 ⟨rfl, hb9⟩; have HX2 := Lib.hid (HX.out.trans (hb9.mono HX.out.size)); clear HX; have HX := HX2; clear HX2; (try clear hS); have hS := HSS.out _ HX.out; clear hb9))
          clear hS HSS HCM HEV
          cases hsi : sameI y e
          · have HREL := Lib.hid (show DrpIn w3 (es.take k) e (.int .i64 ((j + 1 : Nat) : Int)) w9 from ⟨j + 1, rfl, by rw [HTL.out]; omega, (fun a ha => by
              rw [HTJ.out] at ha
              rcases List.mem_append.1 ha with ha | ha
              · exact HNO.out a ha
              · rw [List.mem_singleton] at ha; rw [ha]; intro hc; rw [same_ids.2 hc] at hsi; cases hsi), hbz.trans (HX.out.mono hbz.size)⟩)
            clear hsi
            go_wp2
            go_roundw
            case rel => exact HREL.out
            case measure => simp [intOf]; omega
          · have hbw9 : Below w.heap.size w w9 := hbwz.trans (HX.out.mono hbwz.size)
            clear hsi
            go_wp2_with fail
            refine (awake_any w9).mono ?_
            rintro r w10 ⟨rfl, hb10⟩
            have hbw10 : Below w.heap.size w w10 := hbw9.trans (hb10.mono hbw9.size)
            clear hb10
            go_wp2
            go_ret
            exact ⟨rfl, hbw10⟩
        · have t2 : ¬ (j : Int) < k := by omega
          have HNE := Lib.hid (show ((es.take (k + 1)).map idOf).Nodup by
            have h1 := HNO.out
            rw [List.take_of_length_le (by rw [HTL.out]; omega)] at h1
            rw [HTS.out, List.map_append, List.nodup_append]
            refine ⟨HND.out, by simp, fun a ha b' hb' hab => ?_⟩
            obtain ⟨x, hx, rfl⟩ := List.mem_map.1 ha
            rw [List.map_singleton, List.mem_singleton] at hb'
            exact h1 x hx (hab.trans hb'))
          have HI2 := Lib.hid (HI1.out.up hbz)
          obtain ⟨e0, e1, e2, e3, e4, e5, e6, e7⟩ := HE2.out
          go_wp2_with fail
          refine (admit_any wz F bi (2 * k) _ HI2.out (by omega) e HSE.out (HMX.out.up hbwz)).mono ?_
          rintro r w5 ⟨rfl, F5, hI5, hk5, hF5⟩
          have hswz := hbwz.size
          have HREL := Lib.hid (show DrpRel w bi es (.int .i64 ((k + 1 : Nat) : Int)) w5 from ⟨k + 1, F5, rfl, hkl, HNE.out, by rw [HAT.out, show 2 * (k + 1) = 2 * k + 2 by omega]; exact hI5, hbwz.trans (hk5.below hbwz.size (fun b' hb' hf => by have := HFN.out b' hf; omega)), fun b' hb' => by
            rcases hF5 b' hb' with h' | h'
            · exact HFN.out b' h'
            · omega⟩)
          clear hI5 hk5 hF5 e0 e1 e2 e3 e4 e5 e6 e7
          go_wp2
          go_roundw
          case rel => exact HREL.out
          case measure => simp [intOf]; omega
    · have t1 : ¬ (k : Int) < n := by omega
      have HTE := Lib.hid (show es.take k = es from List.take_of_length_le (by rw [HL.out]; omega))
      have HND2 := Lib.hid (show (es.map idOf).Nodup by have := HND.out; rw [HTE.out] at this; exact this)
      have HI2 := Lib.hid (show ItkAt wr F bi (2 * k) (admAll (Itk.new 0 0) es) by have := HI.out; rw [HTE.out] at this; exact this)
      have HHR := Lib.hid (show Evs wr wr.heap.size A n c es from Cel.more (Cel.below HH.out hbel) hbel.size)
      clear HND HI
      go_wp2_with fail
      refine (itaken_any wr F bi (2 * k) _ HI2.out (by omega)).mono ?_
      rintro r w3 ⟨v3, rfl, ho3, hb3⟩
      have HO3 := Lib.hid ho3
      have HH3 := Lib.hid (show Evs w3 w3.heap.size A n c es from Cel.more (Cel.below HHR.out hb3) hb3.size)
      have hbw3 : Below w.heap.size w w3 := hbel.trans (hb3.mono hbel.size)
      clear ho3 hb3
      go_wp2_with fail
      refine (only_any w3 A n c es HH3.out (by omega) HSM.out (HMX.out.up hbw3)).mono ?_
      rintro r w4 ⟨v4, rfl, ho4, hb4⟩
      obtain ⟨B4, c4, hv4, _⟩ := ho4.form
      subst hv4
      have HE4 := Lib.hid (show Evs w4 w4.heap.size B4 (es.filter mayB).length c4 (es.filter mayB) from Cel.of_own ho4)
      have HO4 := Lib.hid (HO3.out.keep (fun b' hb' => hb4.block b' (HO3.out.lt hb')))
      have hbw4 : Below w.heap.size w w4 := hbw3.trans (hb4.mono hbw3.size)
      have hml : (es.filter mayB).length ≤ 40 := by have := List.length_filter_le mayB es; have := HL.out; omega
      clear ho4 hb4
      have HSM4 := Lib.hid (show ∀ e ∈ es.filter mayB, e.small from fun e he => HSM.out e (List.mem_filter.1 he).1)
      have HPL := Lib.hid (show ∀ s, SortedE s → s.Perm ((es.filter mayB).filter (outB (goneL (es.filter mayB)))) → (admAll (Itk.new 0 0) es).taken = s from fun s h1 h2 => drops_plain HND2.out (by have := HL.out; omega) h1 h2)
      generalize es.filter mayB = ms at *
      go_wp2_with fail
      refine (clean_any w4 B4 ms.length c4 ms HE4.out (by omega) HSM4.out).mono ?_
      rintro r w5 ⟨v5, rfl, ho5, hb5⟩
      obtain ⟨B5, c5, hv5, _⟩ := ho5.form
      subst hv5
      have HE5 := Lib.hid (show Evs w5 w5.heap.size B5 (ms.filter (outB (goneL ms))).length c5 (ms.filter (outB (goneL ms))) from Cel.of_own ho5)
      have HO5 := Lib.hid (HO4.out.keep (fun b' hb' => hb5.block b' (HO4.out.lt hb')))
      have hbw5 : Below w.heap.size w w5 := hbw4.trans (hb5.mono hbw4.size)
      have hcl : (ms.filter (outB (goneL ms))).length ≤ 40 := by have := List.length_filter_le (outB (goneL ms)) ms; omega
      clear ho5 hb5
      generalize ms.filter (outB (goneL ms)) = cs at *
      go_wp2_with fail
      refine (evsort_any w5 B5 cs.length c5 cs HE5.out (by omega)).mono ?_
      rintro r w6 ⟨B6, c6, l6, rfl, he6, hs6, hp6, hb6⟩
      have HTK := Lib.hid (HPL.out l6 hs6 hp6)
      have HE6 := Lib.hid he6
      have HO6 := Lib.hid (HO5.out.keep (fun b' hb' => hb6.block b' (HO5.out.lt hb')))
      have hbw6 : Below w.heap.size w w6 := hbw5.trans (hb6.mono hbw5.size)
      have hl6 : l6.length = cs.length := hp6.length_eq
      have HL6 := Lib.hid hl6
      clear he6 hs6 hp6 hb6 hl6
      rw [HTK.out] at HO6
      obtain ⟨B3, c3, hv3, _⟩ := HO6.out.form
      subst hv3
      have HE3 := Lib.hid (show Evs w6 w6.heap.size B3 l6.length c3 l6 from Cel.of_own HO6.out)
      rw [← HL6.out] at HE6 hcl ⊢
      go_wp2_with fail
      refine (same31_any w6 _ _ B3 B6 l6.length c3 c6 l6 HE3.out HE6.out (by omega)).mono ?_
      rintro r w7 ⟨rfl, q7, rfl⟩
      have hbw7 : Below w.heap.size w (w6.drewN q7) := below_drewN hbw6 q7
      generalize w6.drewN q7 = w7 at *
      go_wp2_with fail
      refine (awake_any w7).mono ?_
      rintro r w8 ⟨rfl, hb8⟩
      have hbw8 : Below w.heap.size w w8 := hbw7.trans (hb8.mono hbw7.size)
      clear hb8
      go_wp2
      go_ret
      exact ⟨rfl, hbw8⟩
end Go.Proofs.YtoljbbmjbgepiaaGreatDoor
