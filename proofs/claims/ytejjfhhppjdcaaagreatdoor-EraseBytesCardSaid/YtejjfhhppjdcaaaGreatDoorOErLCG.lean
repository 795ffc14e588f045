/-
  Layer 31: Log: the events of the gone are erased from a journal.
  Layer 31: clean: has a journal just the events that are left, at their offsets?
  Layer 31, plain: who is gone, behind an erasing.
-/
import Derived.Test.YtejjfhhppjdcaaaGreatDoorOErPplCln
import Derived.Test.YtejjfhhppjdcaaaGreatDoorOPerAsk
import Derived.Test.YtejjfhhppjdcaaaGreatDoorOEvEnc2
import Derived.Test.YtejjfhhppjdcaaaGreatDoorOCutLaw
import Derived.Test.YtejjfhhppjdcaaaGreatDoorOErRefB
import Derived.Test.YtejjfhhppjdcaaaGreatDoorORJl1
import Derived.Deep.DeepCutAuto
import Derived.Test.YtejjfhhppjdcaaaGreatDoorOOpenDjs
namespace Go.Proofs.YtejjfhhppjdcaaaGreatDoor
open Go.RowKit Go.Maps Go.Sort Go.Shelf

theorem SetB.len {w : World} {b n : Nat} {ks : List (List UInt8)} (h : SetB w b n ks) : ∃ z : Nat, z ≤ n ∧ (∀ ty, (Builtin.len_ #[134] ty #[.map (some b)]).run Tryz.prog w = .ok (.int .i64 (z : Int)) w) ∧ (z = 0 → ks = []) := by
  obtain ⟨D, h1, _, h3⟩ := h
  refine ⟨Maps.size D, h1.size_le, fun ty => h1.len Tryz.underlying134 ty, fun h0 => ?_⟩
  cases ks with
  | nil => rfl
  | cons k ks =>
    have h4 := (h3 k).2
    rw [decide_eq_true (by simp : k ∈ k :: ks)] at h4
    exfalso
    cases D with
    | map es =>
      cases es with
      | nil => simp [has] at h4
      | cons x es => simp [Maps.size] at h0
    | _ => simp [has] at h4
/-- the closure's boxes: the map's box g, the map b -/
structure OutI (g b m : Nat) (ks : List (List UInt8)) (_aq : List Ev) (H : Nat → Prop) (W : World) : Prop where
  cell : W.cell? ⟨g, 0, none⟩ = some (.map (some b))
  set : SetB W b m ks
  own : ∀ x, H x ↔ (x = g ∨ x = b)
theorem OutI.lt {g b m : Nat} {ks : List (List UInt8)} {aq : List Ev} {H : Nat → Prop} {W : World} (h : OutI g b m ks aq H W) : g < W.heap.size ∧ b < W.heap.size := ⟨World.block_lt_of_cell? W ⟨g, 0, none⟩ h.cell, h.set.lt⟩
theorem OutI.keep {g b m : Nat} {ks : List (List UInt8)} {aq aq' : List Ev} {H : Nat → Prop} {W W' : World} (h : OutI g b m ks aq H W) (hg : W'.heap[g]? = W.heap[g]?) (hb : W'.heap[b]? = W.heap[b]?) : OutI g b m ks aq' H W' :=
  ⟨(World.cell?_of_block (w := W) (a := ⟨g, 0, none⟩) hg).trans h.cell, h.set.block hb, h.own⟩
theorem mayB_small {e : Ev} (h : mayB e = true) : e.small := by
  have := mayB_fit h
  exact ⟨by have := this.src; omega, by have := this.per; omega, by have := this.item; omega, by have := this.text; omega⟩
theorem out_asker (g b m : Nat) (ks : List (List UInt8)) : Asker 118 #[.pointer (some ⟨g, 0, none⟩)] (outB ks) (OutI g b m ks) where
  enter := fun args w => by kernel_rfl
  ask := fun W aq H e _ hi he => (outside1_any W g b m ks e (mayB_small he) hi.cell hi.set).mono fun r W' ⟨h1, h2⟩ => ⟨h1, H, hi.keep (h2.block g hi.lt.1) (h2.block b hi.lt.2), fun _ hb => .inl hb, Keep.of_below h2⟩
  keep := fun aq H W W' hi _ hk => hi.keep (hk g ((hi.own g).2 (.inl rfl))) (hk b ((hi.own b).2 (.inr rfl)))
  lt := fun aq H W hi x hx => by
    rcases (hi.own x).1 hx with rfl | rfl
    · exact hi.lt.1
    · exact hi.lt.2
/-- nothing goes: the journal stays as it is -/
theorem Jl.rewF_none (kb : Ev → Bool) : ∀ (f : Nat) (j : Jl) (k all : Nat), cntE kb j.es = 0 → Jl.rewF kb f j k all = (j, all, 0)
  | 0, _, _, _, _ => rfl
  | f + 1, j, k, all, h => by
    have hs : cntE kb (segL j.per k j.es) = 0 := by
      unfold cntE at h ⊢
      rw [List.length_eq_zero_iff, List.filter_eq_nil_iff] at h ⊢
      exact fun x hx => h x (by unfold segL at hx; exact List.mem_of_mem_drop (List.mem_of_mem_take hx))
    have h1 : j.rew1E kb k = 0 := by unfold Jl.rew1E; rw [if_pos hs]
    have h2 : j.rew1 kb k = j := by unfold Jl.rew1; rw [if_pos hs]
    unfold Jl.rewF
    rw [h1, h2, hs, if_neg (by simp)]
    exact Jl.rewF_none kb f j (k + 1) (all + 0) h
theorem Jl.rewr_none {j : Jl} {kb : Ev → Bool} (hst : j.stuck = 0) (h : cntE kb j.es = 0) : j.rewr kb = (j, 0, 0) := by
  unfold Jl.rewr
  rw [if_neg (by simp [hst]), Jl.rewF_none kb _ j 0 0 h]
theorem cnt_nobody (l : List (Option Ev)) : cntE (outB []) l = 0 := by
  unfold cntE
  rw [List.length_eq_zero_iff, List.filter_eq_nil_iff]
  intro x _
  cases x with
  | none => simp [goesB]
  | some e => simp [goesB, outB]
/-- Log: the journal, how many, what is wrong -/
def Jl.logR (j : Jl) : Jl × Nat × Int := j.rewr (outB (goneL (rdEv j.es)))
def LogPost (w : World) (G F : Nat → Prop) (bj bd : Nat) (p : Jl × Nat × Int) (e : Ending) (w' : World) : Prop :=
  e = .returned (.tuple #[.int .i64 p.2.1, .int .i64 p.2.2]) ∧ ∃ G' F', JlIn w' G' F' bj bd p.1 ∧ (∀ b, G' b → G b ∨ w.heap.size ≤ b) ∧ (∀ b, F' b → F b ∨ w.heap.size ≤ b) ∧ Keep (fun b => G b ∨ F b) w w'
set_option maxRecDepth 100000 in
set_option maxHeartbeats 4000000 in
theorem erlog_any (w : World) (G F : Nat → Prop) (bj bd : Nat) (j : Jl) (h : JlIn w G F bj bd j) (hn : j.es.length ≤ 99) (hst : j.stuck = 0) (hmx : MaxAt w) (hml : ¬ (G 1 ∨ F 1)) :
    Calls Tryz.prog 54 #[.pointer (some ⟨bj, 0, none⟩)] w (LogPost w G F bj bd j.logR) := by
  have HJ := Lib.hid h
  have HMX := Lib.hid hmx; have HML := Lib.hid hml
  have hmlt := hmx.lt
  have HSM := Lib.hid (show ∀ e ∈ rdEv j.es, e.small from fun e he => by
    unfold rdEv at he
    obtain ⟨x, hx, hxe⟩ := List.mem_filterMap.1 he
    have : x = some e := hxe
    subst this
    exact mayB_small (h.1.may e hx))
  have hle := rdEv_le j.es
  obtain ⟨n, hnn⟩ : ∃ n, n = j.es.length := ⟨_, rfl⟩
  have HLN := Lib.hid (show Calls Tryz.prog 23 #[.pointer (some ⟨bj, 0, none⟩)] w (fun e w' => e = .returned (.int .i64 (n : Int)) ∧ w = w') from by rw [hnn]; exact jllen_any w G F bj bd j h)
  have HRD := Lib.hid (show Calls Tryz.prog 37 #[.pointer (some ⟨bj, 0, none⟩), .int .i64 0, .int .i64 (n : Int)] w (JRdPost w (rdEv j.es) (rdAt 0 j.es) 0) from by
    have := jlread_any w G F bj bd j h 0 n
    have e1 : j.rdBad 0 n = false := by unfold Jl.rdBad; rw [← hnn]; simp
    have e2 : j.rdSeg 0 n = j.es := by
      unfold Jl.rdSeg
      rw [← hnn]
      have e3 : (min (n : Int) ((n : Int) - 0)).toNat = n := by omega
      rw [e3, Int.toNat_zero, List.drop_zero]
      exact List.take_of_length_le (by omega)
    unfold JReadPost at this
    rw [e1, e2] at this
    exact this)
  have HSTK := Lib.hid hst
  have HN := Lib.hid hn
  clear h hmx hml hst hnn
  go_enter Tryz.func54, Tryz.ntmps54
  go_wp2_with fail
  refine HLN.out.mono ?_
  rintro r wl ⟨rfl, rfl⟩
  go_wp2_with fail
  refine HRD.out.mono ?_
  rintro r w1 ⟨v1, v2, rfl, hv1, hv2, hb1⟩
  obtain ⟨B1, d1, hf1, he1⟩ := hv1.form
  subst hf1
  have HB1 := Lib.hid hb1
  have HE1 := Lib.hid he1
  clear hv1 hv2 hb1 he1 HRD
  go_wp2_with fail
  refine (people_any w1 B1 _ d1 (rdEv j.es) HE1.out (by omega) HSM.out).mono ?_
  rintro r w2 ⟨bm, m, rfl, hset, hbm, hmle, hb2⟩
  have HB2 := Lib.hid (HB1.out.trans (hb2.mono HB1.out.size))
  have HSET := Lib.hid hset
  obtain ⟨z, hz1, hz2, hz3⟩ := hset.len
  have HZ3 := Lib.hid hz3
  have hs1 := HB1.out.size
  clear hset hb2 hz3
  by_cases hz : z = 0
  · have HR := Lib.hid (show LogPost w G F bj bd j.logR (.returned (.tuple #[.int .i64 0, .int .i64 0])) w2 from by
      have e : j.logR = (j, 0, 0) := by
        unfold Jl.logR
        rw [HZ3.out hz]
        exact Jl.rewr_none HSTK.out (cnt_nobody j.es)
      rw [e]
      exact ⟨rfl, G, F, HJ.out.up HB2.out, fun _ h => .inl h, fun _ h => .inl h, Keep.of_below HB2.out⟩)
    subst hz
    go_wp2
    go_ret2
    exact HR.out
  · have tz : ((z : Int) == 0) = false := by simp; omega
    go_wp2_with fail
    refine (outside_any w2 (.map (some bm)) ⟨_, rfl⟩).mono ?_
    rintro r w3 ⟨rfl, rfl⟩
    have hba : Below w2.heap.size w2 (w2.alloc (.cells #[.map (some bm)] 134)) := (Below.refl _ _).alloc (Nat.le_refl _) _
    have hs2 := HB2.out.size
    have HB3 := Lib.hid (HB2.out.trans (hba.mono hs2))
    have HOI := Lib.hid (show OutI w2.heap.size bm m (goneL (rdEv j.es)) [] (fun x => x = w2.heap.size ∨ x = bm) (w2.alloc (.cells #[.map (some bm)] 134)) from
      ⟨by rw [cell_of_row _ w2.heap.size _ _ _ (0, 0) (heap_alloc_new w2 _)]; rfl, HSET.out.alloc _, fun x => Iff.rfl⟩)
    have HRW := Lib.hid (jlrewr_any (out_asker w2.heap.size bm m (goneL (rdEv j.es))) (HJ.out.up HB3.out) HOI.out (fun x hx hg => by
      have := HJ.out.lt x hg
      rcases hx with rfl | rfl <;> omega) HN.out (by simp) (HMX.out.up HB3.out) (fun hg => by
      rcases hg with hg | hg | hg | hg
      · exact HML.out (.inl hg)
      · exact HML.out (.inr hg)
      · omega
      · omega))
    have hlg : j.logR = j.rewr (outB (goneL (rdEv j.es))) := rfl
    rw [← hlg] at HRW
    generalize j.logR = R at *
    clear hba hz2 hlg
    go_wp2_with fail
    refine HRW.out.mono ?_
    rintro r w4 ⟨rfl, G4, F4, H4, aq4, hj4, _, _, _, hG4, hF4, _, hk4⟩
    have hs3 := HB3.out.size
    have HR := Lib.hid (show LogPost w G F bj bd R (.returned (.tuple #[.int .i64 R.2.1, .int .i64 R.2.2])) w4 from ⟨rfl, G4, F4, hj4, fun b hb => (hG4 b hb).imp id (fun h => by omega), fun b hb => (hF4 b hb).imp id (fun h => by omega), (Keep.of_below (F := fun b => G b ∨ F b) HB3.out).trans hk4 (fun b hb hg => by
      rcases hg with hg | hg | hg
      · exact .inl hg
      · exact .inr hg
      · have hg : b = w2.heap.size ∨ b = bm := hg
        omega)⟩)
    clear hj4 hG4 hF4 hk4 HRW
    go_wp2
    go_ret2
    exact HR.out
end Go.Proofs.YtejjfhhppjdcaaaGreatDoor
namespace Go.Proofs.YtejjfhhppjdcaaaGreatDoor
open Go.RowKit Go.Maps Go.Sort Go.Shelf

/-- where an entry that isn't erased stands among those that are told -/
theorem row_at : ∀ (es : List (Option Ev)) (k : Nat) (f : Int) (x : Ev), es[k]? = some (some x) → (rdEv es)[(rdEv (es.take k)).length]? = some x ∧ (rdAt f es)[(rdEv (es.take k)).length]? = some (f + k)
  | [], k, f, x, h => by simp at h
  | none :: l, 0, f, x, h => by simp at h
  | none :: l, k + 1, f, x, h => by
    have h' : l[k]? = some (some x) := by simpa using h
    have := row_at l k (f + 1) x h'
    have e1 : rdEv (none :: l) = rdEv l := rfl
    have e2 : rdEv ((none :: l).take (k + 1)) = rdEv (l.take k) := rfl
    have e3 : rdAt f (none :: l) = rdAt (f + 1) l := rfl
    rw [e1, e2, e3]
    refine ⟨this.1, this.2.trans ?_⟩
    congr 1; omega
  | some e :: l, 0, f, x, h => by
    have h' : e = x := by simpa using h
    subst h'
    exact ⟨rfl, by show some f = some (f + (0 : Nat)); simp⟩
  | some e :: l, k + 1, f, x, h => by
    have h' : l[k]? = some (some x) := by simpa using h
    have := row_at l k (f + 1) x h'
    have e1 : rdEv (some e :: l) = e :: rdEv l := rfl
    have e2 : rdEv ((some e :: l).take (k + 1)) = e :: rdEv (l.take k) := rfl
    have e3 : rdAt f (some e :: l) = f :: rdAt (f + 1) l := rfl
    rw [e1, e2, e3, List.length_cons, List.getElem?_cons_succ, List.getElem?_cons_succ]
    refine ⟨this.1, this.2.trans ?_⟩
    congr 1; omega
theorem any_own {r : List (List UInt8)} {es : List Ev} (h : Rising r (goneL es)) (x : Ev) : r.any (fun p => ownB p x) = !outB (goneL es) x := by
  have h1 : r.all (fun p => !ownB p x) = outB (goneL es) x := by
    have h2 := allOut_clean h
    rw [Bool.eq_iff_iff, List.all_eq_true]
    unfold outB
    constructor
    · intro hall
      by_cases hin : x.per ∈ goneL es
      · have := hall x.per ((h.2 _).2 hin)
        simp only [this, Bool.or_true]
      · simp [hin]
    · intro hor p hp
      have hpin : p ∈ goneL es := (h.2 p).1 hp
      by_cases e1 : x.per = p
      · subst e1
        simp [hpin] at hor
        simpa using hor
      · simp [ownB, e1]
  rw [← h1]
  induction r with
  | nil => rfl
  | cons a r ih => simp [List.all_eq_not_any_not]
def ClRel (w6 : World) (kb : Ev → Bool) (ds : List Ev) (a i : Value) (W : World) : Prop :=
  ∃ k : Nat, i = .int .i64 k ∧ k ≤ ds.length ∧ a = .int .i64 (((ds.take k).filter kb).length : Nat) ∧ RowKit.Below w6.heap.size w6 W
def ClIn (wa : World) (r : List (List UInt8)) (x : Ev) (a i : Value) (W : World) : Prop :=
  ∃ z : Nat, i = .int .i64 z ∧ z ≤ r.length ∧ a = .bool ((r.take z).any (fun p => ownB p x)) ∧ RowKit.Below wa.heap.size wa W
set_option maxRecDepth 100000 in
set_option maxHeartbeats 8000000 in
theorem erclean_any (w : World) (G F : Nat → Prop) (bj bd : Nat) (j : Jl) (h : JlIn w G F bj bd j) (A : Option Addr) (n c : Nat) (ds : List Ev) (hev : Evs w w.heap.size A n c ds) (hn : n ≤ 40) (hsm : ∀ e ∈ ds, e.small) (he : j.es = (ds.map some).map (erE (outB (goneL ds)))) :
    Calls Tryz.prog 60 #[.pointer (some ⟨bj, 0, none⟩), .slice A n c] w (Says true w) := by
  have HJ := Lib.hid h
  have HEV := Lib.hid (show ∀ W, RowKit.Below w.heap.size w W → Evs W W.heap.size A n c ds from fun W hW => Cel.more (Cel.below hev hW) hW.size)
  have HSM := Lib.hid hsm
  have HE := Lib.hid he
  have hln : ds.length = n := hev.len
  have HL := Lib.hid hln
  obtain ⟨kb, hkb⟩ : ∃ kb, kb = outB (goneL ds) := ⟨_, rfl⟩
  have HKB := Lib.hid hkb
  rw [← hkb] at he HE
  have hjl : j.es.length = n := by rw [he, List.length_map, List.length_map, hln]
  have hrd : rdEv j.es = ds.filter kb := by rw [he, rdEv_er]
  have HLN := Lib.hid (show ∀ W, RowKit.Below w.heap.size w W → Calls Tryz.prog 23 #[.pointer (some ⟨bj, 0, none⟩)] W (fun e w' => e = .returned (.int .i64 (n : Int)) ∧ W = w') from fun W hW => by
    have := jllen_any W G F bj bd j (HJ.out.up hW)
    rw [hjl] at this; exact this)
  have HRD := Lib.hid (show Calls Tryz.prog 37 #[.pointer (some ⟨bj, 0, none⟩), .int .i64 0, .int .i64 ((n : Int) + 1)] w (JRdPost w (ds.filter kb) (rdAt 0 j.es) 0) from by
    have := jlread_any w G F bj bd j h 0 ((n : Int) + 1)
    have e1 : j.rdBad 0 ((n : Int) + 1) = false := by unfold Jl.rdBad; rw [hjl]; simp; omega
    have e2 : j.rdSeg 0 ((n : Int) + 1) = j.es := by
      unfold Jl.rdSeg
      rw [hjl]
      have e3 : (min ((n : Int) + 1) ((n : Int) - 0)).toNat = n := by omega
      rw [e3, Int.toNat_zero, List.drop_zero]
      exact List.take_of_length_le (by omega)
    unfold JReadPost at this
    rw [e1, e2, hrd] at this
    exact this)
  obtain ⟨m, hm⟩ : ∃ m, m = (ds.filter kb).length := ⟨_, rfl⟩
  have hmn : m ≤ n := by rw [hm, ← hln]; exact List.length_filter_le _ _
  have HAT := Lib.hid (show (rdAt 0 j.es).length = m from by rw [rdAt_len, hrd, hm])
  have HM := Lib.hid hm
  have HROW := Lib.hid (show ∀ k (hk : k < ds.length), kb ds[k] = true → (ds.filter kb)[((ds.take k).filter kb).length]? = some ds[k] ∧ (rdAt 0 j.es)[((ds.take k).filter kb).length]? = some (k : Int) from fun k hk hx => by
    have h1 : j.es[k]? = some (some ds[k]) := by
      rw [he, List.getElem?_map, List.getElem?_map, List.getElem?_eq_getElem hk]
      simp [erE, hx]
    have h2 := row_at j.es k 0 ds[k] h1
    have h3 : (rdEv (j.es.take k)).length = ((ds.take k).filter kb).length := by
      rw [he, ← List.map_take, ← List.map_take, rdEv_er]
    rw [hrd, h3] at h2
    refine ⟨h2.1, h2.2.trans ?_⟩
    congr 1; omega)
  clear h hev hsm he hkb hm hrd hjl
  go_enter Tryz.func60, Tryz.ntmps60
  go_wp2_with fail
  refine HRD.out.mono ?_
  rintro r w1 ⟨v1, v2, rfl, hv1, hv2, hb1⟩
  obtain ⟨B1, d1, hf1, he1⟩ := hv1.form
  obtain ⟨B2, d2, hf2, hi2⟩ := hv2.form
  subst hf1; subst hf2
  rw [HAT.out] at hi2 ⊢
  rw [← HM.out] at he1 ⊢
  have HB1 := Lib.hid hb1
  have HE1 := Lib.hid he1
  have HI2 := Lib.hid hi2
  have hs1 := hb1.size
  clear hv1 hv2 hb1 he1 hi2 HRD
  go_wp2_with fail
  refine (HLN.out w1 HB1.out).mono ?_
  rintro r wl ⟨rfl, rfl⟩
  go_wp2_with fail
  refine (rgone_any w1 A n c ds (HEV.out w1 HB1.out) (by omega) HSM.out).mono ?_
  rintro r w2 ⟨vr, rr, rfl, hris, hsv, hb2⟩
  obtain ⟨Ar, cr, rfl, hsr⟩ := hsv
  have HB2 := Lib.hid (HB1.out.trans (hb2.mono hs1))
  have HSR := Lib.hid hsr
  have HAO := Lib.hid (show ∀ x, rr.any (fun p => ownB p x) = !kb x from fun x => by rw [HKB.out]; exact any_own hris x)
  have HRS := Lib.hid (rising_small hris HSM.out)
  have hs2 := HB2.out.size
  have hrl : rr.length ≤ 40 := by
    have h1 := rising_length hris
    have h2 := goneL_length ds
    omega
  have HE2 := Lib.hid (show ∀ W, RowKit.Below w2.heap.size w2 W → Evs W W.heap.size B1 m d1 (ds.filter kb) ∧ Ints W W.heap.size B2 m d2 (rdAt 0 j.es) ∧ Strs W W.heap.size Ar rr.length cr rr ∧ Evs W W.heap.size A n c ds ∧ RowKit.Below w.heap.size w W from fun W hW => by
    have h1 : RowKit.Below w1.heap.size w1 W := hb2.trans (hW.mono hb2.size)
    have h2 : RowKit.Below w.heap.size w W := HB2.out.trans (hW.mono hs2)
    exact ⟨Cel.more (Cel.below HE1.out h1) h1.size, Cel.more (Cel.below HI2.out h1) h1.size, Cel.more (Cel.below HSR.out hW) hW.size, HEV.out W h2, h2⟩)
  have HR0 := Lib.hid (show ClRel w2 kb ds (.int .i64 0) (.int .i64 0) w2 from ⟨0, rfl, Nat.zero_le _, rfl, Below.refl _ _⟩)
  clear hris hsr hb2
  go_wp2
  go_loopw [9, 44] (fun a i W => ClRel w2 kb ds a i W) (fun _ i _ => n - (intOf i).toNat)
  case atStart => exact HR0.out
  case round =>
    obtain ⟨k, rfl, hk, rfl, hbel⟩ := hrel
    have HBL := Lib.hid hbel
    have hsr := hbel.size
    have hq40 : ((ds.take k).filter kb).length ≤ 40 := by have := List.length_filter_le kb (ds.take k); rw [List.length_take] at this; omega
    clear hbel
    obtain ⟨q, hq⟩ : ∃ q, q = ((ds.take k).filter kb).length := ⟨_, rfl⟩
    rw [← hq] at hq40 ⊢
    by_cases hkn : k < n
    · have hkl : k < ds.length := by omega
      have t1 : (k : Int) < n := by omega
      have hft : (ds.take (k + 1)).filter kb = (ds.take k).filter kb ++ (if kb ds[k] then [ds[k]] else []) := by
        rw [List.take_add_one, List.getElem?_eq_getElem hkl, List.filter_append]
        congr 1
        simp [List.filter_cons]
      have HFT := Lib.hid hft
      have hrow := HROW.out k hkl
      rw [← hq] at hrow
      have HRK := Lib.hid hrow
      have HSX := Lib.hid (HSM.out ds[k] (List.getElem_mem hkl))
      obtain ⟨b, off, rfl, hbb, hd⟩ := (HE2.out wr HBL.out).2.2.2.1.ev k hkl
      have HQ := Lib.hid hq
      obtain ⟨x, hx⟩ : ∃ x, x = ds[k] := ⟨_, rfl⟩
      rw [← hx] at hd HFT HRK HSX
      obtain ⟨e0, e1, e2, e3, e4, e5, e6, e7⟩ := hd
      have hba : RowKit.Below wr.heap.size wr (wr.alloc (evObj x)) := (Below.refl _ _).alloc (Nat.le_refl _) _
      have HBA := Lib.hid (HBL.out.trans (hba.mono hsr))
      have HX := Lib.hid (EvIn.new wr x)
      have hsa : (wr.alloc (evObj x)).heap.size = wr.heap.size + 1 := by simp
      clear hft hrow hx hq
      go_upto_region 9 with fail
      obtain ⟨wa, hwa⟩ : ∃ wa, wa = wr.alloc (evObj x) := ⟨_, rfl⟩
      obtain ⟨bx, hbx⟩ : ∃ bx, bx = wr.heap.size := ⟨_, rfl⟩
      rw [← hwa] at HBA HX hsa ⊢
      rw [← hbx] at HX hsa ⊢
      have HXW := Lib.hid (show ∀ W, RowKit.Below wa.heap.size wa W → EvIn W bx x from fun W hW => HX.out.below hW (by omega))
      have HI0 := Lib.hid (show ClIn wa rr x (.bool false) (.int .i64 0) wa from ⟨0, rfl, Nat.zero_le _, rfl, Below.refl _ _⟩)
      clear hwa hbx hba e0 e1 e2 e3 e4 e5 e6 e7
      go_wp2
      go_loopw [12, 51] (fun a i W => ClIn wa rr x a i W) (fun _ i _ => rr.length - (intOf i).toNat)
      case atStart => exact HI0.out
      case round =>
        obtain ⟨z, rfl, hz, rfl, hbin⟩ := hrel
        have HBI := Lib.hid hbin
        have HBI2 := Lib.hid (HBA.out.trans (hbin.mono HBA.out.size))
        have hsi := hbin.size
        clear hbin
        by_cases hzr : z < rr.length
        · have t2 : (z : Int) < rr.length := by omega
          obtain ⟨b', off', hAr, _, hc⟩ := (HE2.out wr HBI2.out).2.2.1.at_ z hzr
          subst hAr
          have hany : (rr.take (z + 1)).any (fun p => ownB p x) = ((rr.take z).any (fun p => ownB p x) || ownB rr[z] x) := by
            rw [List.take_add_one, List.getElem?_eq_getElem hzr, List.any_append]; simp
          have HANY := Lib.hid hany
          have HPS := Lib.hid (HRS.out rr[z] (List.getElem_mem hzr))
          have HNI := Lib.hid (show ∀ (o : Bool) W, o = (rr.take (z + 1)).any (fun p => ownB p x) → RowKit.Below wa.heap.size wa W → ClIn wa rr x (.bool o) (.int .i64 ((z : Int) + 1)) W from fun o W h1 h2 => ⟨z + 1, rfl, by omega, by rw [h1], h2⟩)
          generalize (rr.take z).any (fun p => ownB p x) = o at *
          generalize hp : rr[z] = p at *
          clear hany hp
          cases o
          case true =>
            have HRL := Lib.hid (HNI.out true wr (by rw [HANY.out]; rfl) HBI.out)
            go_wp2
            go_roundw
            case rel => exact HRL.out
            case measure => simp [intOf]; omega
          case false =>
            obtain ⟨f0, f1, f2, f3, f4, f5, f6, f7⟩ := HXW.out wr HBI.out
            go_wp2_with fail
            refine (rown_any wr p x HPS.out).mono ?_
            rintro r w8 ⟨rfl, hb8⟩
            have HRL := Lib.hid (HNI.out (ownB p x) w8 (by rw [HANY.out]; rfl) (HBI.out.trans (hb8.mono hsi)))
            clear hb8 f0 f1 f2 f3 f4 f5 f6 f7 hc
            generalize ownB p x = o2 at *
            go_wp2
            go_roundw
            case rel => exact HRL.out
            case measure => simp [intOf]; omega
        · obtain rfl : z = rr.length := by omega
          have t2 : ¬ (rr.length : Int) < rr.length := by omega
          have hao := HAO.out x
          have htk : rr.take rr.length = rr := List.take_length
          rw [htk, hao]
          have hbw := HBI2.out
          obtain ⟨wz, hwz⟩ : ∃ wz, wz = wr := ⟨_, rfl⟩
          subst hwz
          clear hao htk
          cases hkx : kb x
          case false =>
            have HRL := Lib.hid (show ClRel w2 kb ds (.int .i64 (q : Int)) (.int .i64 ((k : Int) + 1)) wz from ⟨k + 1, rfl, by omega, by rw [HFT.out, hkx, HQ.out]; simp, HBI2.out⟩)
            clear hkx hbw
            go_wp2
            go_roundw
            case rel => exact HRL.out
            case measure => simp [intOf]; omega
          case true =>
            obtain ⟨hr1, hr2⟩ := HRK.out hkx
            have hqm : q < m := by rw [HM.out]; exact (List.getElem?_eq_some_iff.1 hr1).1
            have hqm2 : q < (rdAt 0 j.es).length := by rw [HAT.out]; exact hqm
            have t3 : ¬ (m : Int) ≤ q := by omega
            have HRL := Lib.hid (show ∀ W, RowKit.Below wz.heap.size wz W → ClRel w2 kb ds (.int .i64 ((q : Int) + 1)) (.int .i64 ((k : Int) + 1)) W from fun W hW => ⟨k + 1, rfl, by omega, by rw [HFT.out, hkx, HQ.out]; simp, HBI2.out.trans (hW.mono HBI2.out.size)⟩)
            obtain ⟨h1, h2, _, _, _⟩ := HE2.out wz hbw
            obtain ⟨bg, og, rfl, _, hg⟩ := h1.ev q (by rw [← HM.out]; exact hqm)
            have hgx : (ds.filter kb)[q]'(by rw [← HM.out]; exact hqm) = x := (List.getElem?_eq_some_iff.1 hr1).2
            rw [hgx] at hg
            obtain ⟨b2, o2, hB2, _, hc2⟩ := Cel.cell h2 (by omega)
            subst hB2
            have hc3 := hc2 q (.int .i64 (k : Int)) (by
              unfold intVs
              rw [List.getElem?_map, hr2]; rfl)
            obtain ⟨f0, f1, f2, f3, f4, f5, f6, f7⟩ := HXW.out wz HBI.out
            obtain ⟨g0, g1, g2, g3, g4, g5, g6, g7⟩ := hg
            have tqi : (q : Int) < m := by omega
            clear h1 h2 hc2 hgx hr1 hr2 hkx hbw hqm2
            go_upto_region 16 with fail
            go_cut [82] (fun v wc => v = .bool false ∧ RowKit.Below wz.heap.size wz wc)
            case first =>
              go_quiet (fail)
              go_wp2
              go_meet
              exact ⟨by first | rfl | simp, below_drewN (Below.refl _ _) _⟩
            case rest =>
              obtain ⟨rfl, hbc⟩ := hcut
              have HRR := Lib.hid (HRL.out _ hbc)
              clear hbc f0 f1 f2 f3 f4 f5 f6 f7 g0 g1 g2 g3 g4 g5 g6 g7 hc3
              go_wp2
              go_roundw
              case rel => exact HRR.out
              case measure => simp [intOf]; omega
    · obtain rfl : k = n := by omega
      have t1 : ¬ (k : Int) < k := by omega
      have hqm : q = m := by rw [hq, HM.out, List.take_of_length_le (by omega)]
      subst hqm
      have HR := Lib.hid (show Says true w (.returned (.bool true)) wr from ⟨rfl, (HE2.out wr HBL.out).2.2.2.2⟩)
      clear hq
      go_wp2
      go_ret
      exact HR.out
end Go.Proofs.YtejjfhhppjdcaaaGreatDoor
namespace Go.Proofs.YtejjfhhppjdcaaaGreatDoor
open Go.RowKit Go.Maps Go.Sort

theorem long31_not {es : List Ev} (h : longB es = false) : es.length ≤ 40 ∧ ∀ e ∈ es, e.small := by
  unfold longB at h
  simp only [Bool.or_eq_false_iff, decide_eq_false_iff_not] at h
  refine ⟨by omega, fun e he => ?_⟩
  have := List.any_eq_false.1 h.1 e he
  have hb : ¬ 400 < e.bulk := fun hc => this (decide_eq_true hc)
  unfold Ev.bulk at hb
  exact ⟨by omega, by omega, by omega, by omega⟩
theorem SievePost.open31 {w w' : World} {es : List Ev} {p : Ev → Bool} {e : Ending} (h : SievePost w es p e w') :
    ∃ A c, e = .returned (.slice A (es.filter p).length c) ∧ Evs w' w'.heap.size A (es.filter p).length c (es.filter p) ∧ (∀ b off, A = some ⟨b, off, none⟩ → 0 < (es.filter p).length → w.heap.size ≤ b) ∧ Below w.heap.size w w' := by
  obtain ⟨v, rfl, hown, hb⟩ := h
  obtain ⟨A, c, rfl⟩ := ownsRow_form hown
  refine ⟨A, c, rfl, Cel.of_own hown, fun b off e h0 => ?_, hb⟩
  rcases hown.2 with ⟨e', hl⟩ | ⟨g, cap, cur, e', hbg, _⟩
  · injection e' with e1 e2; rw [e1] at e; cases e
  · injection e' with e1 e2
    rw [e] at e1; injection e1 with e1; injection e1 with e1
    omega
theorem mem_goneL {x : List UInt8} {es : List Ev} : x ∈ goneL es ↔ ∃ e ∈ es, forgetB e = true ∧ e.per = x := by
  unfold goneL
  simp only [List.mem_map, List.mem_filter]
  constructor
  · rintro ⟨e, ⟨h1, h2⟩, h3⟩; exact ⟨e, h1, h2, h3⟩
  · rintro ⟨e, h1, h2, h3⟩; exact ⟨e, ⟨h1, h2⟩, h3⟩
theorem forget_out {ks : List (List UInt8)} {e : Ev} (h : forgetB e = true) : outB ks e = true := by
  have hk : e.kind = 14 := by
    unfold forgetB at h
    simp only [Bool.and_eq_true, beq_iff_eq] at h
    exact h.1.1.1.1.1
  unfold outB ownB
  simp [hk]
theorem outB_congr {ks ks' : List (List UInt8)} (h : ∀ x, x ∈ ks ↔ x ∈ ks') : outB ks = outB ks' := by
  funext e
  unfold outB
  have : decide (e.per ∈ ks) = decide (e.per ∈ ks') := by simp [h]
  rw [this]
theorem mem_rdEv {e : Ev} {L : List (Option Ev)} : e ∈ rdEv L ↔ some e ∈ L := by
  unfold rdEv
  rw [List.mem_filterMap]
  constructor
  · rintro ⟨x, hx, h⟩
    have : x = some e := h
    rw [← this]; exact hx
  · intro h; exact ⟨some e, h, rfl⟩
theorem gone_row (ks : List (List UInt8)) (ds : List Ev) (P : Nat) : ∀ x, x ∈ goneL (rdEv (erRow (outB ks) (ds.map some) P)) ↔ x ∈ goneL ds := by
  intro x
  rw [mem_goneL, mem_goneL]
  constructor
  · rintro ⟨e, h1, h2, h3⟩
    have h4 : some e ∈ ds.map some := by
      have h5 := mem_rdEv.1 h1
      unfold erRow at h5
      rcases List.mem_append.1 h5 with h5 | h5
      · exact List.mem_of_mem_take (erE_map_may h5)
      · exact List.mem_of_mem_drop h5
    obtain ⟨e', he', hee⟩ := List.mem_map.1 h4
    injection hee with hee
    subst hee
    exact ⟨_, he', h2, h3⟩
  · rintro ⟨e, h1, h2, h3⟩
    refine ⟨e, mem_rdEv.2 ?_, h2, h3⟩
    have h4 : some e ∈ (ds.map some).take P ++ (ds.map some).drop P := by
      rw [List.take_append_drop]; exact List.mem_map.2 ⟨e, h1, rfl⟩
    unfold erRow
    rcases List.mem_append.1 h4 with h4 | h4
    · refine List.mem_append.2 (.inl (List.mem_map.2 ⟨some e, h4, ?_⟩))
      simp [erE, forget_out h2]
    · exact List.mem_append.2 (.inr h4)
theorem gone_erased (ks : List (List UInt8)) (ds : List Ev) : ∀ x, x ∈ goneL (rdEv ((ds.map some).map (erE (outB ks)))) ↔ x ∈ goneL ds := by
  have := gone_row ks ds ds.length
  rw [erRow_all _ (by rw [List.length_map]; exact Nat.le_refl _)] at this
  exact this
theorem rdEv_some31 : ∀ l : List Ev, rdEv (l.map some) = l
  | [] => rfl
  | e :: l => by
    have ih := rdEv_some31 l
    unfold rdEv at ih ⊢
    simp only [List.map_cons, List.filterMap_cons, id_eq]
    rw [ih]
/-- Log at a journal of which nothing is erased yet -/
theorem Jl.logR_first {j : Jl} {ds : List Ev} (h : j.es = ds.map some) : j.logR = j.rewr (outB (goneL ds)) := by
  unfold Jl.logR
  rw [h, rdEv_some31]
theorem Jl.Good.log_first {j : Jl} (h : j.Good) (hn : j.es.length < 100) {ds : List Ev} (he : j.es = ds.map some) (hl : j.lasts = j.es.length) :
    ∃ j', j.logR = (j', cntE (outB (goneL ds)) (ds.map some), 0) ∧ j'.Good ∧ j'.es = (ds.map some).map (erE (outB (goneL ds))) ∧ j'.name = j.name ∧ j'.per = j.per ∧ j'.lasts = j'.es.length := by
  obtain ⟨j', a1, a2, a3, a4, a5, a6⟩ := h.rewr hn (outB (goneL ds))
  refine ⟨j', ?_, a2, by rw [a3, he], a4, a5, ?_⟩
  · rw [Jl.logR_first he, a1, he]
  · rw [a6, a3, List.length_map, hl]
    split <;> rfl
theorem Jl.Good.log_again {j : Jl} (h : j.Good) {ds : List Ev} (he : j.es = (ds.map some).map (erE (outB (goneL ds)))) : j.logR = (j, 0, 0) := by
  have h1 : outB (goneL (rdEv j.es)) = outB (goneL ds) := outB_congr (by rw [he]; exact gone_erased _ ds)
  unfold Jl.logR
  rw [h1]
  exact Jl.rewr_none h.fine.free (by rw [he]; exact cntE_erased _ _)
/-- Log at a journal of which an erasing was cut off -/
theorem Jl.Good.log_rest {j : Jl} (h : j.Good) (hn : j.es.length < 100) {ds : List Ev} {P : Nat} (he : j.es = erRow (outB (goneL ds)) (ds.map some) P) :
    ∃ j' n, j.logR = (j', n, 0) ∧ j'.es = (ds.map some).map (erE (outB (goneL ds))) := by
  have h1 : outB (goneL (rdEv j.es)) = outB (goneL ds) := outB_congr (by rw [he]; exact gone_row _ ds P)
  obtain ⟨j', a1, _, a3, _⟩ := h.rewr hn (outB (goneL ds))
  refine ⟨j', cntE (outB (goneL ds)) j.es, ?_, by rw [a3, he, erRow_er]⟩
  unfold Jl.logR
  rw [h1, a1]
end Go.Proofs.YtejjfhhppjdcaaaGreatDoor
