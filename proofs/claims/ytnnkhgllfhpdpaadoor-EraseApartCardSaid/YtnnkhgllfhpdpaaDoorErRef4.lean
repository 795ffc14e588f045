/-
  Layer 31: the document's Clean (ciceroneref31); the law's long.
-/
import Derived.Test.YtnnkhgllfhpdpaaDoorErRef3
namespace Go.Proofs.YtnnkhgllfhpdpaaDoor
open Go.RowKit Go.Maps Go.Sort

def EvsV (w : World) (v : Value) (es : List Ev) : Prop := ∃ A c, v = .slice A es.length c ∧ Evs w w.heap.size A es.length c es
theorem EvsV.below {w w' : World} {v : Value} {es : List Ev} (h : EvsV w v es) (hb : Below w.heap.size w w') : EvsV w' v es := by
  obtain ⟨A, c, e, h1⟩ := h
  exact ⟨A, c, e, Cel.more (Cel.below h1 hb) hb.size⟩
theorem EvsV.of_own {w : World} {base : Nat} {v : Value} {es : List Ev} (h : OwnE w base v es) : EvsV w v es := by
  obtain ⟨A, c, e⟩ := ownsRow_form h
  subst e
  exact ⟨A, c, rfl, Cel.of_own h⟩

/-- all but the events of these people -/
def allOut (r : List (List UInt8)) (es : List Ev) : List Ev := es.filter (fun e => r.all (fun p => !ownB p e))
theorem allOut_snoc (r : List (List UInt8)) (p : List UInt8) (es : List Ev) : (allOut r es).filter (fun e => !ownB p e) = allOut (r ++ [p]) es := by
  unfold allOut
  rw [List.filter_filter]
  refine List.filter_congr fun e _ => ?_
  simp [Bool.and_comm]
theorem allOut_length (r : List (List UInt8)) (es : List Ev) : (allOut r es).length ≤ es.length := List.length_filter_le _ _
theorem allOut_clean {r : List (List UInt8)} {es : List Ev} (h : Rising r (goneL es)) : allOut r es = es.filter (outB (goneL es)) := by
  unfold allOut
  refine List.filter_congr fun e _ => ?_
  rw [Bool.eq_iff_iff, List.all_eq_true]
  unfold outB
  constructor
  · intro hall
    by_cases hin : e.per ∈ goneL es
    · have := hall e.per ((h.2 _).2 hin)
      simp only [this, Bool.or_true]
    · simp [hin]
  · intro hor p hp
    have hpin : p ∈ goneL es := (h.2 p).1 hp
    by_cases e1 : e.per = p
    · subst e1
      simp [hpin] at hor
      simpa using hor
    · simp [ownB, e1]

def RCleanRel (w : World) (r : List (List UInt8)) (es : List Ev) (v i : Value) (wr : World) : Prop :=
  ∃ k : Nat, i = .int .i64 k ∧ k ≤ r.length ∧ EvsV wr v (allOut (r.take k) es) ∧ Below w.heap.size w wr
def RCleanPost (w : World) (es : List Ev) (e : Ending) (w' : World) : Prop :=
  ∃ v, e = .returned v ∧ EvsV w' v (es.filter (outB (goneL es))) ∧ Below w.heap.size w w'

theorem goneL_length (es : List Ev) : (goneL es).length ≤ es.length := by
  unfold goneL; rw [List.length_map]; exact List.length_filter_le _ _
theorem rising_small {r : List (List UInt8)} {es : List Ev} (h : Rising r (goneL es)) (hsm : ∀ e ∈ es, e.small) : ∀ p ∈ r, p.length ≤ 1000000000 := by
  intro p hp
  have := (h.2 p).1 hp
  unfold goneL at this
  obtain ⟨e, he, rfl⟩ := List.mem_map.1 this
  exact (hsm e (List.mem_filter.1 he).1).2.1
theorem rising_length {r ks : List (List UInt8)} (h : Rising r ks) : r.length ≤ ks.length := by
  have hnd : r.Nodup := List.pairwise_iff_getElem.2 fun i j hi hj hij e => by
    have := List.pairwise_iff_getElem.1 h.1 i j hi hj hij
    rw [e] at this
    exact lt_irr _ this
  have key : ∀ (r ks : List (List UInt8)), r.Nodup → (∀ x, x ∈ r → x ∈ ks) → r.length ≤ ks.length := by
    intro r
    induction r with
    | nil => intro ks _ _; simp
    | cons a l ih =>
      intro ks hnd hsub
      have hnd' := List.nodup_cons.1 hnd
      have ha : a ∈ ks := hsub a List.mem_cons_self
      have := ih (ks.erase a) hnd'.2 (fun x hx => by
        have hxa : x ≠ a := fun e => hnd'.1 (by rw [← e]; exact hx)
        exact (List.mem_erase_of_ne hxa).2 (hsub x (List.mem_cons_of_mem _ hx)))
      rw [List.length_erase_of_mem ha] at this
      have := List.length_pos_of_mem ha
      simp only [List.length_cons]
      omega
  exact key r ks hnd fun x hx => (h.2 x).1 hx

set_option maxRecDepth 100000 in
set_option maxHeartbeats 2000000 in
theorem rclean_any (w : World) (A : Option Addr) (n c : Nat) (es : List Ev) (h : Evs w w.heap.size A n c es) (hn : n ≤ 1000) (hsm : ∀ e ∈ es, e.small) :
    Calls Tryd.prog 25 #[.slice A n c] w (RCleanPost w es) := by
  have HH := Lib.hid h; clear h
  have HSM := Lib.hid hsm; clear hsm
  have hl := HH.out.len
  have HL := Lib.hid hl; clear hl
  go_enter Tryd.func25, Tryd.ntmps25
  go_wp2_with fail
  refine (rgone_any w A n c es HH.out hn HSM.out).mono ?_
  rintro q w1 ⟨v, r, rfl, hri, hsv, hb1⟩
  obtain ⟨Ar, cr, hv, hst⟩ := hsv
  subst hv
  have hrl : r.length ≤ 1000 := by have := rising_length hri; have := goneL_length es; rw [HL.out] at this; omega
  have HRI := Lib.hid hri; have HST := Lib.hid hst; clear hri hst
  have HSMR := Lib.hid (rising_small HRI.out HSM.out)
  go_wp2
  go_loopw [3, 10] (fun v i wr => RCleanRel w r es v i wr ∧ Below w1.heap.size w1 wr) (fun _ i _ => r.length - (intOf i).toNat)
  case atStart =>
    refine ⟨⟨0, rfl, Nat.zero_le _, ?_, hb1⟩, Below.refl _ _⟩
    have e : allOut (r.take 0) es = es := by simp [allOut]
    rw [e]
    have hl := HH.out.len
    subst hl
    exact ⟨A, c, rfl, Cel.more (Cel.below HH.out hb1) hb1.size⟩
  case round =>
    obtain ⟨⟨k, rfl, hk, hev, hbel⟩, hb1r⟩ := hrel
    have HE := Lib.hid hev; clear hev
    by_cases hkn : k < r.length
    · obtain ⟨b, off, rfl, hb, hc⟩ := HST.out.at_ k hkn
      have hc' : wr.cell? ⟨b, off + k, none⟩ = some (.string ⟨r[k].toArray⟩) := (hb1r.cell (p := ⟨b, off + k, none⟩) hb).trans hc
      have HTK := Lib.hid (show r.take (k + 1) = r.take k ++ [r[k]] by rw [List.take_add_one, List.getElem?_eq_getElem hkn]; rfl)
      have hps := HSMR.out r[k] (List.getElem_mem hkn)
      generalize r[k] = p at *
      have t1 : (k : Int) < r.length := by omega
      obtain ⟨Ae, ce, hve, hes⟩ := HE.out
      rw [hve]
      have HES := Lib.hid hes; clear hes hve hc
      have hal : (allOut (r.take k) es).length ≤ 1000 := by have := allOut_length (r.take k) es; rw [HL.out] at this; omega
      go_wp2_with fail
      refine (rwithout_any wr p Ae _ ce (allOut (r.take k) es) HES.out hal hps).mono ?_
      rintro q w2 ⟨v2, rfl, hown2, hb2⟩
      have HE2 := Lib.hid (EvsV.of_own hown2); clear hown2
      have hbw2 : Below w.heap.size w w2 := hbel.trans (hb2.mono hbel.size)
      have hb1w2 : Below w1.heap.size w1 w2 := hb1r.trans (hb2.mono hb1r.size)
      clear hc'
      go_wp2
      go_roundw
      case rel =>
        refine ⟨⟨k + 1, by go_num, by omega, ?_, hbw2⟩, hb1w2⟩
        rw [HTK.out, ← allOut_snoc]
        exact HE2.out
      case measure => simp [intOf]; omega
    · have hkk : r.take k = r := List.take_of_length_le (by omega)
      have HKK := Lib.hid hkk; clear hkk
      go_wp2
      go_ret
      refine ⟨u3, rfl, ?_, hbel⟩
      have := HE.out
      rw [HKK.out, allOut_clean HRI.out] at this
      exact this
end Go.Proofs.YtnnkhgllfhpdpaaDoor
