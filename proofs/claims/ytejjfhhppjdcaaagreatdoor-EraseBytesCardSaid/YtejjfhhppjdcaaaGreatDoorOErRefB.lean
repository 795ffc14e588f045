/-
  Layer 31: the document's Without, Gone, Clean (ciceroneref31).
  Layer 31: the document's Clean (ciceroneref31); the law's long.
-/
import Derived.Test.YtejjfhhppjdcaaaGreatDoorOErRefA
namespace Go.Proofs.YtejjfhhppjdcaaaGreatDoor
open Go.RowKit Go.Maps Go.Sort

theorem mem_insL (s x : List UInt8) (ss : List (List UInt8)) : x ∈ insL s ss ↔ x = s ∨ x ∈ ss := by
  induction ss with
  | nil => simp [insL]
  | cons a l ih =>
    unfold insL
    split
    · simp
    · simp only [List.mem_cons, ih]
      constructor
      · rintro (h | h | h)
        · exact .inr (.inl h)
        · exact .inl h
        · exact .inr (.inr h)
      · rintro (h | h | h)
        · exact .inr (.inl h)
        · exact .inl h
        · exact .inr (.inr h)
theorem lt_tot {a b : List UInt8} (h : ¬ a < b) (hne : a ≠ b) : b < a := by
  have hle : b ≤ a := List.not_lt.1 h
  rcases Decidable.em (b < a) with h' | h'
  · exact h'
  · exact absurd (List.le_antisymm (List.not_lt.1 h') hle) hne
theorem insL_sorted (s : List UInt8) (ss : List (List UInt8)) (h : ss.Pairwise (· < ·)) (hn : s ∉ ss) : (insL s ss).Pairwise (· < ·) := by
  induction ss with
  | nil => simp [insL]
  | cons a l ih =>
    have h' := List.pairwise_cons.1 h
    unfold insL
    split
    · rename_i hlt
      refine List.pairwise_cons.2 ⟨fun x hx => ?_, h⟩
      rcases List.mem_cons.1 hx with e | e
      · rw [e]; exact hlt
      · exact List.lt_trans hlt (h'.1 x e)
    · rename_i hlt
      have hsa : a < s := lt_tot hlt (fun e => hn (by rw [e]; exact List.mem_cons_self))
      refine List.pairwise_cons.2 ⟨fun x hx => ?_, ih h'.2 (fun e => hn (List.mem_cons_of_mem _ e))⟩
      rcases (mem_insL s x l).1 hx with e | e
      · rw [e]; exact hsa
      · exact h'.1 x e
theorem rising_put {ss ks : List (List UInt8)} (h : Rising ss ks) (s : List UInt8) : Rising (putL ss s) (ks ++ [s]) := by
  unfold putL
  split
  · rename_i hin
    exact ⟨h.1, fun x => by rw [h.2 x]; simp; intro e; subst e; exact (h.2 x).1 hin⟩
  · rename_i hin
    exact ⟨insL_sorted s ss h.1 hin, fun x => by rw [mem_insL, h.2 x]; simp [or_comm]⟩
theorem putL_length (ss : List (List UInt8)) (s : List UInt8) : (putL ss s).length ≤ ss.length + 1 := by
  have key : ∀ ss : List (List UInt8), (insL s ss).length = ss.length + 1 := by
    intro ss
    induction ss with
    | nil => rfl
    | cons a l ih => unfold insL; split <;> simp [ih]
  unfold putL
  split
  · omega
  · rw [key]; omega

theorem wfilter_take (es : List Ev) (p : Ev → Bool) (k : Nat) (hk : k < es.length) : (es.take (k + 1)).filter p = (es.take k).filter p ++ (if p es[k] then [es[k]] else []) := by
  rw [List.take_add_one, List.getElem?_eq_getElem hk, Option.toList_some, List.filter_append]
  simp [List.filter_cons]

set_option maxRecDepth 100000 in
set_option maxHeartbeats 2000000 in
theorem rwithout_any (w : World) (p : List UInt8) (A : Option Addr) (n c : Nat) (es : List Ev) (h : Evs w w.heap.size A n c es) (hn : n ≤ 1000) (hp : p.length ≤ 1000000000) :
    Calls Tryz.prog 98 #[.slice A n c, .string ⟨p.toArray⟩] w (SievePost w es (fun e => !ownB p e)) := by
  have HH := Lib.hid h; clear h
  go_enter Tryz.func98, Tryz.ntmps98
  go_wp2
  go_loopw [5, 6] (fun v i wr => SieveRel w n es (fun e => !ownB p e) v i wr) (fun _ i _ => n - (intOf i).toNat)
  case atStart => exact ⟨0, rfl, Nat.zero_le _, World.ownsRow_lit w #[] 0 (Nat.le_refl _) (by simp [maxLen]) rfl, (Below.refl _ _).alloc (Nat.le_refl _) _⟩
  case round =>
    obtain ⟨k, rfl, hk, hown, hbel⟩ := hrel
    have HO := Lib.hid hown; clear hown
    have hs0 := hbel.size
    by_cases hkn : k < n
    · have hkl : k < es.length := by rw [HH.out.len]; exact hkn
      obtain ⟨b, off, rfl, hb, hev⟩ := HH.out.ev k hkl
      have HEV := Lib.hid hev; clear hev
      obtain ⟨e0, e1, e2, e3, e4, e5, e6, e7⟩ := HEV.out.below hbel hb
      have HTK := Lib.hid (wfilter_take es (fun e => !ownB p e) k hkl)
      have hlen : ((es.take k).filter (fun e => !ownB p e)).length ≤ k := by
        have := List.length_filter_le (fun e => !ownB p e) (es.take k); rw [List.length_take] at this; omega
      generalize es[k] = x at *
      have t1 : (k : Int) < n := by omega
      go_wp2_with fail
      refine (rown_any wr p x hp).mono ?_
      rintro r w1 ⟨rfl, hbw1⟩
      have hbw : Below w.heap.size w w1 := hbel.trans (hbw1.mono hbel.size)
      have hs1 := hbw1.size
      have HOW := Lib.hid (ownsRow_below HO.out hbw1 (Nat.le_refl _))
      clear e0 e1 e2 e3 e4 e5 e6 e7
      cases ho : ownB p x
      · have HT : Hid ((es.take (k + 1)).filter (fun e => !ownB p e) = (es.take k).filter (fun e => !ownB p e) ++ [x]) := by have := HTK.out; rw [ho] at this; unfold Hid; simpa using this
        clear ho HTK
        obtain ⟨e0, e1, e2, e3, e4, e5, e6, e7⟩ := HEV.out.below hbw hb
        obtain ⟨i0, hi, hz0, hz1, hz2⟩ := info_parts ev_info
        have HI := Lib.hid hi; have HZ0 := Lib.hid hz0; have HZ1 := Lib.hid hz1; have HZ2 := Lib.hid hz2
        clear hi hz0 hz1 hz2
        go_wp2_with (at_builtin; refine wpList_app (P := Tryz.prog) rfl (.tmp 21) (.tmp 26) 22 rfl 36 i0 _ 8 96 Tryz.underlying22 HI.out HZ0.out HZ1.out HZ2.out rfl (by decide) w.heap.size _ ((es.take k).filter (fun e => !ownB p e)).length (evCells ((es.take k).filter (fun e => !ownB p e))) rfl ?c1 (w1.heap.size + 1) _ _ _ x.cells rfl ?c2 (cells_one x) ?c4 ?c5 ?c6 ?_)
        case c1 => exact World.ownsRow.alloc HOW.out _
        case c2 => exact Cel.new w1 _ _ (by unfold maxLen; omega) rfl
        case c4 => unfold maxLen; omega
        case c5 => omega
        case c6 => first | omega | (simp; omega)
        intro v' w2 hown2 hg2 _
        have hb2 : Below w.heap.size w w2 := Below.grown (hbw.alloc (by omega) _) hg2 (by simp; omega) (fun k' hk' => (HOW.out.lt k' hk').1)
        have HO2 := Lib.hid hown2
        have HB2 := Lib.hid hb2
        clear hown2 hg2 hb2 e0 e1 e2 e3 e4 e5 e6 e7
        go_wp2
        go_roundw
        case rel =>
          refine ⟨k + 1, by go_num, by omega, ?_, HB2.out⟩
          rw [HT.out]
          unfold OwnE
          rw [evCells_one, List.length_append]
          exact HO2.out
        case measure => simp [intOf]; omega
      · have HT : Hid ((es.take (k + 1)).filter (fun e => !ownB p e) = (es.take k).filter (fun e => !ownB p e)) := by have := HTK.out; rw [ho] at this; unfold Hid; simpa using this
        clear ho HTK
        go_wp2
        go_roundw
        case rel => exact ⟨k + 1, by go_num, by omega, by rw [HT.out]; exact HOW.out, hbw⟩
        case measure => simp [intOf]; omega
    · have hkk : es.take k = es := List.take_of_length_le (by rw [HH.out.len]; omega)
      have HKK := Lib.hid hkk; clear hkk
      go_wp2
      go_ret
      exact ⟨u5, rfl, by have := HO.out; rw [HKK.out] at this; exact this, hbel⟩

def RGoneRel (w : World) (n : Nat) (es : List Ev) (v i : Value) (wr : World) : Prop :=
  ∃ (k : Nat) (r : List (List UInt8)), i = .int .i64 k ∧ k ≤ n ∧ StrsV wr v r ∧ r.length ≤ k ∧ Rising r (goneL (es.take k)) ∧ Below w.heap.size w wr
def RGonePost (w : World) (ks : List (List UInt8)) (e : Ending) (w' : World) : Prop :=
  ∃ v r, e = .returned v ∧ Rising r ks ∧ StrsV w' v r ∧ Below w.heap.size w w'
theorem StrsV.below {w w' : World} {v : Value} {ss : List (List UInt8)} (h : StrsV w v ss) (hb : Below w.heap.size w w') : StrsV w' v ss := by
  obtain ⟨A, c, e, h1⟩ := h
  exact ⟨A, c, e, Cel.more (Cel.below h1 hb) hb.size⟩

set_option maxRecDepth 100000 in
set_option maxHeartbeats 2000000 in
theorem rgone_any (w : World) (A : Option Addr) (n c : Nat) (es : List Ev) (h : Evs w w.heap.size A n c es) (hn : n ≤ 1000) (hsm : ∀ e ∈ es, e.small) :
    Calls Tryz.prog 55 #[.slice A n c] w (RGonePost w (goneL es)) := by
  have HH := Lib.hid h; clear h
  have HSM := Lib.hid hsm; clear hsm
  go_enter Tryz.func55, Tryz.ntmps55
  go_wp2
  go_loopw [3, 4] (fun v i wr => RGoneRel w n es v i wr) (fun _ i _ => n - (intOf i).toNat)
  case atStart => exact ⟨0, [], rfl, Nat.zero_le _, ⟨_, 0, rfl, Cel.nil _ _ _ _ _ (by simp [maxLen])⟩, by simp, ⟨List.Pairwise.nil, fun x => by simp [goneL]⟩, (Below.refl _ _).alloc (Nat.le_refl _) _⟩
  case round =>
    obtain ⟨k, r, rfl, hk, hsv, hrl, hri, hbel⟩ := hrel
    have HS := Lib.hid hsv; have HR := Lib.hid hri; clear hsv hri
    have hs0 := hbel.size
    by_cases hkn : k < n
    · have hkl : k < es.length := by rw [HH.out.len]; exact hkn
      obtain ⟨b, off, rfl, hb, hev⟩ := HH.out.ev k hkl
      have HEV := Lib.hid hev; clear hev
      obtain ⟨e0, e1, e2, e3, e4, e5, e6, e7⟩ := HEV.out.below hbel hb
      have HTK := Lib.hid (goneL_take es k hkl)
      have HX := Lib.hid (HSM.out es[k] (List.getElem_mem hkl))
      generalize es[k] = x at *
      have t1 : (k : Int) < n := by omega
      go_wp2_with fail
      refine (rforgets_any wr x HX.out).mono ?_
      rintro q w1 ⟨rfl, hbw1⟩
      have hbw : Below w.heap.size w w1 := hbel.trans (hbw1.mono hbel.size)
      have HS1 := Lib.hid (HS.out.below hbw1)
      clear e0 e1 e2 e3 e4 e5 e6 e7
      cases ho : forgetB x
      · have HT : Hid (goneL (es.take (k + 1)) = goneL (es.take k)) := by have := HTK.out; rw [ho] at this; unfold Hid; simpa using this
        clear ho HTK
        go_wp2
        go_roundw
        case rel => exact ⟨k + 1, r, by go_num, by omega, HS1.out, by omega, by rw [HT.out]; exact HR.out, hbw⟩
        case measure => simp [intOf]; omega
      · have HT : Hid (goneL (es.take (k + 1)) = goneL (es.take k) ++ [x.per]) := by have := HTK.out; rw [ho] at this; unfold Hid; simpa using this
        clear ho HTK
        obtain ⟨e0, e1, e2, e3, e4, e5, e6, e7⟩ := HEV.out.below hbw hb
        obtain ⟨Ar, cr, hv, hst⟩ := HS1.out
        rw [hv]
        have HST := Lib.hid hst; clear hst hv
        go_wp2_with fail
        refine (put_any w1 Ar r.length cr r HST.out (by omega) x.per).mono ?_
        rintro q w2 ⟨v2, rfl, hsv2, hb2⟩
        have hbw2 : Below w.heap.size w w2 := hbw.trans (hb2.mono hbw.size)
        have HS2 := Lib.hid hsv2; clear hsv2 e0 e1 e2 e3 e4 e5 e6 e7
        have hpl := putL_length r x.per
        go_wp2
        go_roundw
        case rel => exact ⟨k + 1, putL r x.per, by go_num, by omega, HS2.out, by omega, by rw [HT.out]; exact rising_put HR.out _, hbw2⟩
        case measure => simp [intOf]; omega
    · have hkk : es.take k = es := List.take_of_length_le (by rw [HH.out.len]; omega)
      have HKK := Lib.hid hkk; clear hkk
      go_wp2
      go_ret
      exact ⟨u3, r, rfl, by have := HR.out; rw [HKK.out] at this; exact this, HS.out, hbel⟩
end Go.Proofs.YtejjfhhppjdcaaaGreatDoor
namespace Go.Proofs.YtejjfhhppjdcaaaGreatDoor
open Go.RowKit Go.Maps Go.Sort

/-- all but the events of these people -/
def allOut (r : List (List UInt8)) (es : List Ev) : List Ev := es.filter (fun e => r.all (fun p => !ownB p e))
theorem allOut_snoc (r : List (List UInt8)) (p : List UInt8) (es : List Ev) : (allOut r es).filter (fun e => !ownB p e) = allOut (r ++ [p]) es := by
  unfold allOut
  rw [List.filter_filter]
  refine List.filter_congr fun e _ => ?_
  simp [Bool.and_comm]
theorem allOut_length (r : List (List UInt8)) (es : List Ev) : (allOut r es).length ≤ es.length := List.length_filter_le _ _
theorem allOut_clean {r : List (List UInt8)} {es : List Ev} (h : Rising r (goneL es)) : allOut r es = es.filter (outB (goneL es)) := by
  unfold allOut
  refine List.filter_congr fun e _ => ?_
  rw [Bool.eq_iff_iff, List.all_eq_true]
  unfold outB
  constructor
  · intro hall
    by_cases hin : e.per ∈ goneL es
    · have := hall e.per ((h.2 _).2 hin)
      simp only [this, Bool.or_true]
    · simp [hin]
  · intro hor p hp
    have hpin : p ∈ goneL es := (h.2 p).1 hp
    by_cases e1 : e.per = p
    · subst e1
      simp [hpin] at hor
      simpa using hor
    · simp [ownB, e1]

def RCleanRel (w : World) (r : List (List UInt8)) (es : List Ev) (v i : Value) (wr : World) : Prop :=
  ∃ k : Nat, i = .int .i64 k ∧ k ≤ r.length ∧ EvsV wr v (allOut (r.take k) es) ∧ Below w.heap.size w wr
def RCleanPost (w : World) (es : List Ev) (e : Ending) (w' : World) : Prop :=
  ∃ v, e = .returned v ∧ EvsV w' v (es.filter (outB (goneL es))) ∧ Below w.heap.size w w'

theorem goneL_length (es : List Ev) : (goneL es).length ≤ es.length := by
  unfold goneL; rw [List.length_map]; exact List.length_filter_le _ _
theorem rising_small {r : List (List UInt8)} {es : List Ev} (h : Rising r (goneL es)) (hsm : ∀ e ∈ es, e.small) : ∀ p ∈ r, p.length ≤ 1000000000 := by
  intro p hp
  have := (h.2 p).1 hp
  unfold goneL at this
  obtain ⟨e, he, rfl⟩ := List.mem_map.1 this
  exact (hsm e (List.mem_filter.1 he).1).2.1
set_option maxRecDepth 100000 in
set_option maxHeartbeats 2000000 in
theorem rclean_any (w : World) (A : Option Addr) (n c : Nat) (es : List Ev) (h : Evs w w.heap.size A n c es) (hn : n ≤ 1000) (hsm : ∀ e ∈ es, e.small) :
    Calls Tryz.prog 59 #[.slice A n c] w (RCleanPost w es) := by
  have HH := Lib.hid h; clear h
  have HSM := Lib.hid hsm; clear hsm
  have hl := HH.out.len
  have HL := Lib.hid hl; clear hl
  go_enter Tryz.func59, Tryz.ntmps59
  go_wp2_with fail
  refine (rgone_any w A n c es HH.out hn HSM.out).mono ?_
  rintro q w1 ⟨v, r, rfl, hri, hsv, hb1⟩
  obtain ⟨Ar, cr, hv, hst⟩ := hsv
  subst hv
  have hrl : r.length ≤ 1000 := by have := rising_length hri; have := goneL_length es; rw [HL.out] at this; omega
  have HRI := Lib.hid hri; have HST := Lib.hid hst; clear hri hst
  have HSMR := Lib.hid (rising_small HRI.out HSM.out)
  go_wp2
  go_loopw [3, 10] (fun v i wr => RCleanRel w r es v i wr ∧ Below w1.heap.size w1 wr) (fun _ i _ => r.length - (intOf i).toNat)
  case atStart =>
    refine ⟨⟨0, rfl, Nat.zero_le _, ?_, hb1⟩, Below.refl _ _⟩
    have e : allOut (r.take 0) es = es := by simp [allOut]
    rw [e]
    have hl := HH.out.len
    subst hl
    exact ⟨A, c, rfl, Cel.more (Cel.below HH.out hb1) hb1.size⟩
  case round =>
    obtain ⟨⟨k, rfl, hk, hev, hbel⟩, hb1r⟩ := hrel
    have HE := Lib.hid hev; clear hev
    by_cases hkn : k < r.length
    · obtain ⟨b, off, rfl, hb, hc⟩ := HST.out.at_ k hkn
      have hc' : wr.cell? ⟨b, off + k, none⟩ = some (.string ⟨r[k].toArray⟩) := (hb1r.cell (p := ⟨b, off + k, none⟩) hb).trans hc
      have HTK := Lib.hid (show r.take (k + 1) = r.take k ++ [r[k]] by rw [List.take_add_one, List.getElem?_eq_getElem hkn]; rfl)
      have hps := HSMR.out r[k] (List.getElem_mem hkn)
      generalize r[k] = p at *
      have t1 : (k : Int) < r.length := by omega
      obtain ⟨Ae, ce, hve, hes⟩ := HE.out
      rw [hve]
      have HES := Lib.hid hes; clear hes hve hc
      have hal : (allOut (r.take k) es).length ≤ 1000 := by have := allOut_length (r.take k) es; rw [HL.out] at this; omega
      go_wp2_with fail
      refine (rwithout_any wr p Ae _ ce (allOut (r.take k) es) HES.out hal hps).mono ?_
      rintro q w2 ⟨v2, rfl, hown2, hb2⟩
      have HE2 := Lib.hid (EvsV.of_own hown2); clear hown2
      have hbw2 : Below w.heap.size w w2 := hbel.trans (hb2.mono hbel.size)
      have hb1w2 : Below w1.heap.size w1 w2 := hb1r.trans (hb2.mono hb1r.size)
      clear hc'
      go_wp2
      go_roundw
      case rel =>
        refine ⟨⟨k + 1, by go_num, by omega, ?_, hbw2⟩, hb1w2⟩
        rw [HTK.out, ← allOut_snoc]
        exact HE2.out
      case measure => simp [intOf]; omega
    · have hkk : r.take k = r := List.take_of_length_le (by omega)
      have HKK := Lib.hid hkk; clear hkk
      go_wp2
      go_ret
      refine ⟨u3, rfl, ?_, hbel⟩
      have := HE.out
      rw [HKK.out, allOut_clean HRI.out] at this
      exact this
end Go.Proofs.YtejjfhhppjdcaaaGreatDoor
