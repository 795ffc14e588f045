/-
  Answers: a truth; a row of events; an event of a person's.
  Layer 2: event.May at a Forgotten event.
  Slices of texts in memory.
  Layer 31, plain: who is gone, what is left.
  sort.Search: a closure that makes memory, and changes nothing that was there.
  Layer 2: the document's Same, Texts, Big, Some.
-/
import Derived.Test.YtgbagjpokpchpaaGreatDoorFEv
import Derived.Test.YtgbagjpokpchpaaGreatDoorFClkPlain
import Derived.Test.YtgbagjpokpchpaaGreatDoorFSets
import Derived.CallsIn
import Derived.Lib.Walk
namespace Go.Proofs.YtgbagjpokpchpaaGreatDoor
open Go.RowKit

/-- it gives b, and changes nothing that was there -/
def Says (b : Bool) (w : World) (e : Ending) (w' : World) : Prop := e = .returned (.bool b) ∧ Below w.heap.size w w'

/-- v is a slice of the call's own that holds just these events -/
def OwnE (w : World) (base : Nat) (v : Value) (es : List Ev) : Prop := w.ownsRow base 28 8 v es.length (evCells es)

def SievePost (w : World) (es : List Ev) (p : Ev → Bool) (e : Ending) (w' : World) : Prop :=
  ∃ v, e = .returned v ∧ OwnE w' w.heap.size v (es.filter p) ∧ Below w.heap.size w w'

/-- an event is one of a person's -/
def ownB (p : List UInt8) (e : Ev) : Bool := nameB p && (e.per == p) && (e.kind != 14)

theorem OwnE.base_le {w : World} {base base' : Nat} {v : Value} {es : List Ev} (h : OwnE w base v es) (hb : base' ≤ base) : OwnE w base' v es := by
  refine ⟨h.1, ?_⟩
  rcases h.2 with ⟨e, hl⟩ | ⟨g, cap, cur, e, hb', hg, hr⟩
  · exact .inl ⟨e, hl⟩
  · exact .inr ⟨g, cap, cur, e, by omega, hg, hr⟩

end Go.Proofs.YtgbagjpokpchpaaGreatDoor
namespace Go.Proofs.YtgbagjpokpchpaaGreatDoor
open Go.RowKit

/-- the parts that every event must have -/
def headB (e : Ev) : Bool := nameB e.src && decide (1 ≤ e.num) && decide (e.num ≤ 1099511627776) && decide (0 ≤ e.at_) && decide (e.at_ ≤ 1099511627776)
/-- an event that says that somebody is to be forgotten -/
def forgetB (e : Ev) : Bool := (e.kind == 14) && headB e && nameB e.per && e.item.isEmpty && (e.val == 0) && e.text.isEmpty

/-- no text is longer than this -/
def Ev.small (e : Ev) : Prop := e.src.length ≤ 1000000000 ∧ e.per.length ≤ 1000000000 ∧ e.item.length ≤ 1000000000 ∧ e.text.length ≤ 1000000000

set_option maxRecDepth 100000 in
set_option maxHeartbeats 2000000 in
theorem may_head (w : World) (e : Ev) (hs : e.small) (hh : headB e = false) :
    Calls Tryz.prog 37 #[e.agg] w (Says false w) := by
  obtain ⟨s1, s2, s3, s4⟩ := hs
  unfold Ev.agg
  have HH := Lib.hid (show (nameB e.src && decide (1 ≤ e.num) && decide (e.num ≤ 1099511627776) && decide (0 ≤ e.at_) && decide (e.at_ ≤ 1099511627776)) = false from hh)
  clear hh
  go_enter Tryz.func37, Tryz.ntmps37
  go_wp2_with fail
  refine (name_any _ e.src s1).mono ?_
  rintro r w1 ⟨rfl, rfl⟩
  have hb : Below w.heap.size w (w.alloc (evObj e)) := (Below.refl _ _).alloc (Nat.le_refl _) _
  generalize nameB e.src = ns at *
  cases ns
  · go_wp2
    go_ret
    exact ⟨rfl, hb⟩
  · by_cases h1 : e.num < 1
    · go_wp2
      go_ret
      exact ⟨rfl, hb⟩
    by_cases h2 : 1099511627776 < e.num
    · go_wp2
      go_ret
      exact ⟨rfl, hb⟩
    by_cases h3 : e.at_ < 0
    · go_wp2
      go_ret
      exact ⟨rfl, hb⟩
    have h4 : 1099511627776 < e.at_ := by
      have := HH.out
      simp at this
      omega
    go_wp2
    go_ret
    exact ⟨rfl, hb⟩

theorem nameq (w : World) (l : List UInt8) (hm : l.length ≤ 1000000000) : Calls Tryz.prog 52 #[.string ⟨l.toArray⟩] w fun e w' => e = .returned (.bool (nameB l)) ∧ w' = w :=
  (name_any w l hm).mono fun _ _ h => ⟨h.1, h.2.symm⟩

set_option maxRecDepth 100000 in
set_option maxHeartbeats 4000000 in
theorem may_forget (w : World) (e : Ev) (hs : e.small) (hh : headB e = true) (hk : e.kind = 14) :
    Calls Tryz.prog 37 #[e.agg] w (Says (nameB e.per && e.item.isEmpty && (e.val == 0) && e.text.isEmpty) w) := by
  obtain ⟨s1, s2, s3, s4⟩ := hs
  have hh' : (nameB e.src && decide (1 ≤ e.num) && decide (e.num ≤ 1099511627776) && decide (0 ≤ e.at_) && decide (e.at_ ≤ 1099511627776)) = true := hh
  simp only [Bool.and_eq_true, decide_eq_true_eq] at hh'
  obtain ⟨⟨⟨⟨hns, h1⟩, h2⟩, h3⟩, h4⟩ := hh'
  have HNS := Lib.hid hns; clear hns hh
  have d1 : decide (e.num < 1) = false := decide_eq_false (by omega)
  have d2 : decide (1099511627776 < e.num) = false := decide_eq_false (by omega)
  have d3 : decide (e.at_ < 0) = false := decide_eq_false (by omega)
  have d4 : decide (1099511627776 < e.at_) = false := decide_eq_false (by omega)
  have HK := Lib.hid hk; clear hk
  unfold Ev.agg
  go_enter Tryz.func37, Tryz.ntmps37
  go_wp2_with fail
  refine (name_any _ e.src s1).mono ?_
  rintro r w1 ⟨rfl, rfl⟩
  rw [HNS.out]
  have hb : Below w.heap.size w (w.alloc (evObj e)) := (Below.refl _ _).alloc (Nat.le_refl _) _
  obtain ⟨f0, f1, f2, f3, f4, f5, f6, f7⟩ := EvIn.new w e
  generalize w.alloc (evObj e) = w1 at *
  rw [HK.out] at f3
  go_wp2
  clear d1 d2 d3 d4
  go_quiet ((go_at_call 52; exact Calls.quiet_of_same (nameq _ _ (by assumption))))
  have hbq : Below w.heap.size w (w1.drewN nq) := below_drewN hb nq
  generalize nameB e.per = np at *
  generalize nameB e.item = ni at *
  cases np
  · go_wp2
    go_ret
    exact ⟨rfl, hbq⟩
  cases hi : e.item.isEmpty
  · go_wp2
    go_ret
    exact ⟨by rw [hi]; rfl, hbq⟩
  cases hv : (e.val == 0)
  · go_wp2
    go_ret
    exact ⟨by rw [hi, hv]; rfl, hbq⟩
  go_wp2
  go_ret
  exact ⟨by rw [hi, hv]; rfl, hbq⟩
end Go.Proofs.YtgbagjpokpchpaaGreatDoor
namespace Go.Proofs.YtgbagjpokpchpaaGreatDoor
open Go.RowKit Go.Maps Go.Sort

theorem str_info : (Tryz.prog.info? 9).map (fun i => (i.zero, i.size, i.bytes)) = some (some (.string ByteArray.empty), 1, 16) := by kernel_rfl

/-- the slice value 'A, n, c' reads as these texts -/
def Strs (w : World) (B : Nat) (A : Option Addr) (n c : Nat) (ss : List (List UInt8)) : Prop := Cel w B 1 A n c (ss.map encStr)
theorem Strs.len {w : World} {B n c : Nat} {A : Option Addr} {ss : List (List UInt8)} (h : Strs w B A n c ss) : ss.length = n := by
  have := Cel.len h; simpa using this
theorem Strs.at_ {w : World} {B n c : Nat} {A : Option Addr} {ss : List (List UInt8)} (h : Strs w B A n c ss) (k : Nat) (hk : k < ss.length) :
    ∃ b off, A = some ⟨b, off, none⟩ ∧ b < B ∧ w.cell? ⟨b, off + k, none⟩ = some (.string ⟨ss[k].toArray⟩) := by
  have hl := h.len
  obtain ⟨b, off, e, hb, hc⟩ := Cel.cell h (by omega)
  exact ⟨b, off, e, hb, hc k _ (by simp [hk, encStr])⟩

end Go.Proofs.YtgbagjpokpchpaaGreatDoor
namespace Go.Proofs.YtgbagjpokpchpaaGreatDoor
open Go.RowKit Go.Maps

theorem SetB.congr {w : World} {b n : Nat} {ks ks' : List (List UInt8)} (h : SetB w b n ks) (hk : ∀ x, x ∈ ks ↔ x ∈ ks') : SetB w b n ks' := by
  obtain ⟨D, h1, h2, h3⟩ := h
  refine ⟨D, h1, h2, fun k => ?_⟩
  have : decide (k ∈ ks') = decide (k ∈ ks) := by simp [hk]
  rw [this]
  exact h3 k

/-- the people who are gone among events -/
def goneL (es : List Ev) : List (List UInt8) := (es.filter forgetB).map Ev.per

theorem goneL_take (es : List Ev) (k : Nat) (hk : k < es.length) : goneL (es.take (k + 1)) = goneL (es.take k) ++ (if forgetB es[k] then [es[k].per] else []) := by
  unfold goneL
  rw [List.take_add_one, List.getElem?_eq_getElem hk, Option.toList_some, List.filter_append, List.map_append]
  by_cases h : forgetB es[k] <;> simp [h]

/-- an event of nobody who is gone -/
def outB (ks : List (List UInt8)) (e : Ev) : Bool := !decide (e.per ∈ ks) || !ownB e.per e

/-- what is left when the events of the gone are taken away -/
def cleanL (es : List Ev) : List Ev := es.filter (outB (goneL es))

end Go.Proofs.YtgbagjpokpchpaaGreatDoor
namespace Go.Proofs.YtgbagjpokpchpaaGreatDoor
open Go.RowKit

/-- the first place from which on p holds -/
def SearchPost (n : Nat) (p : Nat → Bool) (w : World) (e : Ending) (w' : World) : Prop := ∃ k : Nat, e = .returned (.int .i64 k) ∧ k ≤ n ∧ (∀ i, i < k → p i = false) ∧ (∀ i, k ≤ i → i < n → p i = true) ∧ Below w.heap.size w w'
def SearchRel (n : Nat) (p : Nat → Bool) (w : World) (s5 s6 : Value) (wr : World) : Prop := ∃ lo hi : Nat, s5 = .int .i64 lo ∧ s6 = .int .i64 hi ∧ lo ≤ hi ∧ hi ≤ n ∧ Below w.heap.size w wr ∧ (∀ i, i < lo → p i = false) ∧ (∀ i, hi ≤ i → i < n → p i = true)

set_option maxHeartbeats 1000000 in
set_option maxRecDepth 100000 in
theorem search_any (w : World) (g : Nat) (cb : Array Value) (n : Nat) (p : Nat → Bool) (hn : n ≤ 1000000000) (hcall : ∀ (args : Array Value) (w : World), (callFunc g args).run Tryz.prog w = .ok (.enter g args) w)
    (hf : ∀ (w1 : World) (i : Nat), Below w.heap.size w w1 → i < n → Calls Tryz.prog g (#[.int .i64 i] ++ cb) w1 (Says (p i) w1)) (hmono : ∀ i j, i ≤ j → j < n → p i = true → p j = true) :
    Calls Tryz.prog 49 #[.int .i64 n, .func (.func g) #[] cb] w (SearchPost n p w) := by
  have HF := Lib.hid hf; have HM := Lib.hid hmono
  clear hf hmono
  go_enter Tryz.func49, Tryz.ntmps49
  go_wp2
  go_loopw [5, 6] (fun s5 s6 wr => SearchRel n p w s5 s6 wr) (fun s5 s6 _ => (intOf s6 - intOf s5).toNat)
  case atStart => exact ⟨0, n, rfl, rfl, Nat.zero_le _, Nat.le_refl _, Below.refl _ _, fun i h => by omega, fun i h h' => by omega⟩
  case round =>
    obtain ⟨lo, hi, rfl, rfl, hlh, hhn, hbel, h1, h2⟩ := hrel
    have H1 := Lib.hid h1; have H2 := Lib.hid h2
    clear h1 h2
    by_cases hlt : lo < hi
    · have hc := HF.out wr ((lo + hi) / 2) hbel (by omega)
      rw [show (((lo + hi) / 2 : Nat) : Int) = ((lo : Int) + (hi : Int)) / 2 by omega] at hc
      have HC := Lib.hid hc; clear hc
      go_wp2_with fail
      refine HC.out.mono ?_
      rintro e w1 ⟨rfl, hb1⟩
      have hbw : Below w.heap.size w w1 := hbel.trans (hb1.mono hbel.size)
      clear hb1 hcall
      cases hp : p ((lo + hi) / 2)
      · have HP := Lib.hid hp
        clear hp
        go_wp2
        go_roundw
        case rel =>
          refine ⟨(lo + hi) / 2 + 1, hi, by go_num, rfl, by omega, hhn, hbw, fun i hi' => ?_, H2.out⟩
          cases hpi : p i
          · rfl
          · have := HM.out i ((lo + hi) / 2) (by omega) (by omega) hpi
            rw [HP.out] at this; cases this
        case measure => simp [intOf]; omega
      · have HP := Lib.hid hp
        clear hp
        go_wp2
        go_roundw
        case rel =>
          refine ⟨lo, (lo + hi) / 2, rfl, by go_num, by omega, by omega, hbw, H1.out, fun i hi' hn' => ?_⟩
          exact HM.out _ _ hi' hn' HP.out
        case measure => simp [intOf]; omega
    · have e : hi = lo := by omega
      have HE := Lib.hid e
      clear e
      go_wp2
      go_ret
      exact ⟨lo, rfl, by omega, H1.out, fun i hi' hn' => H2.out i (by rw [HE.out]; exact hi') hn', hbel⟩
end Go.Proofs.YtgbagjpokpchpaaGreatDoor
namespace Go.Proofs.YtgbagjpokpchpaaGreatDoor
open Go.RowKit Go.Maps Go.Sort

set_option maxRecDepth 100000 in
set_option maxHeartbeats 2000000 in
theorem same02_any (w : World) (B B' : Nat) (A A' : Option Addr) (n c c' : Nat) (es : List Ev) (h : Evs w B A n c es) (h' : Evs w B' A' n c' es) (hn : n ≤ 100000) :
    Calls Tryz.prog 12 #[.slice A n c, .slice A' n c'] w fun e w' => e = .returned (.bool true) ∧ ∃ k, w' = w.drewN k := by
  have HH := Lib.hid h; clear h
  have HH' := Lib.hid h'; clear h'
  have hnn : ((n : Int) != (n : Int)) = false := by simp
  go_enter Tryz.func12, Tryz.ntmps12
  go_wp2
  clear hnn
  go_loopw [5] (fun i wr => ∃ k q : Nat, i = .int .i64 k ∧ k ≤ n ∧ wr = w.drewN q) (fun i _ => n - (intOf i).toNat)
  case atStart => exact ⟨0, 0, rfl, Nat.zero_le _, rfl⟩
  case round =>
    obtain ⟨k, q, rfl, hk, rfl⟩ := hrel
    by_cases hkn : k < n
    · have hkl : k < es.length := by rw [HH.out.len]; exact hkn
      obtain ⟨b, off, rfl, hb, hc⟩ := HH.out.ev k hkl
      obtain ⟨b', off', rfl, hb', hc'⟩ := HH'.out.ev k hkl
      obtain ⟨e0, e1, e2, e3, e4, e5, e6, e7⟩ := hc
      obtain ⟨f0, f1, f2, f3, f4, f5, f6, f7⟩ := hc'
      have t1 : (k : Int) < n := by omega
      generalize es[k] = x at *
      go_wp2
      go_quiet (fail)
      go_wp2
      go_roundw
      case rel => exact ⟨k + 1, q + nq, by go_num, by omega, by first | rfl | exact World.drewN_drewN ..⟩
      case measure => simp [intOf]; omega
    · go_wp2
      go_ret
      exact ⟨rfl, _, rfl⟩

def bigB (e : Ev) (m : Int) : Bool := decide (m < e.src.length) || decide (m < e.per.length) || decide (m < e.item.length) || decide (m < e.text.length)
theorem big_any (w : World) (e : Ev) (m : Int) : Calls Tryz.prog 23 #[e.agg, .int .i64 m] w (Says (bigB e m) w) := by
  have HB := Lib.hid (show bigB e m = (decide (m < e.src.length) || decide (m < e.per.length) || decide (m < e.item.length) || decide (m < e.text.length)) from rfl)
  have hb : Below w.heap.size w (w.alloc (evObj e)) := (Below.refl _ _).alloc (Nat.le_refl _) _
  unfold Ev.agg
  cases h1 : decide (m < (e.src.length : Int))
  · cases h2 : decide (m < (e.per.length : Int))
    · cases h3 : decide (m < (e.item.length : Int))
      · have HX := Lib.hid (show bigB e m = decide (m < e.text.length) by rw [HB.out, h1, h2, h3]; rfl)
        go_enter Tryz.func23, Tryz.ntmps23
        go_wp2
        go_ret
        exact ⟨ret_bool HX.out.symm, hb⟩
      · have HX := Lib.hid (show bigB e m = true by rw [HB.out, h1, h2, h3]; rfl)
        go_enter Tryz.func23, Tryz.ntmps23
        go_wp2
        go_ret
        exact ⟨ret_bool HX.out.symm, hb⟩
    · have HX := Lib.hid (show bigB e m = true by rw [HB.out, h1, h2]; rfl)
      go_enter Tryz.func23, Tryz.ntmps23
      go_wp2
      go_ret
      exact ⟨ret_bool HX.out.symm, hb⟩
  · have HX := Lib.hid (show bigB e m = true by rw [HB.out, h1]; rfl)
    go_enter Tryz.func23, Tryz.ntmps23
    go_wp2
    go_ret
    exact ⟨ret_bool HX.out.symm, hb⟩
end Go.Proofs.YtgbagjpokpchpaaGreatDoor
