/-
  Layer 31: erase.of, erase.Without, erase.Traces.
  Layer 2: event.May at a Forgotten event.
-/
import Derived.Test.YtejjfhhppjdcaaaGreatDoorBErWalk
import Derived.Test.YtejjfhhppjdcaaaGreatDoorBEvName
namespace Go.Proofs.YtejjfhhppjdcaaaGreatDoor
open Go.RowKit

/-- an event is one of a person's -/
def ownB (p : List UInt8) (e : Ev) : Bool := nameB p && (e.per == p) && (e.kind != 14)

theorem of_any (w : World) (p : List UInt8) (e : Ev) (hp : p.length ≤ 1000000000) :
    Calls Tryz.prog 119 #[.string ⟨p.toArray⟩, e.agg] w (Says (ownB p e) w) := by
  unfold Ev.agg
  have HO := Lib.hid (show ownB p e = (nameB p && (e.per == p) && (e.kind != 14)) from rfl)
  go_enter Tryz.func119, Tryz.ntmps119
  go_wp2_with fail
  refine (name_any _ p hp).mono ?_
  rintro r w1 ⟨rfl, rfl⟩
  have hb : Below w.heap.size w (w.alloc (evObj e)) := (Below.refl _ _).alloc (Nat.le_refl _) _
  cases h1 : nameB p
  · have HN := Lib.hid h1; clear h1
    go_wp2
    go_ret
    exact ⟨ret_bool (by rw [HO.out, HN.out]; rfl), hb⟩
  · have HN := Lib.hid h1; clear h1
    cases h2 : (e.per == p)
    · have HP := Lib.hid h2
      go_wp2
      go_ret
      exact ⟨ret_bool (by rw [HO.out, HN.out, HP.out]; rfl), hb⟩
    · have HP := Lib.hid h2
      go_wp2
      go_ret
      exact ⟨ret_bool (by rw [HO.out, HN.out, HP.out]; rfl), hb⟩

theorem without1_any (w : World) (b : Nat) (p : List UInt8) (e : Ev) (hp : p.length ≤ 1000000000) (hc : w.cell? ⟨b, 0, none⟩ = some (.string ⟨p.toArray⟩)) (hb : b < w.heap.size) :
    Calls Tryz.prog 144 (#[e.agg] ++ #[.pointer (some ⟨b, 0, none⟩)]) w (Says (!ownB p e) w) := by
  show Calls Tryz.prog 144 #[e.agg, .pointer (some ⟨b, 0, none⟩)] w (Says (!ownB p e) w)
  unfold Ev.agg
  have hc' : (w.alloc (evObj e)).cell? ⟨b, 0, none⟩ = some (.string ⟨p.toArray⟩) := (World.cell?_alloc_lt w (evObj e) _ hb).trans hc
  go_enter Tryz.func144, Tryz.ntmps144
  go_wp2_with fail
  refine (of_any _ p e hp).mono ?_
  rintro r w1 ⟨rfl, hb1⟩
  have hbw : Below w.heap.size w w1 := ((Below.refl _ _).alloc (Nat.le_refl _) (evObj e)).trans (hb1.mono (by simp))
  clear hc' hc hb1
  generalize ownB p e = x at *
  go_wp2
  go_ret
  exact ⟨rfl, hbw⟩

theorem call42 (args : Array Value) (w : World) : (callFunc 144 args).run Tryz.prog w = .ok (.enter 144 args) w := by kernel_rfl

theorem without_any (w : World) (p : List UInt8) (A : Option Addr) (n c : Nat) (es : List Ev) (h : Evs w w.heap.size A n c es) (hn : n ≤ 1000) (hp : p.length ≤ 1000000000) :
    Calls Tryz.prog 117 #[.string ⟨p.toArray⟩, .slice A n c] w (SievePost w es (fun e => !ownB p e)) := by
  have HH := Lib.hid h; clear h
  go_enter Tryz.func117, Tryz.ntmps117
  go_wp2_with fail
  refine (sieve_any _ A n c es (Cel.more (Cel.alloc HH.out (Nat.le_refl _) _) (by simp)) 144 #[.pointer (some ⟨w.heap.size, 0, none⟩)] (fun e => !ownB p e) hn call42 (fun w1 e _ hb => ?_)).mono ?_
  · refine without1_any w1 w.heap.size p e hp ?_ ?_
    · refine (hb.cell (p := ⟨w.heap.size, 0, none⟩) (by simp)).trans ?_
      rw [cell_of_row _ w.heap.size _ _ _ (0, 0) (heap_alloc_new w _)]; rfl
    · have := hb.size; simp at this; omega
  rintro r w1 ⟨v, rfl, hown, hb1⟩
  have hbw : Below w.heap.size w w1 := ((Below.refl _ _).alloc (Nat.le_refl _) (.cells #[.string ⟨p.toArray⟩] 9)).trans (hb1.mono (by simp))
  go_wp2
  go_ret
  refine ⟨v, rfl, ?_, hbw⟩
  refine ⟨hown.1, ?_⟩
  rcases hown.2 with ⟨e, hl⟩ | ⟨g, cap, cur, e, hb', hg, hr⟩
  · exact .inl ⟨e, hl⟩
  · exact .inr ⟨g, cap, cur, e, by simp at hb'; omega, hg, hr⟩
end Go.Proofs.YtejjfhhppjdcaaaGreatDoor
namespace Go.Proofs.YtejjfhhppjdcaaaGreatDoor
open Go.RowKit

/-- the parts that every event must have -/
def headB (e : Ev) : Bool := nameB e.src && decide (1 ≤ e.num) && decide (e.num ≤ 1099511627776) && decide (0 ≤ e.at_) && decide (e.at_ ≤ 1099511627776)
/-- an event that says that somebody is to be forgotten -/
def forgetB (e : Ev) : Bool := (e.kind == 14) && headB e && nameB e.per && e.item.isEmpty && (e.val == 0) && e.text.isEmpty

/-- no text is longer than this -/
def Ev.small (e : Ev) : Prop := e.src.length ≤ 1000000000 ∧ e.per.length ≤ 1000000000 ∧ e.item.length ≤ 1000000000 ∧ e.text.length ≤ 1000000000

set_option maxRecDepth 100000 in
set_option maxHeartbeats 2000000 in
theorem may_head (w : World) (e : Ev) (hs : e.small) (hh : headB e = false) :
    Calls Tryz.prog 67 #[e.agg] w (Says false w) := by
  obtain ⟨s1, s2, s3, s4⟩ := hs
  unfold Ev.agg
  have HH := Lib.hid (show (nameB e.src && decide (1 ≤ e.num) && decide (e.num ≤ 1099511627776) && decide (0 ≤ e.at_) && decide (e.at_ ≤ 1099511627776)) = false from hh)
  clear hh
  go_enter Tryz.func67, Tryz.ntmps67
  go_wp2_with fail
  refine (name_any _ e.src s1).mono ?_
  rintro r w1 ⟨rfl, rfl⟩
  have hb : Below w.heap.size w (w.alloc (evObj e)) := (Below.refl _ _).alloc (Nat.le_refl _) _
  generalize nameB e.src = ns at *
  cases ns
  · go_wp2
    go_ret
    exact ⟨rfl, hb⟩
  · by_cases h1 : e.num < 1
    · go_wp2
      go_ret
      exact ⟨rfl, hb⟩
    by_cases h2 : 1099511627776 < e.num
    · go_wp2
      go_ret
      exact ⟨rfl, hb⟩
    by_cases h3 : e.at_ < 0
    · go_wp2
      go_ret
      exact ⟨rfl, hb⟩
    have h4 : 1099511627776 < e.at_ := by
      have := HH.out
      simp at this
      omega
    go_wp2
    go_ret
    exact ⟨rfl, hb⟩

theorem nameq (w : World) (l : List UInt8) (hm : l.length ≤ 1000000000) : Calls Tryz.prog 61 #[.string ⟨l.toArray⟩] w fun e w' => e = .returned (.bool (nameB l)) ∧ w' = w :=
  (name_any w l hm).mono fun _ _ h => ⟨h.1, h.2.symm⟩

set_option maxRecDepth 100000 in
set_option maxHeartbeats 4000000 in
theorem may_forget (w : World) (e : Ev) (hs : e.small) (hh : headB e = true) (hk : e.kind = 14) :
    Calls Tryz.prog 67 #[e.agg] w (Says (nameB e.per && e.item.isEmpty && (e.val == 0) && e.text.isEmpty) w) := by
  obtain ⟨s1, s2, s3, s4⟩ := hs
  have hh' : (nameB e.src && decide (1 ≤ e.num) && decide (e.num ≤ 1099511627776) && decide (0 ≤ e.at_) && decide (e.at_ ≤ 1099511627776)) = true := hh
  simp only [Bool.and_eq_true, decide_eq_true_eq] at hh'
  obtain ⟨⟨⟨⟨hns, h1⟩, h2⟩, h3⟩, h4⟩ := hh'
  have HNS := Lib.hid hns; clear hns hh
  have d1 : decide (e.num < 1) = false := decide_eq_false (by omega)
  have d2 : decide (1099511627776 < e.num) = false := decide_eq_false (by omega)
  have d3 : decide (e.at_ < 0) = false := decide_eq_false (by omega)
  have d4 : decide (1099511627776 < e.at_) = false := decide_eq_false (by omega)
  have HK := Lib.hid hk; clear hk
  unfold Ev.agg
  go_enter Tryz.func67, Tryz.ntmps67
  go_wp2_with fail
  refine (name_any _ e.src s1).mono ?_
  rintro r w1 ⟨rfl, rfl⟩
  rw [HNS.out]
  have hb : Below w.heap.size w (w.alloc (evObj e)) := (Below.refl _ _).alloc (Nat.le_refl _) _
  obtain ⟨f0, f1, f2, f3, f4, f5, f6, f7⟩ := EvIn.new w e
  generalize w.alloc (evObj e) = w1 at *
  rw [HK.out] at f3
  go_wp2
  clear d1 d2 d3 d4
  go_quiet ((go_at_call 61; exact Calls.quiet_of_same (nameq _ _ (by assumption))))
  have hbq : Below w.heap.size w (w1.drewN nq) := below_drewN hb nq
  generalize nameB e.per = np at *
  generalize nameB e.item = ni at *
  cases np
  · go_wp2
    go_ret
    exact ⟨rfl, hbq⟩
  cases hi : e.item.isEmpty
  · go_wp2
    go_ret
    exact ⟨by rw [hi]; rfl, hbq⟩
  cases hv : (e.val == 0)
  · go_wp2
    go_ret
    exact ⟨by rw [hi, hv]; rfl, hbq⟩
  go_wp2
  go_ret
  exact ⟨by rw [hi, hv]; rfl, hbq⟩
end Go.Proofs.YtejjfhhppjdcaaaGreatDoor
