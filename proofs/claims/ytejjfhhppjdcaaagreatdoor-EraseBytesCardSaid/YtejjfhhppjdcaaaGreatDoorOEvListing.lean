/-
  Layer 2: names.
  Layer 31: erase.of, erase.Without, erase.Traces.
  Layer 2: event.May at a Forgotten event.
  Layer 2: event.Tags.
  Layer 2: event.listing.
-/
import Derived.Test.YtejjfhhppjdcaaaGreatDoorOStepApp
import Derived.Test.YtejjfhhppjdcaaaGreatDoorORef02
import Derived.Test.YtejjfhhppjdcaaaGreatDoorShelf
import Derived.WalkLawsBesides
namespace Go.Proofs.YtejjfhhppjdcaaaGreatDoor
open Go.RowKit

def nameC (c : UInt8) : Bool := (decide (97 ≤ c.toNat) && decide (c.toNat ≤ 122)) || (decide (48 ≤ c.toNat) && decide (c.toNat ≤ 57)) || decide (c.toNat = 45)
def nameB (l : List UInt8) : Bool := decide (1 ≤ l.length) && decide (l.length ≤ 24) && l.all nameC

theorem nameB_short {l : List UInt8} (h : l.length < 1 ∨ 24 < l.length) : nameB l = false := by
  unfold nameB; rcases h with h | h <;> simp <;> omega
theorem nameB_bad {l : List UInt8} (k : Nat) (hk : k < l.length) (h : nameC l[k] = false) : nameB l = false := by
  unfold nameB
  have : l.all nameC = false := by
    rw [List.all_eq_false]
    exact ⟨l[k], List.getElem_mem hk, by simp [h]⟩
  simp [this]
theorem nameB_good {l : List UInt8} (h1 : 1 ≤ l.length) (h2 : l.length ≤ 24) (h : ∀ j (hj : j < l.length), nameC l[j] = true) : nameB l = true := by
  unfold nameB
  have : l.all nameC = true := by
    rw [List.all_eq_true]
    intro x hx
    obtain ⟨j, hj, rfl⟩ := List.getElem_of_mem hx
    exact h j hj
  simp [this, h1, h2]

set_option maxHeartbeats 1000000 in
theorem name_any (w : World) (l : List UInt8) (hm : l.length ≤ 1000000000) :
    Calls Tryz.prog 61 #[.string ⟨l.toArray⟩] w fun e w' => e = .returned (.bool (nameB l)) ∧ w = w' := by
  by_cases h0 : l.length < 1
  · go_enter Tryz.func61, Tryz.ntmps61
    go_wp2
    go_ret
    rw [nameB_short (.inl h0)]
    exact ⟨rfl, rfl⟩
  by_cases h24 : 24 < l.length
  · go_enter Tryz.func61, Tryz.ntmps61
    go_wp2
    go_ret
    rw [nameB_short (.inr h24)]
    exact ⟨rfl, rfl⟩
  have d0 : decide ((l.length : Int) < 1) = false := decide_eq_false (by omega)
  have d1 : decide (24 < (l.length : Int)) = false := decide_eq_false (by omega)
  go_enter Tryz.func61, Tryz.ntmps61
  go_wp2
  go_loop [15] (fun i => ∃ k : Nat, i = .int .i64 k ∧ k ≤ l.length ∧ Hid (∀ j (hj : j < l.length), j < k → nameC l[j] = true)) (fun i => l.length - (intOf i).toNat)
  case atStart => exact ⟨0, rfl, Nat.zero_le _, fun j _ h => by omega⟩
  case round =>
    obtain ⟨k, rfl, hk, HK⟩ := hrel
    by_cases hkn : k < l.length
    · have g0 : (⟨l.toArray⟩ : ByteArray)[k]'(by simpa [ByteArray.size] using hkn) = l[k] := rfl
      have HC := Lib.hid (show nameC l[k] = ((decide (97 ≤ l[k].toNat) && decide (l[k].toNat ≤ 122)) || (decide (48 ≤ l[k].toNat) && decide (l[k].toNat ≤ 57)) || decide (l[k].toNat = 45)) from rfl)
      have HB := Lib.hid (fun h => nameB_bad (l := l) k hkn h)
      have HN := Lib.hid (show ∀ h : nameC l[k] = true, ∀ j (hj : j < l.length), j < k + 1 → nameC l[j] = true from fun h j hj hlt => by
        by_cases e : j = k
        · subst e; exact h
        · exact HK.out j hj (by omega))
      have hx := l[k].toNat_lt
      generalize hc : nameC l[k] = cc at *
      clear hc
      generalize hxx : l[k] = x at *
      clear hxx
      have hcc : cc = true ∨ cc = false := by cases cc <;> simp
      rcases hcc with hcc | hcc
      · have HCC : Hid (((97 ≤ x.toNat ∧ x.toNat ≤ 122) ∨ (48 ≤ x.toNat ∧ x.toNat ≤ 57)) ∨ x.toNat = 45) := by
          have := HC.out; rw [hcc] at this; unfold Hid; simpa using this.symm
        have HN' := Lib.hid (HN.out hcc)
        clear hcc HC HB HN
        have e45 : Hid ((x.toNat : Int) = 45 ↔ x.toNat = 45) := by unfold Hid; omega
        rcases HCC.out with (⟨a1, a2⟩ | ⟨a1, a2⟩) | a1
        · have b1 : decide (97 ≤ (x.toNat : Int)) = true := decide_eq_true (by omega)
          have b2 : decide ((x.toNat : Int) ≤ 122) = true := decide_eq_true (by omega)
          go_wp2
          go_round
          case rel => exact ⟨k + 1, by go_num, by omega, HN'.out⟩
          case measure => simp [intOf]; omega
        · have b1 : decide (97 ≤ (x.toNat : Int)) = false := decide_eq_false (by omega)
          have b2 : decide (48 ≤ (x.toNat : Int)) = true := decide_eq_true (by omega)
          have b3 : decide ((x.toNat : Int) ≤ 57) = true := decide_eq_true (by omega)
          go_wp2
          go_round
          case rel => exact ⟨k + 1, by go_num, by omega, HN'.out⟩
          case measure => simp [intOf]; omega
        · have b1 : decide (97 ≤ (x.toNat : Int)) = false := decide_eq_false (by omega)
          have b2 : decide (48 ≤ (x.toNat : Int)) = false := decide_eq_false (by omega)
          have b3 : ((x.toNat : Int) == 45) = true := by simp; omega
          have A1 := Lib.hid a1; clear a1
          go_wp2
          go_round
          case rel => exact ⟨k + 1, by go_num, by omega, HN'.out⟩
          case measure => simp [intOf]; omega
      · have HCC : Hid (¬ (((97 ≤ x.toNat ∧ x.toNat ≤ 122) ∨ (48 ≤ x.toNat ∧ x.toNat ≤ 57)) ∨ x.toNat = 45)) := by
          have := HC.out; rw [hcc] at this; unfold Hid; intro hh
          have h2 : (decide (97 ≤ x.toNat) && decide (x.toNat ≤ 122) || decide (48 ≤ x.toNat) && decide (x.toNat ≤ 57) || decide (x.toNat = 45)) = true := by simpa using hh
          rw [h2] at this; cases this
        have hB := HB.out hcc
        have HB' := Lib.hid hB
        clear hcc HC HN HB hB
        have b5 : ((x.toNat : Int) == 45) = false := by have := HCC.out; simp; omega
        have hcases : (123 ≤ x.toNat) ∨ (97 > x.toNat ∧ 58 ≤ x.toNat) ∨ (x.toNat < 48) := by have := HCC.out; omega
        rcases hcases with a1 | ⟨a1, a2⟩ | a1
        · have b1 : decide (97 ≤ (x.toNat : Int)) = true := decide_eq_true (by omega)
          have b2 : decide ((x.toNat : Int) ≤ 122) = false := decide_eq_false (by omega)
          have b3 : decide (48 ≤ (x.toNat : Int)) = true := decide_eq_true (by omega)
          have b4 : decide ((x.toNat : Int) ≤ 57) = false := decide_eq_false (by omega)
          go_wp2
          go_ret
          rw [HB'.out]
          exact ⟨rfl, rfl⟩
        · have b1 : decide (97 ≤ (x.toNat : Int)) = false := decide_eq_false (by omega)
          have b3 : decide (48 ≤ (x.toNat : Int)) = true := decide_eq_true (by omega)
          have b4 : decide ((x.toNat : Int) ≤ 57) = false := decide_eq_false (by omega)
          go_wp2
          go_ret
          rw [HB'.out]
          exact ⟨rfl, rfl⟩
        · have b1 : decide (97 ≤ (x.toNat : Int)) = false := decide_eq_false (by omega)
          have b3 : decide (48 ≤ (x.toNat : Int)) = false := decide_eq_false (by omega)
          go_wp2
          go_ret
          rw [HB'.out]
          exact ⟨rfl, rfl⟩
    · have hB : nameB l = true := nameB_good (by omega) (by omega) (fun j hj => HK.out j hj (by omega))
      have HB' := Lib.hid hB; clear hB
      go_wp2
      go_ret
      rw [HB'.out]
      exact ⟨rfl, rfl⟩
end Go.Proofs.YtejjfhhppjdcaaaGreatDoor
namespace Go.Proofs.YtejjfhhppjdcaaaGreatDoor
open Go.RowKit

/-- an event is one of a person's -/
def ownB (p : List UInt8) (e : Ev) : Bool := nameB p && (e.per == p) && (e.kind != 14)

theorem of_any (w : World) (p : List UInt8) (e : Ev) (hp : p.length ≤ 1000000000) :
    Calls Tryz.prog 119 #[.string ⟨p.toArray⟩, e.agg] w (Says (ownB p e) w) := by
  unfold Ev.agg
  have HO := Lib.hid (show ownB p e = (nameB p && (e.per == p) && (e.kind != 14)) from rfl)
  go_enter Tryz.func119, Tryz.ntmps119
  go_wp2_with fail
  refine (name_any _ p hp).mono ?_
  rintro r w1 ⟨rfl, rfl⟩
  have hb : Below w.heap.size w (w.alloc (evObj e)) := (Below.refl _ _).alloc (Nat.le_refl _) _
  cases h1 : nameB p
  · have HN := Lib.hid h1; clear h1
    go_wp2
    go_ret
    exact ⟨ret_bool (by rw [HO.out, HN.out]; rfl), hb⟩
  · have HN := Lib.hid h1; clear h1
    cases h2 : (e.per == p)
    · have HP := Lib.hid h2
      go_wp2
      go_ret
      exact ⟨ret_bool (by rw [HO.out, HN.out, HP.out]; rfl), hb⟩
    · have HP := Lib.hid h2
      go_wp2
      go_ret
      exact ⟨ret_bool (by rw [HO.out, HN.out, HP.out]; rfl), hb⟩

theorem without1_any (w : World) (b : Nat) (p : List UInt8) (e : Ev) (hp : p.length ≤ 1000000000) (hc : w.cell? ⟨b, 0, none⟩ = some (.string ⟨p.toArray⟩)) (hb : b < w.heap.size) :
    Calls Tryz.prog 144 (#[e.agg] ++ #[.pointer (some ⟨b, 0, none⟩)]) w (Says (!ownB p e) w) := by
  show Calls Tryz.prog 144 #[e.agg, .pointer (some ⟨b, 0, none⟩)] w (Says (!ownB p e) w)
  unfold Ev.agg
  have hc' : (w.alloc (evObj e)).cell? ⟨b, 0, none⟩ = some (.string ⟨p.toArray⟩) := (World.cell?_alloc_lt w (evObj e) _ hb).trans hc
  go_enter Tryz.func144, Tryz.ntmps144
  go_wp2_with fail
  refine (of_any _ p e hp).mono ?_
  rintro r w1 ⟨rfl, hb1⟩
  have hbw : Below w.heap.size w w1 := ((Below.refl _ _).alloc (Nat.le_refl _) (evObj e)).trans (hb1.mono (by simp))
  clear hc' hc hb1
  generalize ownB p e = x at *
  go_wp2
  go_ret
  exact ⟨rfl, hbw⟩

theorem call42 (args : Array Value) (w : World) : (callFunc 144 args).run Tryz.prog w = .ok (.enter 144 args) w := by kernel_rfl

theorem without_any (w : World) (p : List UInt8) (A : Option Addr) (n c : Nat) (es : List Ev) (h : Evs w w.heap.size A n c es) (hn : n ≤ 1000) (hp : p.length ≤ 1000000000) :
    Calls Tryz.prog 117 #[.string ⟨p.toArray⟩, .slice A n c] w (SievePost w es (fun e => !ownB p e)) := by
  have HH := Lib.hid h; clear h
  go_enter Tryz.func117, Tryz.ntmps117
  go_wp2_with fail
  refine (sieve_any _ A n c es (Cel.more (Cel.alloc HH.out (Nat.le_refl _) _) (by simp)) 144 #[.pointer (some ⟨w.heap.size, 0, none⟩)] (fun e => !ownB p e) hn call42 (fun w1 e _ hb => ?_)).mono ?_
  · refine without1_any w1 w.heap.size p e hp ?_ ?_
    · refine (hb.cell (p := ⟨w.heap.size, 0, none⟩) (by simp)).trans ?_
      rw [cell_of_row _ w.heap.size _ _ _ (0, 0) (heap_alloc_new w _)]; rfl
    · have := hb.size; simp at this; omega
  rintro r w1 ⟨v, rfl, hown, hb1⟩
  have hbw : Below w.heap.size w w1 := ((Below.refl _ _).alloc (Nat.le_refl _) (.cells #[.string ⟨p.toArray⟩] 9)).trans (hb1.mono (by simp))
  go_wp2
  go_ret
  refine ⟨v, rfl, ?_, hbw⟩
  refine ⟨hown.1, ?_⟩
  rcases hown.2 with ⟨e, hl⟩ | ⟨g, cap, cur, e, hb', hg, hr⟩
  · exact .inl ⟨e, hl⟩
  · exact .inr ⟨g, cap, cur, e, by simp at hb'; omega, hg, hr⟩
end Go.Proofs.YtejjfhhppjdcaaaGreatDoor
namespace Go.Proofs.YtejjfhhppjdcaaaGreatDoor
open Go.RowKit

/-- the parts that every event must have -/
def headB (e : Ev) : Bool := nameB e.src && decide (1 ≤ e.num) && decide (e.num ≤ 1099511627776) && decide (0 ≤ e.at_) && decide (e.at_ ≤ 1099511627776)
/-- an event that says that somebody is to be forgotten -/
def forgetB (e : Ev) : Bool := (e.kind == 14) && headB e && nameB e.per && e.item.isEmpty && (e.val == 0) && e.text.isEmpty

/-- no text is longer than this -/
def Ev.small (e : Ev) : Prop := e.src.length ≤ 1000000000 ∧ e.per.length ≤ 1000000000 ∧ e.item.length ≤ 1000000000 ∧ e.text.length ≤ 1000000000

set_option maxRecDepth 100000 in
set_option maxHeartbeats 2000000 in
theorem may_head (w : World) (e : Ev) (hs : e.small) (hh : headB e = false) :
    Calls Tryz.prog 67 #[e.agg] w (Says false w) := by
  obtain ⟨s1, s2, s3, s4⟩ := hs
  unfold Ev.agg
  have HH := Lib.hid (show (nameB e.src && decide (1 ≤ e.num) && decide (e.num ≤ 1099511627776) && decide (0 ≤ e.at_) && decide (e.at_ ≤ 1099511627776)) = false from hh)
  clear hh
  go_enter Tryz.func67, Tryz.ntmps67
  go_wp2_with fail
  refine (name_any _ e.src s1).mono ?_
  rintro r w1 ⟨rfl, rfl⟩
  have hb : Below w.heap.size w (w.alloc (evObj e)) := (Below.refl _ _).alloc (Nat.le_refl _) _
  generalize nameB e.src = ns at *
  cases ns
  · go_wp2
    go_ret
    exact ⟨rfl, hb⟩
  · by_cases h1 : e.num < 1
    · go_wp2
      go_ret
      exact ⟨rfl, hb⟩
    by_cases h2 : 1099511627776 < e.num
    · go_wp2
      go_ret
      exact ⟨rfl, hb⟩
    by_cases h3 : e.at_ < 0
    · go_wp2
      go_ret
      exact ⟨rfl, hb⟩
    have h4 : 1099511627776 < e.at_ := by
      have := HH.out
      simp at this
      omega
    go_wp2
    go_ret
    exact ⟨rfl, hb⟩

theorem nameq (w : World) (l : List UInt8) (hm : l.length ≤ 1000000000) : Calls Tryz.prog 61 #[.string ⟨l.toArray⟩] w fun e w' => e = .returned (.bool (nameB l)) ∧ w' = w :=
  (name_any w l hm).mono fun _ _ h => ⟨h.1, h.2.symm⟩

set_option maxRecDepth 100000 in
set_option maxHeartbeats 4000000 in
theorem may_forget (w : World) (e : Ev) (hs : e.small) (hh : headB e = true) (hk : e.kind = 14) :
    Calls Tryz.prog 67 #[e.agg] w (Says (nameB e.per && e.item.isEmpty && (e.val == 0) && e.text.isEmpty) w) := by
  obtain ⟨s1, s2, s3, s4⟩ := hs
  have hh' : (nameB e.src && decide (1 ≤ e.num) && decide (e.num ≤ 1099511627776) && decide (0 ≤ e.at_) && decide (e.at_ ≤ 1099511627776)) = true := hh
  simp only [Bool.and_eq_true, decide_eq_true_eq] at hh'
  obtain ⟨⟨⟨⟨hns, h1⟩, h2⟩, h3⟩, h4⟩ := hh'
  have HNS := Lib.hid hns; clear hns hh
  have d1 : decide (e.num < 1) = false := decide_eq_false (by omega)
  have d2 : decide (1099511627776 < e.num) = false := decide_eq_false (by omega)
  have d3 : decide (e.at_ < 0) = false := decide_eq_false (by omega)
  have d4 : decide (1099511627776 < e.at_) = false := decide_eq_false (by omega)
  have HK := Lib.hid hk; clear hk
  unfold Ev.agg
  go_enter Tryz.func67, Tryz.ntmps67
  go_wp2_with fail
  refine (name_any _ e.src s1).mono ?_
  rintro r w1 ⟨rfl, rfl⟩
  rw [HNS.out]
  have hb : Below w.heap.size w (w.alloc (evObj e)) := (Below.refl _ _).alloc (Nat.le_refl _) _
  obtain ⟨f0, f1, f2, f3, f4, f5, f6, f7⟩ := EvIn.new w e
  generalize w.alloc (evObj e) = w1 at *
  rw [HK.out] at f3
  go_wp2
  clear d1 d2 d3 d4
  go_quiet ((go_at_call 61; exact Calls.quiet_of_same (nameq _ _ (by assumption))))
  have hbq : Below w.heap.size w (w1.drewN nq) := below_drewN hb nq
  generalize nameB e.per = np at *
  generalize nameB e.item = ni at *
  cases np
  · go_wp2
    go_ret
    exact ⟨rfl, hbq⟩
  cases hi : e.item.isEmpty
  · go_wp2
    go_ret
    exact ⟨by rw [hi]; rfl, hbq⟩
  cases hv : (e.val == 0)
  · go_wp2
    go_ret
    exact ⟨by rw [hi, hv]; rfl, hbq⟩
  go_wp2
  go_ret
  exact ⟨by rw [hi, hv]; rfl, hbq⟩
end Go.Proofs.YtejjfhhppjdcaaaGreatDoor
namespace Go.Proofs.YtejjfhhppjdcaaaGreatDoor
open Go.RowKit Go.Maps Go.Sort

/-- the variable of internal/bytealg that strings.Index looks at holds a number -/
def MaxAt (w : World) : Prop := ∃ m, w.cell? ⟨1, 0, none⟩ = some (.int .i64 m)
theorem MaxAt.lt {w : World} (h : MaxAt w) : 1 < w.heap.size := by
  obtain ⟨m, h⟩ := h; exact World.block_lt_of_cell? w ⟨1, 0, none⟩ h
theorem MaxAt.below {w w' : World} {B : Nat} (h : MaxAt w) (hb : Below B w w') (hB : 1 < B) : MaxAt w' := by
  obtain ⟨m, h⟩ := h; exact ⟨m, (hb.cell (p := ⟨1, 0, none⟩) hB).trans h⟩
theorem MaxAt.up {w w' : World} (h : MaxAt w) (hb : Below w.heap.size w w') : MaxAt w' := h.below hb h.lt

def restL (s : List UInt8) : List UInt8 := (Lib.cut s [59]).2.1
def tagsL (s : List UInt8) : List (List UInt8) :=
  if (restL s).isEmpty then [] else (Lib.splitB ⟨#[44]⟩ 0 (Lib.countB ⟨(restL s).toArray⟩ ⟨#[44]⟩) ⟨(restL s).toArray⟩).map (fun b => b.data.toList)

theorem restL_length (s : List UInt8) : (restL s).length ≤ s.length := by
  unfold restL Lib.cut; split
  · simp
  · simp

theorem str_of (b : ByteArray) : (⟨b.data.toList.toArray⟩ : ByteArray) = b := by cases b; simp

theorem tags_any (w : World) (s : List UInt8) (hs : s.length ≤ 1000000000) (hm : MaxAt w) :
    Calls Tryz.prog 132 #[.string ⟨s.toArray⟩] w fun e w' => ∃ A c, e = .returned (.slice A (tagsL s).length c) ∧ Strs w' w'.heap.size A (tagsL s).length c (tagsL s) ∧ Below w.heap.size w w' := by
  obtain ⟨m, hmc⟩ := hm
  have HM := Lib.hid hmc; clear hmc
  have HR := Lib.hid (show (Lib.cut s [59]).2.1 = restL s from rfl)
  have hrl := restL_length s
  have HT := Lib.hid (show tagsL s = if (restL s).isEmpty then [] else (Lib.splitB ⟨#[44]⟩ 0 (Lib.countB ⟨(restL s).toArray⟩ ⟨#[44]⟩) ⟨(restL s).toArray⟩).map (fun b => b.data.toList) from rfl)
  go_enter Tryz.func132, Tryz.ntmps132
  go_wp2_with fail
  refine (Tryz.strings_Cut ⟨s.toArray⟩ ⟨#[59]⟩ m w (by simp [ByteArray.size]; omega) HM.out).mono ?_
  rintro q w1 ⟨rfl, n1, rfl⟩
  simp only
  rw [HR.out]
  generalize restL s = rest at *
  generalize (Lib.cut s [59]).1 = mk at *
  generalize (Lib.cut s [59]).2.2 = ok at *
  cases he : rest.isEmpty
  · go_wp2_with fail
    refine (Tryz.strings_Split ⟨rest.toArray⟩ ⟨#[44]⟩ m (w.drewN n1) (by simp [ByteArray.size]; omega) HM.out (by simp [ByteArray.size])).mono ?_
    rintro q w2 ⟨rfl, rfl⟩
    have hT := HT.out
    rw [he] at hT
    simp only [Bool.false_eq_true, if_false] at hT
    have hl : (tagsL s).length = Lib.countB ⟨rest.toArray⟩ ⟨#[44]⟩ + 1 := by
      rw [hT, List.length_map]
      exact (Lib.splitB_all ⟨#[44]⟩ (by simp [ByteArray.size]) 0 _ ⟨rest.toArray⟩ rfl)
    have hE : (Lib.splitB ⟨#[44]⟩ 0 (Lib.countB ⟨rest.toArray⟩ ⟨#[44]⟩) ⟨rest.toArray⟩).map Value.string = (tagsL s).map encStr := by
      rw [hT, List.map_map]
      refine List.map_congr_left fun b _ => ?_
      show Value.string b = .string ⟨b.data.toList.toArray⟩
      rw [str_of]
    have HL := Lib.hid hl; have HE := Lib.hid hE; clear hl hE hT
    have hcb : Lib.countB ⟨rest.toArray⟩ ⟨#[44]⟩ ≤ 1000000000 := by
      have := Lib.countB_le ⟨#[44]⟩ (by simp [ByteArray.size]) _ ⟨rest.toArray⟩ (Nat.le_refl _)
      simp [ByteArray.size] at this
      omega
    go_wp2
    go_ret
    refine ⟨some ⟨w.heap.size, 0, none⟩, Lib.countB ⟨rest.toArray⟩ ⟨#[44]⟩ + 1, by rw [HL.out]; rfl, ?_, ((below_drewN (Below.refl _ _) n1).alloc (by simp) _)⟩
    rw [HE.out, ← HL.out]
    have h := Cel.new (w.drewN n1) ((tagsL s).map encStr).toArray 9 (n := (tagsL s).length) (size := 1) (by rw [HL.out]; unfold maxLen; omega) (by simp)
    unfold Strs
    simpa using h
  · have hT := HT.out
    rw [he] at hT
    simp only [if_true] at hT
    have HTE := Lib.hid hT; clear hT
    go_wp2
    go_ret
    exact ⟨none, 0, by rw [HTE.out]; rfl, by rw [HTE.out]; exact Cel.nil _ _ _ _ _ (by unfold maxLen; omega), below_drewN (Below.refl _ _) n1⟩
end Go.Proofs.YtejjfhhppjdcaaaGreatDoor
namespace Go.Proofs.YtejjfhhppjdcaaaGreatDoor
open Go.RowKit Go.Maps Go.Sort

def tagB (ts : List (List UInt8)) (j : Nat) : Bool := nameB (ts.getD j []) && (j == 0 || Op.bytesLess (ts.getD (j - 1) []) (ts.getD j []))
def tagsB (ts : List (List UInt8)) : Bool := (List.range ts.length).all (tagB ts)
/-- a text that a listing may have -/
def listingB (s : List UInt8) : Bool := (Lib.cut s [59]).2.2 && nameB (Lib.cut s [59]).1 && decide ((tagsL s).length ≤ 8) && tagsB (tagsL s)

theorem cut1_length (s : List UInt8) : (Lib.cut s [59]).1.length ≤ s.length := by
  unfold Lib.cut; split
  · simp; omega
  · simp

theorem name_all (w : World) (l : List UInt8) : Calls Tryz.prog 61 #[.string ⟨l.toArray⟩] w fun e w' => e = .returned (.bool (nameB l)) ∧ w = w' := by
  by_cases h : l.length ≤ 1000000000
  · exact name_any w l h
  · have h24 : 24 < l.length := by omega
    have h0 : ¬ l.length < 1 := by omega
    go_enter Tryz.func61, Tryz.ntmps61
    go_wp2
    go_ret
    rw [nameB_short (.inr h24)]
    exact ⟨rfl, rfl⟩
theorem bl_of (a b : List UInt8) : Op.bytesLess (⟨a.toArray⟩ : ByteArray).toList (⟨b.toArray⟩ : ByteArray).toList = Op.bytesLess a b := by rw [Lib.toList_data, Lib.toList_data]
def ListRel (ts : List (List UInt8)) (w2 : World) (i : Value) (wr : World) : Prop := ∃ k : Nat, i = .int .i64 k ∧ k ≤ ts.length ∧ wr = w2 ∧ Hid (∀ j, j < k → tagB ts j = true)

set_option maxRecDepth 100000 in
set_option maxHeartbeats 2000000 in
theorem listing_any (w : World) (s : List UInt8) (hs : s.length ≤ 1000000000) (hm : MaxAt w) :
    Calls Tryz.prog 102 #[.string ⟨s.toArray⟩] w (Says (listingB s) w) := by
  have HMA := Lib.hid hm
  obtain ⟨m, hmc⟩ := hm
  have HM := Lib.hid hmc; clear hmc
  have HLB := Lib.hid (show listingB s = ((Lib.cut s [59]).2.2 && nameB (Lib.cut s [59]).1 && decide ((tagsL s).length ≤ 8) && tagsB (tagsL s)) from rfl)
  have hcl := cut1_length s
  go_enter Tryz.func102, Tryz.ntmps102
  go_wp2_with fail
  refine (Tryz.strings_Cut ⟨s.toArray⟩ ⟨#[59]⟩ m w (by simp [ByteArray.size]; omega) HM.out).mono ?_
  rintro q w1 ⟨rfl, n1, rfl⟩
  simp only
  have hb1 : Below w.heap.size w (w.drewN n1) := below_drewN (Below.refl _ _) n1
  generalize (Lib.cut s [59]).1 = mk at *
  generalize (Lib.cut s [59]).2.1 = rs at *
  generalize (Lib.cut s [59]).2.2 = ok at *
  have HM1 := Lib.hid (HMA.out.up hb1)
  generalize w.drewN n1 = w1 at *
  cases ok
  · go_wp2
    go_ret
    exact ⟨ret_bool (by rw [HLB.out]; rfl), hb1⟩
  go_wp2_with fail
  refine (name_any w1 mk (by omega)).mono ?_
  rintro q w2 ⟨rfl, rfl⟩
  generalize nameB mk = nm at *
  cases nm
  · go_wp2
    go_ret
    exact ⟨ret_bool (by rw [HLB.out]; rfl), hb1⟩
  go_wp2_with fail
  refine (tags_any w1 s hs HM1.out).mono ?_
  rintro q w2 ⟨A, c, rfl, hst, hb2⟩
  have hbw2 : Below w.heap.size w w2 := hb1.trans (hb2.mono hb1.size)
  have HS := Lib.hid hst; clear hst
  generalize tagsL s = ts at *
  by_cases h8 : 8 < ts.length
  · have t8 : (8 : Int) < ts.length := by omega
    have HF := Lib.hid (show listingB s = false by rw [HLB.out, decide_eq_false (show ¬ ts.length ≤ 8 by omega)]; simp)
    go_wp2
    go_ret
    exact ⟨ret_bool HF.out.symm, hbw2⟩
  have HG := Lib.hid (show listingB s = tagsB ts by rw [HLB.out, decide_eq_true (show ts.length ≤ 8 by omega)]; simp)
  clear HLB
  go_wp2
  go_loopw [29] (fun i wr => ListRel ts w2 i wr) (fun i _ => ts.length - (intOf i).toNat)
  case atStart => exact ⟨0, rfl, Nat.zero_le _, rfl, fun j h => by omega⟩
  case round =>
    obtain ⟨k, rfl, hk, rfl, HK⟩ := hrel
    by_cases hkn : k < ts.length
    · obtain ⟨b, off, rfl, hb, hc⟩ := HS.out.at_ k hkn
      have HB := Lib.hid (show tagB ts k = (nameB ts[k] && (k == 0 || Op.bytesLess (ts.getD (k - 1) []) ts[k])) by unfold tagB; simp [List.getD, List.getElem?_eq_getElem hkn])
      have HNO := Lib.hid (show tagB ts k = false → tagsB ts = false from fun h => by
        unfold tagsB; rw [List.all_eq_false]; exact ⟨k, by simpa using hkn, by simp [h]⟩)
      have HYES := Lib.hid (show tagB ts k = true → ∀ j, j < k + 1 → tagB ts j = true from fun h j hj => by
        by_cases e : j = k
        · subst e; exact h
        · exact HK.out j (by omega))
      have hts : ts.length ≤ 8 := by omega
      have HC1 := Lib.hid (show 0 < k → wr.cell? ⟨b, off + (k - 1), none⟩ = some (.string ⟨(ts.getD (k - 1) []).toArray⟩) from fun h0 => by
        obtain ⟨b', off', e', _, hc'⟩ := HS.out.at_ (k - 1) (by omega)
        injection e' with e'; injection e' with e1 e2
        subst e1 e2
        rw [hc']; simp [List.getD, List.getElem?_eq_getElem (show k - 1 < ts.length by omega)])
      generalize ts.getD (k - 1) [] = q at *
      have t1 : (k : Int) < ts.length := by omega
      generalize ts[k] = t at *
      go_wp2_with fail
      refine (name_all wr t).mono ?_
      rintro e w3 ⟨rfl, rfl⟩
      generalize nameB t = nt at *
      cases nt
      · have HF := Lib.hid (HNO.out (by rw [HB.out]; rfl))
        go_wp2
        go_ret
        exact ⟨ret_bool (by rw [HG.out, HF.out]), hbw2⟩
      by_cases k0 : k = 0
      · subst k0
        have HY := Lib.hid (HYES.out (by rw [HB.out]; rfl))
        go_wp2
        go_roundw
        case rel => exact ⟨1, by go_num, by omega, rfl, HY.out⟩
        case measure => simp [intOf]; omega
      · have hc1 := HC1.out (by omega)
        have k1 : (0 : Int) < k := by omega
        have ek : (k : Int) - 1 = ((k - 1 : Nat) : Int) := by omega
        have HBL := Lib.hid (show tagB ts k = Op.bytesLess q t by rw [HB.out]; simp [k0])
        cases hbl : Op.bytesLess q t
        · have HF := Lib.hid (HNO.out (HBL.out.trans hbl))
          go_wp2
          go_ret
          exact ⟨ret_bool (by rw [HG.out, HF.out]), hbw2⟩
        · have HY := Lib.hid (HYES.out (HBL.out.trans hbl))
          go_wp2
          go_roundw
          case rel => exact ⟨k + 1, by go_num, by omega, rfl, HY.out⟩
          case measure => simp [intOf]; omega
    · have HT := Lib.hid (show tagsB ts = true by
        unfold tagsB; rw [List.all_eq_true]; intro j hj; exact HK.out j (by have : j < ts.length := by simpa using hj
                                                                            omega))
      go_wp2
      go_ret
      exact ⟨ret_bool (by rw [HG.out, HT.out]), hbw2⟩
end Go.Proofs.YtejjfhhppjdcaaaGreatDoor
