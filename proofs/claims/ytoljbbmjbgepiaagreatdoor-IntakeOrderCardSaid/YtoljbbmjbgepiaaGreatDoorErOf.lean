/-
  Layer 31: erase.of, erase.Without, erase.Traces.
-/
import Derived.Test.YtoljbbmjbgepiaaGreatDoorErWalk
import Derived.Test.YtoljbbmjbgepiaaGreatDoorEvName
namespace Go.Proofs.YtoljbbmjbgepiaaGreatDoor
open Go.RowKit

/-- an event is one of a person's -/
def ownB (p : List UInt8) (e : Ev) : Bool := nameB p && (e.per == p) && (e.kind != 14)

theorem of_any (w : World) (p : List UInt8) (e : Ev) (hp : p.length ≤ 1000000000) :
    Calls Tryz.prog 101 #[.string ⟨p.toArray⟩, e.agg] w (Says (ownB p e) w) := by
  unfold Ev.agg
  have HO := Lib.hid (show ownB p e = (nameB p && (e.per == p) && (e.kind != 14)) from rfl)
  go_enter Tryz.func101, Tryz.ntmps101
  go_wp2_with fail
  refine (name_any _ p hp).mono ?_
  rintro r w1 ⟨rfl, rfl⟩
  have hb : Below w.heap.size w (w.alloc (evObj e)) := (Below.refl _ _).alloc (Nat.le_refl _) _
  cases h1 : nameB p
  · have HN := Lib.hid h1; clear h1
    go_wp2
    go_ret
    exact ⟨ret_bool (by rw [HO.out, HN.out]; rfl), hb⟩
  · have HN := Lib.hid h1; clear h1
    cases h2 : (e.per == p)
    · have HP := Lib.hid h2
      go_wp2
      go_ret
      exact ⟨ret_bool (by rw [HO.out, HN.out, HP.out]; rfl), hb⟩
    · have HP := Lib.hid h2
      go_wp2
      go_ret
      exact ⟨ret_bool (by rw [HO.out, HN.out, HP.out]; rfl), hb⟩

theorem without1_any (w : World) (b : Nat) (p : List UInt8) (e : Ev) (hp : p.length ≤ 1000000000) (hc : w.cell? ⟨b, 0, none⟩ = some (.string ⟨p.toArray⟩)) (hb : b < w.heap.size) :
    Calls Tryz.prog 122 (#[e.agg] ++ #[.pointer (some ⟨b, 0, none⟩)]) w (Says (!ownB p e) w) := by
  show Calls Tryz.prog 122 #[e.agg, .pointer (some ⟨b, 0, none⟩)] w (Says (!ownB p e) w)
  unfold Ev.agg
  have hc' : (w.alloc (evObj e)).cell? ⟨b, 0, none⟩ = some (.string ⟨p.toArray⟩) := (World.cell?_alloc_lt w (evObj e) _ hb).trans hc
  go_enter Tryz.func122, Tryz.ntmps122
  go_wp2_with fail
  refine (of_any _ p e hp).mono ?_
  rintro r w1 ⟨rfl, hb1⟩
  have hbw : Below w.heap.size w w1 := ((Below.refl _ _).alloc (Nat.le_refl _) (evObj e)).trans (hb1.mono (by simp))
  clear hc' hc hb1
  generalize ownB p e = x at *
  go_wp2
  go_ret
  exact ⟨rfl, hbw⟩

theorem call42 (args : Array Value) (w : World) : (callFunc 122 args).run Tryz.prog w = .ok (.enter 122 args) w := by kernel_rfl

theorem without_any (w : World) (p : List UInt8) (A : Option Addr) (n c : Nat) (es : List Ev) (h : Evs w w.heap.size A n c es) (hn : n ≤ 1000) (hp : p.length ≤ 1000000000) :
    Calls Tryz.prog 86 #[.string ⟨p.toArray⟩, .slice A n c] w (SievePost w es (fun e => !ownB p e)) := by
  have HH := Lib.hid h; clear h
  go_enter Tryz.func86, Tryz.ntmps86
  go_wp2_with fail
  refine (sieve_any _ A n c es (Cel.more (Cel.alloc HH.out (Nat.le_refl _) _) (by simp)) 122 #[.pointer (some ⟨w.heap.size, 0, none⟩)] (fun e => !ownB p e) hn call42 (fun w1 e _ hb => ?_)).mono ?_
  · refine without1_any w1 w.heap.size p e hp ?_ ?_
    · refine (hb.cell (p := ⟨w.heap.size, 0, none⟩) (by simp)).trans ?_
      rw [cell_of_row _ w.heap.size _ _ _ (0, 0) (heap_alloc_new w _)]; rfl
    · have := hb.size; simp at this; omega
  rintro r w1 ⟨v, rfl, hown, hb1⟩
  have hbw : Below w.heap.size w w1 := ((Below.refl _ _).alloc (Nat.le_refl _) (.cells #[.string ⟨p.toArray⟩] 9)).trans (hb1.mono (by simp))
  go_wp2
  go_ret
  refine ⟨v, rfl, ?_, hbw⟩
  refine ⟨hown.1, ?_⟩
  rcases hown.2 with ⟨e, hl⟩ | ⟨g, cap, cur, e, hb', hg, hr⟩
  · exact .inl ⟨e, hl⟩
  · exact .inr ⟨g, cap, cur, e, by simp at hb'; omega, hg, hr⟩
end Go.Proofs.YtoljbbmjbgepiaaGreatDoor
