/-
  Layer 31: erase.outside, erase.Clean, erase.Gone, erase.Traces.
-/
import Derived.Test.YtnnkhgllfhpdpaaGreatDoorErPeople
import Derived.CallsIn
namespace Go.Proofs.YtnnkhgllfhpdpaaGreatDoor
open Go.RowKit Go.Maps Go.Sort

/-- an event of nobody who is gone -/
def outB (ks : List (List UInt8)) (e : Ev) : Bool := !decide (e.per ∈ ks) || !ownB e.per e

theorem outside1_any (w : World) (g b n : Nat) (ks : List (List UInt8)) (e : Ev) (hs : e.small) (hc : w.cell? ⟨g, 0, none⟩ = some (.map (some b))) (hset : SetB w b n ks) :
    Calls Tryz.prog 65 (#[e.agg] ++ #[.pointer (some ⟨g, 0, none⟩)]) w (Says (outB ks e) w) := by
  show Calls Tryz.prog 65 #[e.agg, .pointer (some ⟨g, 0, none⟩)] w (Says (outB ks e) w)
  obtain ⟨s1, s2, s3, s4⟩ := hs
  have hg : g < w.heap.size := World.block_lt_of_cell? w ⟨g, 0, none⟩ hc
  have hc' : (w.alloc (evObj e)).cell? ⟨g, 0, none⟩ = some (.map (some b)) := (World.cell?_alloc_lt w (evObj e) _ hg).trans hc
  have hl := (hset.alloc (evObj e)).look e.per (by unfold maxLen; omega)
  have hb : Below w.heap.size w (w.alloc (evObj e)) := (Below.refl _ _).alloc (Nat.le_refl _) _
  have HO := Lib.hid (show outB ks e = (!decide (e.per ∈ ks) || !ownB e.per e) from rfl)
  clear hset hc
  unfold Ev.agg
  generalize hd : decide (e.per ∈ ks) = d at *
  clear hd
  cases d
  · go_enter Tryz.func65, Tryz.ntmps65
    go_wp2
    go_ret
    exact ⟨by rw [HO.out]; rfl, hb⟩
  · go_enter Tryz.func65, Tryz.ntmps65
    go_wp2_with fail
    refine (of_any _ e.per e s2).mono ?_
    rintro r w1 ⟨rfl, hb1⟩
    have hbw : Below w.heap.size w w1 := hb.trans (hb1.mono hb.size)
    clear hl hc' hb1 hb
    generalize ownB e.per e = x at *
    go_wp2
    go_ret
    exact ⟨by rw [HO.out]; rfl, hbw⟩

theorem call67 (args : Array Value) (w : World) : (callFunc 65 args).run Tryz.prog w = .ok (.enter 65 args) w := by kernel_rfl

theorem outside_any (w : World) (m : Value) (hm : ∃ b, m = .map b) : Calls Tryz.prog 42 #[m] w fun e w' => e = .returned (.func (.func 65) #[] #[.pointer (some ⟨w.heap.size, 0, none⟩)]) ∧ w.alloc (.cells #[m] 54) = w' := by
  obtain ⟨b, rfl⟩ := hm
  go_enter Tryz.func42, Tryz.ntmps42
  go_wp2
  go_ret
  exact ⟨rfl, rfl⟩

theorem OwnE.base_le {w : World} {base base' : Nat} {v : Value} {es : List Ev} (h : OwnE w base v es) (hb : base' ≤ base) : OwnE w base' v es := by
  refine ⟨h.1, ?_⟩
  rcases h.2 with ⟨e, hl⟩ | ⟨g, cap, cur, e, hb', hg, hr⟩
  · exact .inl ⟨e, hl⟩
  · exact .inr ⟨g, cap, cur, e, by omega, hg, hr⟩

/-- what is left when the events of the gone are taken away -/
def cleanL (es : List Ev) : List Ev := es.filter (outB (goneL es))

theorem sieve_out (w : World) (g b m : Nat) (ks : List (List UInt8)) (A : Option Addr) (n c : Nat) (es : List Ev) (h : Evs w w.heap.size A n c es) (hn : n ≤ 1000) (hsm : ∀ e ∈ es, e.small)
    (hc : w.cell? ⟨g, 0, none⟩ = some (.map (some b))) (hset : SetB w b m ks) :
    Calls Tryz.prog 44 #[.slice A n c, .func (.func 65) #[] #[.pointer (some ⟨g, 0, none⟩)]] w (SievePost w es (outB ks)) :=
  sieve_any w A n c es h 65 #[.pointer (some ⟨g, 0, none⟩)] (outB ks) hn call67 (fun w1 e he hb =>
    outside1_any w1 g b m ks e (hsm e he) ((hb.cell (p := ⟨g, 0, none⟩) (World.block_lt_of_cell? w ⟨g, 0, none⟩ hc)).trans hc) (hset.below hb hset.lt))

set_option maxHeartbeats 1000000 in
theorem clean_any (w : World) (A : Option Addr) (n c : Nat) (es : List Ev) (h : Evs w w.heap.size A n c es) (hn : n ≤ 1000) (hsm : ∀ e ∈ es, e.small) :
    Calls Tryz.prog 22 #[.slice A n c] w (SievePost w es (outB (goneL es))) := by
  have HH := Lib.hid h; clear h
  have HSM := Lib.hid hsm; clear hsm
  go_enter Tryz.func22, Tryz.ntmps22
  go_wp2_with fail
  refine (people_any w A n c es HH.out hn HSM.out).mono ?_
  rintro r w1 ⟨b, m, rfl, hset, hb, hm, hbel⟩
  have HS := Lib.hid hset; clear hset
  go_wp2_with fail
  refine (outside_any w1 _ ⟨_, rfl⟩).mono ?_
  rintro r w2 ⟨rfl, rfl⟩
  go_wp2_with fail
  have hb2 : Below w.heap.size w (w1.alloc (.cells #[.map (some b)] 54)) := hbel.alloc hbel.size _
  refine (sieve_out _ w1.heap.size b m (goneL es) A n c es (Cel.more (Cel.below HH.out hb2) hb2.size) hn HSM.out ?_ (HS.out.alloc _)).mono ?_
  · rw [cell_of_row _ w1.heap.size _ _ _ (0, 0) (heap_alloc_new w1 _)]; rfl
  rintro r w3 ⟨v, rfl, hown, hb3⟩
  go_wp2
  go_ret
  exact ⟨v, rfl, hown.base_le hb2.size, hb2.trans (hb3.mono hb2.size)⟩

set_option maxHeartbeats 1000000 in
theorem traces_any (w : World) (p : List UInt8) (A : Option Addr) (n c : Nat) (es : List Ev) (h : Evs w w.heap.size A n c es) (hn : n ≤ 1000) (hp : p.length ≤ 1000000000) :
    Calls Tryz.prog 20 #[.string ⟨p.toArray⟩, .slice A n c] w fun e w' => e = .returned (.int .i64 ((es.length - (es.filter (fun e => !ownB p e)).length : Nat) : Int)) ∧ Below w.heap.size w w' := by
  have HH := Lib.hid h; clear h
  have hl := HH.out.len
  have HL := Lib.hid hl; clear hl
  go_enter Tryz.func20, Tryz.ntmps20
  go_wp2_with fail
  refine (without_any w p A n c es HH.out hn hp).mono ?_
  rintro r w1 ⟨v, rfl, hown, hb1⟩
  obtain ⟨A1, c1, hv⟩ := ownsRow_form hown
  subst hv
  have hle : (es.filter (fun e => !ownB p e)).length ≤ n := by have := List.length_filter_le (fun e => !ownB p e) es; rw [HL.out] at this; exact this
  clear hown
  go_wp2
  go_ret
  refine ⟨ret_int ?_, hb1⟩
  rw [HL.out]
  omega
end Go.Proofs.YtnnkhgllfhpdpaaGreatDoor
