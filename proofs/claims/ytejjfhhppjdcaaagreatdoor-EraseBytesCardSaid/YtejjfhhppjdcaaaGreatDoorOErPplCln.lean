/-
  Layer 31: erase.people, erase.outside, erase.Clean, erase.Gone.
  Layer 31: erase.outside, erase.Clean, erase.Gone, erase.Traces.
-/
import Derived.Test.YtejjfhhppjdcaaaGreatDoorOEvListing
import Derived.Test.YtejjfhhppjdcaaaGreatDoorORef02
import Derived.CallsIn
namespace Go.Proofs.YtejjfhhppjdcaaaGreatDoor
open Go.RowKit Go.Maps

theorem SetB.congr {w : World} {b n : Nat} {ks ks' : List (List UInt8)} (h : SetB w b n ks) (hk : ∀ x, x ∈ ks ↔ x ∈ ks') : SetB w b n ks' := by
  obtain ⟨D, h1, h2, h3⟩ := h
  refine ⟨D, h1, h2, fun k => ?_⟩
  have : decide (k ∈ ks') = decide (k ∈ ks) := by simp [hk]
  rw [this]
  exact h3 k

/-- the people who are gone among events -/
def goneL (es : List Ev) : List (List UInt8) := (es.filter forgetB).map Ev.per

def PeoplePost (w : World) (es : List Ev) (e : Ending) (w' : World) : Prop :=
  ∃ b n, e = .returned (.map (some b)) ∧ SetB w' b n (goneL es) ∧ w.heap.size ≤ b ∧ n ≤ es.length ∧ Below w.heap.size w w'

def PeopleRel (w : World) (n : Nat) (es : List Ev) (i : Value) (wr : World) : Prop :=
  ∃ k m : Nat, i = .int .i64 k ∧ k ≤ n ∧ m ≤ k ∧ SetB wr w.heap.size m (goneL (es.take k)) ∧ Below w.heap.size w wr

theorem goneL_take (es : List Ev) (k : Nat) (hk : k < es.length) : goneL (es.take (k + 1)) = goneL (es.take k) ++ (if forgetB es[k] then [es[k].per] else []) := by
  unfold goneL
  rw [List.take_add_one, List.getElem?_eq_getElem hk, Option.toList_some, List.filter_append, List.map_append]
  by_cases h : forgetB es[k] <;> simp [h]

theorem may14 (w : World) (e : Ev) (hs : e.small) (hk : e.kind = 14) : Calls Tryz.prog 67 #[e.agg] w (Says (forgetB e) w) := by
  cases hh : headB e
  · have : forgetB e = false := by simp [forgetB, hh]
    rw [this]
    exact may_head w e hs hh
  · have : forgetB e = (nameB e.per && e.item.isEmpty && (e.val == 0) && e.text.isEmpty) := by simp [forgetB, hh, hk]
    rw [this]
    exact may_forget w e hs hh hk

set_option maxRecDepth 100000 in
set_option maxHeartbeats 2000000 in
theorem people_any (w : World) (A : Option Addr) (n c : Nat) (es : List Ev) (h : Evs w w.heap.size A n c es) (hn : n ≤ 1000) (hsm : ∀ e ∈ es, e.small) :
    Calls Tryz.prog 89 #[.slice A n c] w (PeoplePost w es) := by
  have HH := Lib.hid h; clear h
  have HSM := Lib.hid hsm; clear hsm
  have hmm := @run_makeMap Tryz.prog
  go_enter Tryz.func89, Tryz.ntmps89
  go_wp2
  go_loopw [9] (fun i wr => PeopleRel w n es i wr) (fun i _ => n - (intOf i).toNat)
  case atStart => exact ⟨0, 0, rfl, Nat.zero_le _, Nat.le_refl _, SetB.made w, (Below.refl _ _).alloc (Nat.le_refl _) _⟩
  case round =>
    obtain ⟨k, m, rfl, hk, hm, hset, hbel⟩ := hrel
    have HS := Lib.hid hset; clear hset
    have hslt := HS.out.lt
    by_cases hkn : k < n
    · have hkl : k < es.length := by rw [HH.out.len]; exact hkn
      obtain ⟨b, off, rfl, hb, hev⟩ := HH.out.ev k hkl
      obtain ⟨e0, e1, e2, e3, e4, e5, e6, e7⟩ := hev.below hbel hb
      have HTK := Lib.hid (goneL_take es k hkl)
      have HX := Lib.hid (HSM.out es[k] (List.getElem_mem hkl))
      generalize es[k] = x at *
      have t1 : (k : Int) < n := by omega
      clear hmm hev
      cases hk14 : (x.kind == 14)
      · have hf : forgetB x = false := by simp [forgetB, hk14]
        have HT : Hid (goneL (es.take (k + 1)) = goneL (es.take k)) := by have := HTK.out; rw [hf] at this; unfold Hid; simpa using this
        clear hf HTK
        have hb1 : Below w.heap.size w (wr.alloc (evObj x)) := hbel.alloc hbel.size _
        have HS1 := Lib.hid (HS.out.alloc (evObj x))
        go_wp2
        go_roundw
        case rel => exact ⟨k + 1, m, by go_num, by omega, by omega, by rw [HT.out]; exact HS1.out, hb1⟩
        case measure => simp [intOf]; omega
      · have hk' : x.kind = 14 := by simpa using hk14
        have HK := Lib.hid hk'; clear hk'
        go_wp2_with fail
        have hb1 : Below w.heap.size w (wr.alloc (evObj x)) := hbel.alloc hbel.size _
        refine (may14 _ x HX.out HK.out).mono ?_
        rintro r w1 ⟨rfl, hbw1⟩
        have hbw : Below w.heap.size w w1 := hb1.trans (hbw1.mono hb1.size)
        have HS1 := Lib.hid ((HS.out.alloc (evObj x)).below hbw1 (by simp; omega))
        obtain ⟨f0, f1, f2, f3, f4, f5, f6, f7⟩ := (EvIn.new wr x).below hbw1 (by simp)
        have hs1 : wr.heap.size + 1 ≤ w1.heap.size := by have := hbw1.size; simp at this; omega
        clear e0 e1 e2 e3 e4 e5 e6 e7 hbw1 hb1 hk14
        cases hf : forgetB x
        · have HT : Hid (goneL (es.take (k + 1)) = goneL (es.take k)) := by have := HTK.out; rw [hf] at this; unfold Hid; simpa using this
          clear hf HTK
          go_wp2
          go_roundw
          case rel => exact ⟨k + 1, m, by go_num, by omega, by omega, by rw [HT.out]; exact HS1.out, hbw⟩
          case measure => simp [intOf]; omega
        · have HT : Hid (goneL (es.take (k + 1)) = goneL (es.take k) ++ [x.per]) := by have := HTK.out; rw [hf] at this; unfold Hid; simpa using this
          clear hf HTK
          have HPL : Hid (x.per.length ≤ maxLen) := by have := HX.out.2.1; unfold Hid maxLen; omega
          go_wp2_with (at_mapUpdate; refine wpList_setput rfl _ _ _ rfl w.heap.size m (goneL (es.take k)) rfl HS1.out ?c1 x.per rfl HPL.out rfl ?_)
          case c1 => unfold maxLen; omega
          intro w2 hset2 hg2
          have hb2 : Below w.heap.size w w2 := Below.grown hbw hg2 (by omega) (fun j hj => by injection hj with hj; omega)
          have HS2 := Lib.hid hset2
          have HB2 := Lib.hid hb2
          clear hset2 hg2 hb2 f0 f1 f2 f3 f4 f5 f6 f7
          go_wp2
          go_roundw
          case rel => exact ⟨k + 1, m + 1, by go_num, by omega, by omega, by rw [HT.out]; exact HS2.out.congr (fun y => by simp [or_comm]), HB2.out⟩
          case measure => simp [intOf]; omega
    · have hkk : es.take k = es := List.take_of_length_le (by rw [HH.out.len]; omega)
      have HKK := Lib.hid hkk; clear hkk
      go_wp2
      go_ret
      refine ⟨w.heap.size, m, rfl, ?_, Nat.le_refl _, by rw [HH.out.len]; omega, hbel⟩
      have := HS.out; rw [HKK.out] at this; exact this
end Go.Proofs.YtejjfhhppjdcaaaGreatDoor
namespace Go.Proofs.YtejjfhhppjdcaaaGreatDoor
open Go.RowKit Go.Maps Go.Sort

/-- an event of nobody who is gone -/
def outB (ks : List (List UInt8)) (e : Ev) : Bool := !decide (e.per ∈ ks) || !ownB e.per e

theorem outside1_any (w : World) (g b n : Nat) (ks : List (List UInt8)) (e : Ev) (hs : e.small) (hc : w.cell? ⟨g, 0, none⟩ = some (.map (some b))) (hset : SetB w b n ks) :
    Calls Tryz.prog 118 (#[e.agg] ++ #[.pointer (some ⟨g, 0, none⟩)]) w (Says (outB ks e) w) := by
  show Calls Tryz.prog 118 #[e.agg, .pointer (some ⟨g, 0, none⟩)] w (Says (outB ks e) w)
  obtain ⟨s1, s2, s3, s4⟩ := hs
  have hg : g < w.heap.size := World.block_lt_of_cell? w ⟨g, 0, none⟩ hc
  have hc' : (w.alloc (evObj e)).cell? ⟨g, 0, none⟩ = some (.map (some b)) := (World.cell?_alloc_lt w (evObj e) _ hg).trans hc
  have hl := (hset.alloc (evObj e)).look e.per (by unfold maxLen; omega)
  have hb : Below w.heap.size w (w.alloc (evObj e)) := (Below.refl _ _).alloc (Nat.le_refl _) _
  have HO := Lib.hid (show outB ks e = (!decide (e.per ∈ ks) || !ownB e.per e) from rfl)
  clear hset hc
  unfold Ev.agg
  generalize hd : decide (e.per ∈ ks) = d at *
  clear hd
  cases d
  · go_enter Tryz.func118, Tryz.ntmps118
    go_wp2
    go_ret
    exact ⟨by rw [HO.out]; rfl, hb⟩
  · go_enter Tryz.func118, Tryz.ntmps118
    go_wp2_with fail
    refine (of_any _ e.per e s2).mono ?_
    rintro r w1 ⟨rfl, hb1⟩
    have hbw : Below w.heap.size w w1 := hb.trans (hb1.mono hb.size)
    clear hl hc' hb1 hb
    generalize ownB e.per e = x at *
    go_wp2
    go_ret
    exact ⟨by rw [HO.out]; rfl, hbw⟩

theorem call67 (args : Array Value) (w : World) : (callFunc 118 args).run Tryz.prog w = .ok (.enter 118 args) w := by kernel_rfl

theorem outside_any (w : World) (m : Value) (hm : ∃ b, m = .map b) : Calls Tryz.prog 90 #[m] w fun e w' => e = .returned (.func (.func 118) #[] #[.pointer (some ⟨w.heap.size, 0, none⟩)]) ∧ w.alloc (.cells #[m] 134) = w' := by
  obtain ⟨b, rfl⟩ := hm
  go_enter Tryz.func90, Tryz.ntmps90
  go_wp2
  go_ret
  exact ⟨rfl, rfl⟩

theorem OwnE.base_le {w : World} {base base' : Nat} {v : Value} {es : List Ev} (h : OwnE w base v es) (hb : base' ≤ base) : OwnE w base' v es := by
  refine ⟨h.1, ?_⟩
  rcases h.2 with ⟨e, hl⟩ | ⟨g, cap, cur, e, hb', hg, hr⟩
  · exact .inl ⟨e, hl⟩
  · exact .inr ⟨g, cap, cur, e, by omega, hg, hr⟩

/-- what is left when the events of the gone are taken away -/
def cleanL (es : List Ev) : List Ev := es.filter (outB (goneL es))

theorem sieve_out (w : World) (g b m : Nat) (ks : List (List UInt8)) (A : Option Addr) (n c : Nat) (es : List Ev) (h : Evs w w.heap.size A n c es) (hn : n ≤ 1000) (hsm : ∀ e ∈ es, e.small)
    (hc : w.cell? ⟨g, 0, none⟩ = some (.map (some b))) (hset : SetB w b m ks) :
    Calls Tryz.prog 116 #[.slice A n c, .func (.func 118) #[] #[.pointer (some ⟨g, 0, none⟩)]] w (SievePost w es (outB ks)) :=
  sieve_any w A n c es h 118 #[.pointer (some ⟨g, 0, none⟩)] (outB ks) hn call67 (fun w1 e he hb =>
    outside1_any w1 g b m ks e (hsm e he) ((hb.cell (p := ⟨g, 0, none⟩) (World.block_lt_of_cell? w ⟨g, 0, none⟩ hc)).trans hc) (hset.below hb hset.lt))

set_option maxHeartbeats 1000000 in
theorem clean_any (w : World) (A : Option Addr) (n c : Nat) (es : List Ev) (h : Evs w w.heap.size A n c es) (hn : n ≤ 1000) (hsm : ∀ e ∈ es, e.small) :
    Calls Tryz.prog 87 #[.slice A n c] w (SievePost w es (outB (goneL es))) := by
  have HH := Lib.hid h; clear h
  have HSM := Lib.hid hsm; clear hsm
  go_enter Tryz.func87, Tryz.ntmps87
  go_wp2_with fail
  refine (people_any w A n c es HH.out hn HSM.out).mono ?_
  rintro r w1 ⟨b, m, rfl, hset, hb, hm, hbel⟩
  have HS := Lib.hid hset; clear hset
  go_wp2_with fail
  refine (outside_any w1 _ ⟨_, rfl⟩).mono ?_
  rintro r w2 ⟨rfl, rfl⟩
  go_wp2_with fail
  have hb2 : Below w.heap.size w (w1.alloc (.cells #[.map (some b)] 134)) := hbel.alloc hbel.size _
  refine (sieve_out _ w1.heap.size b m (goneL es) A n c es (Cel.more (Cel.below HH.out hb2) hb2.size) hn HSM.out ?_ (HS.out.alloc _)).mono ?_
  · rw [cell_of_row _ w1.heap.size _ _ _ (0, 0) (heap_alloc_new w1 _)]; rfl
  rintro r w3 ⟨v, rfl, hown, hb3⟩
  go_wp2
  go_ret
  exact ⟨v, rfl, hown.base_le hb2.size, hb2.trans (hb3.mono hb2.size)⟩

set_option maxHeartbeats 1000000 in
theorem traces_any (w : World) (p : List UInt8) (A : Option Addr) (n c : Nat) (es : List Ev) (h : Evs w w.heap.size A n c es) (hn : n ≤ 1000) (hp : p.length ≤ 1000000000) :
    Calls Tryz.prog 88 #[.string ⟨p.toArray⟩, .slice A n c] w fun e w' => e = .returned (.int .i64 ((es.length - (es.filter (fun e => !ownB p e)).length : Nat) : Int)) ∧ Below w.heap.size w w' := by
  have HH := Lib.hid h; clear h
  have hl := HH.out.len
  have HL := Lib.hid hl; clear hl
  go_enter Tryz.func88, Tryz.ntmps88
  go_wp2_with fail
  refine (without_any w p A n c es HH.out hn hp).mono ?_
  rintro r w1 ⟨v, rfl, hown, hb1⟩
  obtain ⟨A1, c1, hv⟩ := ownsRow_form hown
  subst hv
  have hle : (es.filter (fun e => !ownB p e)).length ≤ n := by have := List.length_filter_le (fun e => !ownB p e) es; rw [HL.out] at this; exact this
  clear hown
  go_wp2
  go_ret
  refine ⟨ret_int ?_, hb1⟩
  rw [HL.out]
  omega
end Go.Proofs.YtejjfhhppjdcaaaGreatDoor
