/-
  sort.Search: a closure that makes memory, and changes nothing that was there.
  Layer 7: place, Has.
  Layer 7: the set in memory; Has, New.
  Layer 7: what a put leaves in memory.
-/
import Derived.Test.YtdjoaboalknlkaaGreatDoorLGnB
import Derived.Lib.Walk
import Derived.Test.YtdjoaboalknlkaaGreatDoorLHadPlain
import Derived.Test.YtdjoaboalknlkaaGreatDoorLEvListing
namespace Go.Proofs.YtdjoaboalknlkaaGreatDoor
open Go.RowKit

/-- the first place from which on p holds -/
def SearchPost (n : Nat) (p : Nat → Bool) (w : World) (e : Ending) (w' : World) : Prop := ∃ k : Nat, e = .returned (.int .i64 k) ∧ k ≤ n ∧ (∀ i, i < k → p i = false) ∧ (∀ i, k ≤ i → i < n → p i = true) ∧ Below w.heap.size w w'
def SearchRel (n : Nat) (p : Nat → Bool) (w : World) (s5 s6 : Value) (wr : World) : Prop := ∃ lo hi : Nat, s5 = .int .i64 lo ∧ s6 = .int .i64 hi ∧ lo ≤ hi ∧ hi ≤ n ∧ Below w.heap.size w wr ∧ (∀ i, i < lo → p i = false) ∧ (∀ i, hi ≤ i → i < n → p i = true)

set_option maxHeartbeats 1000000 in
set_option maxRecDepth 100000 in
theorem search_any (w : World) (g : Nat) (cb : Array Value) (n : Nat) (p : Nat → Bool) (hn : n ≤ 1000000000) (hcall : ∀ (args : Array Value) (w : World), (callFunc g args).run Tryz.prog w = .ok (.enter g args) w)
    (hf : ∀ (w1 : World) (i : Nat), Below w.heap.size w w1 → i < n → Calls Tryz.prog g (#[.int .i64 i] ++ cb) w1 (Says (p i) w1)) (hmono : ∀ i j, i ≤ j → j < n → p i = true → p j = true) :
    Calls Tryz.prog 118 #[.int .i64 n, .func (.func g) #[] cb] w (SearchPost n p w) := by
  have HF := Lib.hid hf; have HM := Lib.hid hmono
  clear hf hmono
  go_enter Tryz.func118, Tryz.ntmps118
  go_wp2
  go_loopw [5, 6] (fun s5 s6 wr => SearchRel n p w s5 s6 wr) (fun s5 s6 _ => (intOf s6 - intOf s5).toNat)
  case atStart => exact ⟨0, n, rfl, rfl, Nat.zero_le _, Nat.le_refl _, Below.refl _ _, fun i h => by omega, fun i h h' => by omega⟩
  case round =>
    obtain ⟨lo, hi, rfl, rfl, hlh, hhn, hbel, h1, h2⟩ := hrel
    have H1 := Lib.hid h1; have H2 := Lib.hid h2
    clear h1 h2
    by_cases hlt : lo < hi
    · have hc := HF.out wr ((lo + hi) / 2) hbel (by omega)
      rw [show (((lo + hi) / 2 : Nat) : Int) = ((lo : Int) + (hi : Int)) / 2 by omega] at hc
      have HC := Lib.hid hc; clear hc
      go_wp2_with fail
      refine HC.out.mono ?_
      rintro e w1 ⟨rfl, hb1⟩
      have hbw : Below w.heap.size w w1 := hbel.trans (hb1.mono hbel.size)
      clear hb1 hcall
      cases hp : p ((lo + hi) / 2)
      · have HP := Lib.hid hp
        clear hp
        go_wp2
        go_roundw
        case rel =>
          refine ⟨(lo + hi) / 2 + 1, hi, by go_num, rfl, by omega, hhn, hbw, fun i hi' => ?_, H2.out⟩
          cases hpi : p i
          · rfl
          · have := HM.out i ((lo + hi) / 2) (by omega) (by omega) hpi
            rw [HP.out] at this; cases this
        case measure => simp [intOf]; omega
      · have HP := Lib.hid hp
        clear hp
        go_wp2
        go_roundw
        case rel =>
          refine ⟨lo, (lo + hi) / 2, rfl, by go_num, by omega, by omega, hbw, H1.out, fun i hi' hn' => ?_⟩
          exact HM.out _ _ hi' hn' HP.out
        case measure => simp [intOf]; omega
    · have e : hi = lo := by omega
      have HE := Lib.hid e
      clear e
      go_wp2
      go_ret
      exact ⟨lo, rfl, by omega, H1.out, fun i hi' hn' => H2.out i (by rw [HE.out]; exact hi') hn', hbel⟩
end Go.Proofs.YtdjoaboalknlkaaGreatDoor
namespace Go.Proofs.YtdjoaboalknlkaaGreatDoor
open Go.RowKit Go.Maps Go.Sort

def rgCells (rs : Rg) : List Value := rs.flatMap fun r => [.int .i64 r.1, .int .i64 r.2]
theorem rgCells_cons (r : Int × Int) (rs : Rg) : rgCells (r :: rs) = .int .i64 r.1 :: .int .i64 r.2 :: rgCells rs := rfl
theorem rgCells_append (a b : Rg) : rgCells (a ++ b) = rgCells a ++ rgCells b := by simp [rgCells]
theorem rgCells_get : ∀ (rs : Rg) (k : Nat) (hk : k < rs.length), (rgCells rs)[k * 2]? = some (.int .i64 rs[k].1) ∧ (rgCells rs)[k * 2 + 1]? = some (.int .i64 rs[k].2)
  | r :: rs, 0, _ => ⟨rfl, rfl⟩
  | r :: rs, k + 1, hk => by
    have := rgCells_get rs k (by simpa using hk)
    rw [rgCells_cons]
    rw [show (k + 1) * 2 = k * 2 + 1 + 1 by omega]
    simpa using this
theorem rgCells_one (rs : Rg) : ∀ u ∈ rgCells rs, u.oneCell' = true := by
  intro u hu
  simp only [rgCells, List.mem_flatMap] at hu
  obtain ⟨r, _, hr⟩ := hu
  simp at hr
  rcases hr with rfl | rfl <;> rfl

/-- v is a slice that holds just these ranges -/
def OwnR (w : World) (v : Value) (rs : Rg) : Prop := w.ownsRow 0 146 2 v rs.length (rgCells rs)
theorem OwnR.cell {w : World} {rs : Rg} {g cap n : Nat} (h : OwnR w (.slice (some ⟨g, 0, none⟩) n cap) rs) (k : Nat) (hk : k < rs.length) :
    w.cell? ⟨g, k * 2, none⟩ = some (.int .i64 rs[k].1) ∧ w.cell? ⟨g, k * 2 + 1, none⟩ = some (.int .i64 rs[k].2) ∧ w.frozen? ⟨g, k * 2, none⟩ = false ∧ w.frozen? ⟨g, k * 2 + 1, none⟩ = false := by
  have hn : n = rs.length := by
    rcases h.2 with ⟨h', _⟩ | ⟨_, _, _, h', _⟩
    · cases h'
    · injection h'
  subst hn
  have hg := rgCells_get rs k hk
  refine ⟨?_, ?_, World.ownsRow.frozenAt h _, World.ownsRow.frozenAt h _⟩
  · rw [World.ownsRow.cellAt h (k * 2) (by omega)]; exact hg.1
  · rw [World.ownsRow.cellAt h (k * 2 + 1) (by omega)]; exact hg.2
theorem OwnR.keep {w w' : World} {v : Value} {rs : Rg} (h : OwnR w v rs) (hb : ∀ b, v.ownBlock = some b → w'.heap[b]? = w.heap[b]?) : OwnR w' v rs := by
  refine ⟨h.1, ?_⟩
  rcases h.2 with h' | ⟨g, cap, cur, rfl, hb', hg, hr⟩
  · exact .inl h'
  · exact .inr ⟨g, cap, cur, rfl, hb', (hb g rfl).trans hg, hr⟩
theorem OwnR.up {w w' : World} {v : Value} {rs : Rg} (h : OwnR w v rs) (hb : Below w.heap.size w w') : OwnR w' v rs := h.keep fun b e => hb.block b (World.ownsRow.lt h b e).2

theorem place1_any (w : World) (b1 b2 g n cap : Nat) (x : Int) (k : Nat) (hk : k < n) (t : Int) (hc1 : w.cell? ⟨b1, 0, none⟩ = some (.slice (some ⟨g, 0, none⟩) n cap)) (hc2 : w.cell? ⟨b2, 0, none⟩ = some (.int .i64 x))
    (ht : w.cell? ⟨g, k * 2 + 1, none⟩ = some (.int .i64 t)) :
    Calls Tryz.prog 119 (#[.int .i64 k] ++ #[.pointer (some ⟨b1, 0, none⟩), .pointer (some ⟨b2, 0, none⟩)]) w (Says (decide (x < t)) w) := by
  show Calls Tryz.prog 119 #[.int .i64 k, .pointer (some ⟨b1, 0, none⟩), .pointer (some ⟨b2, 0, none⟩)] w (Says (decide (x < t)) w)
  have hk' : (k : Int) < n := by omega
  go_enter Tryz.func119, Tryz.ntmps119
  go_wp2
  go_quiet (fail)
  go_wp2
  go_ret
  exact ⟨rfl, below_drewN (Below.refl _ _) _⟩

def PlacePost (rs : Rg) (n : Int) (w : World) (e : Ending) (w' : World) : Prop := e = .returned (.int .i64 (plc rs n)) ∧ Below w.heap.size w w'
set_option maxRecDepth 100000 in
set_option maxHeartbeats 1000000 in
theorem place_any (w : World) (v : Value) (rs : Rg) (hown : OwnR w v rs) (ok : RgOk rs) (hlen : rs.length ≤ 1000000) (n : Int) : Calls Tryz.prog 98 #[v, .int .i64 n] w (PlacePost rs n w) := by
  have HO := Lib.hid hown; have HK := Lib.hid ok
  obtain ⟨A, c, rfl⟩ := ownsRow_form hown
  have hmax : c ≤ maxLen := by
    rcases hown.2 with ⟨e, _⟩ | ⟨_, _, _, e, _, _, _, h, _⟩
    · injection e with _ _ e; subst e; unfold maxLen; omega
    · injection e with _ _ e; subst e; exact h
  clear hown ok
  go_enter Tryz.func98, Tryz.ntmps98
  go_wp2_with fail
  have hbA : Below w.heap.size w ((w.alloc (.cells #[.slice A rs.length c] 132)).alloc (.cells #[.int .i64 n] 3)) := ((Below.refl _ _).alloc (Nat.le_refl _) _).alloc (by simp) _
  have hA0 : ((w.alloc (.cells #[.slice A rs.length c] 132)).alloc (.cells #[.int .i64 n] 3)).cell? ⟨w.heap.size, 0, none⟩ = some (.slice A rs.length c) := by
    rw [World.cell?_alloc_lt _ _ _ (by simp)]; exact cell_of_row _ w.heap.size 0 _ _ (0, 0) (heap_alloc_new w _)
  have hA1 : ((w.alloc (.cells #[.slice A rs.length c] 132)).alloc (.cells #[.int .i64 n] 3)).cell? ⟨w.heap.size + 1, 0, none⟩ = some (.int .i64 n) := by
    simp
  have hsz : ((w.alloc (.cells #[.slice A rs.length c] 132)).alloc (.cells #[.int .i64 n] 3)).heap.size = w.heap.size + 2 := by simp
  generalize (w.alloc (.cells #[.slice A rs.length c] 132)).alloc (.cells #[.int .i64 n] 3) = w1 at *
  have HO1 := Lib.hid (HO.out.up hbA)
  have HA0 := Lib.hid hA0; have HA1 := Lib.hid hA1
  clear hA0 hA1
  refine (search_any w1 119 #[.pointer (some ⟨w.heap.size, 0, none⟩), .pointer (some ⟨w.heap.size + 1, 0, none⟩)] rs.length (fun i => decide (n < (rs.getD i (0, 0)).2)) (by omega) (fun _ _ => by kernel_rfl) ?_ ?_).mono ?_
  · intro w2 i hb2 hi
    have hg : ∃ g, A = some ⟨g, 0, none⟩ := by
      rcases HO.out.2 with ⟨e, h0⟩ | ⟨g, _, _, e, _⟩
      · omega
      · exact ⟨g, by injection e⟩
    obtain ⟨g, rfl⟩ := hg
    have hc := ((HO1.out.up hb2).cell i hi).2.1
    have e : rs.getD i (0, 0) = rs[i] := by simp [List.getD, List.getElem?_eq_getElem hi]
    simp only [e]
    exact place1_any w2 _ _ g rs.length c n i hi _ ((hb2.cell (p := ⟨w.heap.size, 0, none⟩) (by simp only; omega)).trans HA0.out) ((hb2.cell (p := ⟨w.heap.size + 1, 0, none⟩) (by simp only; omega)).trans HA1.out) hc
  · intro i j hij hj hp
    have := rg_mono HK.out i j hij hj
    simp only [List.getD, List.getElem?_eq_getElem hj, List.getElem?_eq_getElem (show i < rs.length by omega), Option.getD_some, decide_eq_true_eq] at *
    omega
  · rintro e w2 ⟨k, rfl, hkl, h1, h2, hb2⟩
    have HP := Lib.hid (plc_search (rs := rs) (n := n) k hkl (fun i hi hlt => by have := h1 i hlt; simp only [List.getD, List.getElem?_eq_getElem hi, Option.getD_some, decide_eq_false_iff_not] at this; omega) (fun i hi hge => by have := h2 i hge hi; simpa only [List.getD, List.getElem?_eq_getElem hi, Option.getD_some, decide_eq_true_eq] using this))
    have HB := Lib.hid (hbA.trans (hb2.mono (by omega)))
    clear h1 h2 hb2
    go_wp2
    go_ret
    exact ⟨by rw [← HP.out]; rfl, HB.out⟩
end Go.Proofs.YtdjoaboalknlkaaGreatDoor
namespace Go.Proofs.YtdjoaboalknlkaaGreatDoor
open Go.RowKit Go.Maps Go.Sort

abbrev setObj (bm : Nat) : Obj := .cells #[.map (some bm)] 109
/-- block bs is a set, whose map is block bm; its rows' values V; all its blocks are in G -/
structure HadAt (w : World) (G : Nat → Prop) (bs bm : Nat) (m : Had) (V : List UInt8 → Value) : Prop where
  blk : w.heap[bs]? = some (setObj bm)
  map : MapS w bm (m.map fun p => (p.1, V p.1))
  own : ∀ p ∈ m, OwnR w (V p.1) p.2
  apart : ∀ p ∈ m, ∀ q ∈ m, p.1 ≠ q.1 → (V p.1).ownBlock ≠ (V q.1).ownBlock
  gs : G bs
  gm : G bm
  foot : ∀ p ∈ m, ∀ b, (V p.1).ownBlock = some b → G b
  lt : ∀ b, G b → b < w.heap.size
  typ : ∀ b, G b → b = bs ∨ b = bm ∨ ∃ cs, w.heap[b]? = some (.cells cs 146 (0, 0))
  ok : HadOk m

section
variable {w w' : World} {G : Nat → Prop} {bs bm : Nat} {m : Had} {V : List UInt8 → Value}
theorem HadAt.keep (h : HadAt w G bs bm m V) (hsz : w.heap.size ≤ w'.heap.size) (hk : ∀ b, G b → w'.heap[b]? = w.heap[b]?) : HadAt w' G bs bm m V :=
  ⟨(hk _ h.gs).trans h.blk, h.map.block (hk _ h.gm), fun p hp => (h.own p hp).keep fun b hb => hk b (h.foot p hp b hb), h.apart, h.gs, h.gm, h.foot, fun b hb => Nat.lt_of_lt_of_le (h.lt b hb) hsz,
    fun b hb => (h.typ b hb).imp id fun h' => h'.imp id fun ⟨cs, hc⟩ => ⟨cs, (hk b hb).trans hc⟩, h.ok⟩
theorem HadAt.up (h : HadAt w G bs bm m V) (hb : Below w.heap.size w w') : HadAt w' G bs bm m V := h.keep hb.size fun b hg => hb.block b (h.lt b hg)
theorem HadAt.cell (h : HadAt w G bs bm m V) : w.cell? ⟨bs, 0, none⟩ = some (.map (some bm)) := cell_of_row w bs 0 _ _ (0, 0) h.blk
theorem zeroRgs (w : World) : (zeroValue 132).run Tryz.prog w = .ok (.slice none 0 0) w := by kernel_rfl
theorem HadAt.look (h : HadAt w G bs bm m V) (s : List UInt8) (hs : s.length ≤ 1000000000) :
    ∃ v, (Instr.lookup 107 (.map (some bm)) (.string ⟨s.toArray⟩) false).run Tryz.prog w = .ok v w ∧ OwnR w v (hadRow m s) ∧ (getB m s = none → v = .slice none 0 0) ∧ (∀ rs, getB m s = some rs → v = V s) := by
  refine ⟨_, h.map.look s (by unfold maxLen; omega) _ _ Tryz.underlying107 _ (zeroRgs w), ?_⟩
  have e : (getB (m.map fun p => (p.1, V p.1)) s) = (getB m s).map fun _ => V s := by
    unfold getB
    rw [List.find?_map]
    have : ((fun p : List UInt8 × Value => p.1 == s) ∘ fun p : List UInt8 × Rg => (p.1, V p.1)) = fun p => p.1 == s := rfl
    rw [this]
    cases hf : m.find? fun p => p.1 == s with
    | none => rfl
    | some p => have := List.find?_some hf; simp at this; simp [this]
  rw [e]
  cases hg : getB m s with
  | none =>
    refine ⟨?_, fun _ => rfl, (fun _ h => by cases h)⟩
    unfold hadRow
    rw [hg]
    exact World.ownsRow_nil w 0 _ 2
  | some rs =>
    refine ⟨?_, (fun h => by cases h), fun _ _ => rfl⟩
    unfold hadRow
    rw [hg]
    exact h.own _ (getB_mem hg)
end

set_option maxRecDepth 100000 in
set_option maxHeartbeats 1000000 in
theorem has_any (w : World) (G : Nat → Prop) (bs bm : Nat) (m : Had) (V : List UInt8 → Value) (h : HadAt w G bs bm m V) (s : List UInt8) (hs : s.length ≤ 1000000000) (hlen : (hadRow m s).length ≤ 1000000) (n : Int) :
    Calls Tryz.prog 76 #[.pointer (some ⟨bs, 0, none⟩), .string ⟨s.toArray⟩, .int .i64 n] w (Says (hadB m s n) w) := by
  have HB := Lib.hid (hasR_eq (h.ok.row s) n)
  have HOK := Lib.hid (h.ok.row s)
  have hc := h.cell
  have HHB := Lib.hid (show hadB m s n = hasR (hadRow m s) n from rfl)
  obtain ⟨v, hl, hown, _, _⟩ := h.look s hs
  generalize hadRow m s = rs at *
  obtain ⟨A, c, rfl⟩ := ownsRow_form hown
  have HO := Lib.hid hown
  have hpl := plc_le rs n
  clear h hown
  go_enter Tryz.func76, Tryz.ntmps76
  go_wp2_with fail
  refine (place_any w _ rs HO.out HOK.out hlen n).mono ?_
  rintro e w1 ⟨rfl, hb1⟩
  have HO1 := Lib.hid (HO.out.up hb1)
  clear hl hc
  by_cases hlt : plc rs n < rs.length
  · have hA : ∃ g, A = some ⟨g, 0, none⟩ := by
      rcases HO.out.2 with ⟨e, h0⟩ | ⟨g, _, _, e, _⟩
      · omega
      · exact ⟨g, by injection e⟩
    obtain ⟨g, rfl⟩ := hA
    have hcc := (HO1.out.cell (plc rs n) hlt).1
    have HX := Lib.hid (show hadB m s n = decide (rs[plc rs n].1 ≤ n) by rw [HHB.out, HB.out]; simp [hlt])
    generalize rs[plc rs n].1 = x at *
    generalize plc rs n = k at *
    have ht : (k : Int) < rs.length := by omega
    go_wp2
    go_ret
    exact ⟨ret_bool HX.out.symm, hb1⟩
  · have HX := Lib.hid (show hadB m s n = false by rw [HHB.out, HB.out]; simp [hlt])
    generalize plc rs n = k at *
    have ht : ¬ (k : Int) < rs.length := by omega
    go_wp2
    go_ret
    exact ⟨ret_bool HX.out.symm, hb1⟩

def HadNewPost (w : World) (e : Ending) (w' : World) : Prop := ∃ bs bm, e = .returned (.pointer (some ⟨bs, 0, none⟩)) ∧ HadAt w' (fun b => b = bs ∨ b = bm) bs bm [] (fun _ => .slice none 0 0) ∧ w.heap.size ≤ bs ∧ w.heap.size ≤ bm ∧ Below w.heap.size w w'
theorem hadnew_any (w : World) : Calls Tryz.prog 20 #[] w (HadNewPost w) := by
  have hmm := @run_makeMap Tryz.prog
  go_enter Tryz.func20, Tryz.ntmps20
  go_wp2
  go_ret
  have hb : Below w.heap.size w ((w.alloc (.map #[] 0)).alloc (setObj w.heap.size)) := ((Below.refl _ _).alloc (Nat.le_refl _) _).alloc (by simp) _
  refine ⟨w.heap.size + 1, w.heap.size, rfl, ⟨?_, (MapS.made w).block (Below.heap_alloc _ _ _ (by simp)), fun p hp => by simp at hp, fun p hp => by simp at hp, .inl rfl, .inr rfl, fun p hp => by simp at hp, fun b hb => ?_, fun b hb => ?_, HadOk.nil⟩, by omega, Nat.le_refl _, hb⟩
  · have := heap_alloc_new (w.alloc (.map #[] 0)) (setObj w.heap.size)
    simpa using this
  · simp; rcases hb with rfl | rfl <;> omega
  · rcases hb with rfl | rfl
    · exact .inl rfl
    · exact .inr (.inl rfl)
end Go.Proofs.YtdjoaboalknlkaaGreatDoor
namespace Go.Proofs.YtdjoaboalknlkaaGreatDoor
open Go.RowKit Go.Maps Go.Sort

end Go.Proofs.YtdjoaboalknlkaaGreatDoor
