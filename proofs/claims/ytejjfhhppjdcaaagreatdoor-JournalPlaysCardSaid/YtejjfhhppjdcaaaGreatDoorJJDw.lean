/-
  Layer 5: done's Rewrite: the document's row is gone through.
-/
import Derived.Test.YtejjfhhppjdcaaaGreatDoorJJDn
import Derived.Test.YtejjfhhppjdcaaaGreatDoorJJlRw3
import Derived.Test.YtejjfhhppjdcaaaGreatDoorJStepApp
namespace Go.Proofs.YtejjfhhppjdcaaaGreatDoor
open Go.RowKit Go.Maps Go.Sort

theorem OwnE.low0 {w : World} {base : Nat} {v : Value} {l : List Ev} (h : OwnE w base v l) : OwnE w 0 v l := by
  refine ⟨h.1, ?_⟩
  rcases h.2 with ⟨e, hl⟩ | ⟨g, cap, cur, e, hb', hg, hr⟩
  · exact .inl ⟨e, hl⟩
  · exact .inr ⟨g, cap, cur, e, Nat.zero_le _, hg, hr⟩
/-- how many last, k entries having been gone through -/
def lasK (kb : Ev → Bool) (z a lz : Nat) (es : List (Option Ev)) (k : Nat) : Nat := if cntE kb ((es.take k).drop a) ≠ 0 then z else lz
theorem lasK_zero (kb : Ev → Bool) (z a lz : Nat) (es : List (Option Ev)) : lasK kb z a lz es 0 = lz := by simp [lasK, cntE]
theorem lasK_le {kb : Ev → Bool} {z a lz : Nat} {es : List (Option Ev)} {k : Nat} (h : lz ≤ z) : lasK kb z a lz es k ≤ z := by
  unfold lasK; split
  · exact Nat.le_refl _
  · exact h
theorem lasK_succ (kb : Ev → Bool) (z a lz : Nat) (es : List (Option Ev)) (k : Nat) (hk : k < es.length) : lasK kb z a lz es (k + 1) = if a ≤ k ∧ goesB kb es[k] = true then z else lasK kb z a lz es k := by
  unfold lasK
  have ht : es.take (k + 1) = es.take k ++ [es[k]] := by rw [List.take_add_one, List.getElem?_eq_getElem hk, Option.toList_some]
  have hl : (es.take k).length = k := by rw [List.length_take]; omega
  by_cases ha : a ≤ k
  · rw [ht, List.drop_append_of_le_length (by omega), cntE_snoc]
    cases hg : goesB kb es[k]
    · simp
    · rw [if_pos (by simp), if_pos ⟨ha, rfl⟩]
  · rw [List.drop_eq_nil_of_le (by rw [List.length_take]; omega), if_neg (show ¬ (a ≤ k ∧ _) from fun h => ha h.1), List.drop_eq_nil_of_le (by omega)]
theorem same_seg {k z pr : Nat} (hk : k < z) (hp : 1 ≤ pr) : k / pr = (z - 1) / pr ↔ autoN z pr ≤ k := by
  unfold autoN
  rw [if_neg (by omega)]
  constructor
  · intro h; rw [← h]; exact Nat.div_mul_le_self _ _
  · intro h
    have h1 : (z - 1) / pr ≤ k / pr := (Nat.le_div_iff_mul_le (by omega)).2 h
    have h2 : k / pr ≤ (z - 1) / pr := Nat.div_le_div_right (by omega)
    omega
/-- the document's new row (v14), what it wants asked (v16), the state's box (at s); w4 is the world ahead of the loop -/
structure DwS (w4 : World) (s : Nat) (A : Option Addr) (z c las : Nat) (L : List (Option Ev)) (X : List Ev) (v14 v16 : Value) (W : World) : Prop where
  e : OwnR W (s + 3) v14 L
  x : OwnE W (s + 5) v16 X
  b14 : ∀ b, v14.ownBlock = some b → b = s + 3 ∨ s + 7 ≤ b
  b16 : ∀ b, v16.ownBlock = some b → b = s + 5 ∨ s + 7 ≤ b
  st : W.heap[s]? = some (stObj A z c las)
  kp : Keep (fun b => b = s ∨ b = s + 3 ∨ b = s + 5) w4 W
  w4s : w4.heap.size = s + 7
section
variable {w4 W W' : World} {s z c las : Nat} {A : Option Addr} {L : List (Option Ev)} {X : List Ev} {v14 v16 : Value}
theorem DwS.size (h : DwS w4 s A z c las L X v14 v16 W) : s + 7 ≤ W.heap.size := by have := h.kp.size; rw [h.w4s] at this; exact this
theorem DwS.n14 (h : DwS w4 s A z c las L X v14 v16 W) : ∀ b, v14.ownBlock = some b → b < W.heap.size ∧ b ≠ s := fun b hb => ⟨(World.ownsRow.lt h.e b hb).2, by have := (World.ownsRow.lt h.e b hb).1; omega⟩
theorem DwS.n16 (h : DwS w4 s A z c las L X v14 v16 W) : ∀ b, v16.ownBlock = some b → b < W.heap.size ∧ b ≠ s := fun b hb => ⟨(World.ownsRow.lt h.x b hb).2, by have := (World.ownsRow.lt h.x b hb).1; omega⟩
theorem DwS.up (h : DwS w4 s A z c las L X v14 v16 W) (hb : RowKit.Below W.heap.size W W') : DwS w4 s A z c las L X v14 v16 W' :=
  ⟨h.e.keepB fun b hb' => hb.block b (h.n14 b hb').1, h.x.keepB fun b hb' => hb.block b (h.n16 b hb').1, h.b14, h.b16, (hb.block s (by have := h.size; omega)).trans h.st, h.kp.trans (Keep.of_below (F := fun _ => False) hb) (fun _ _ h => h.elim), h.w4s⟩
/-- the entry's box is written -/
theorem DwS.box (h : DwS w4 s A z c las L X v14 v16 W) {p : Addr} (hp : s + 7 ≤ p.block) (h14 : v14.ownBlock ≠ some p.block) (h16 : v16.ownBlock ≠ some p.block) (u : Value) : DwS w4 s A z c las L X v14 v16 (W.setCell p u) :=
  ⟨h.e.keepB fun b hb => Below.heap_setCell _ _ _ b (fun e => h14 (by rw [← e]; exact hb)), h.x.keepB fun b hb => Below.heap_setCell _ _ _ b (fun e => h16 (by rw [← e]; exact hb)), h.b14, h.b16,
    (Below.heap_setCell _ _ _ s (by omega)).trans h.st, h.kp.setCell (fun hl => by rw [h.w4s] at hl; omega) u, h.w4s⟩
/-- how many last is written -/
theorem DwS.lasts (h : DwS w4 s A z c las L X v14 v16 W) (l' : Nat) : DwS w4 s A z c l' L X v14 v16 (W.setCell ⟨s, 1, none⟩ (.int .i64 (l' : Int))) :=
  ⟨h.e.keepB fun b hb => Below.heap_setCell _ _ _ b (h.n14 b hb).2, h.x.keepB fun b hb => Below.heap_setCell _ _ _ b (h.n16 b hb).2, h.b14, h.b16, heap_set_row h.st, h.kp.setCell (fun _ => .inl rfl) _, h.w4s⟩
theorem DwS.app14 (h : DwS w4 s A z c las L X v14 v16 W) {x : Option Ev} {v' : Value} {n : Nat} (hn : n = (L ++ [x]).length) (ho : W'.ownsRow (s + 3) 72 9 v' n (entCells L ++ entC x)) (hg : W.grownBy W' v14.ownBlock) (hv : v'.ownBlock = v14.ownBlock ∨ v'.ownBlock = some W.heap.size) : DwS w4 s A z c las (L ++ [x]) X v' v16 W' := by
  have hsz := h.size
  refine ⟨by unfold OwnR; rw [entCells_one, ← hn]; exact ho, World.ownsRow.kept h.x hg (ownsRow_apart h.x h.e (by decide)), fun b hb => ?_, h.b16, ?_, h.kp.trans (Keep.of_grown (F := fun b => b = s + 3 ∨ s + 7 ≤ b) hg (fun k e => h.b14 k e)) (fun b hb hb' => ?_), h.w4s⟩
  · rcases hv with h1 | h1
    · exact h.b14 b (h1 ▸ hb)
    · rw [h1] at hb; injection hb with hb; omega
  · exact (hg.block s (by omega) (fun e => (h.n14 s e.symm).2 rfl)).trans h.st
  · rw [h.w4s] at hb; omega
theorem DwS.app16 (h : DwS w4 s A z c las L X v14 v16 W) {x : Ev} {v' : Value} {n : Nat} (hn : n = (X ++ [x]).length) (ho : W'.ownsRow (s + 5) 36 8 v' n (evCells X ++ x.cells)) (hg : W.grownBy W' v16.ownBlock) (hv : v'.ownBlock = v16.ownBlock ∨ v'.ownBlock = some W.heap.size) : DwS w4 s A z c las L (X ++ [x]) v14 v' W' := by
  have hsz := h.size
  refine ⟨World.ownsRow.kept h.e hg (ownsRow_apart h.e h.x (by decide)), by unfold OwnE; rw [evCells_one, ← hn]; exact ho, h.b14, fun b hb => ?_, ?_, h.kp.trans (Keep.of_grown (F := fun b => b = s + 5 ∨ s + 7 ≤ b) hg (fun k e => h.b16 k e)) (fun b hb hb' => ?_), h.w4s⟩
  · rcases hv with h1 | h1
    · exact h.b16 b (h1 ▸ hb)
    · rw [h1] at hb; injection hb with hb; omega
  · exact (hg.block s (by omega) (fun e => (h.n16 s e.symm).2 rfl)).trans h.st
  · rw [h.w4s] at hb; omega
end
def DwRel (w4 : World) (s : Nat) (A : Option Addr) (z c a lz : Nat) (kb : Ev → Bool) (es : List (Option Ev)) (v14 v16 n i : Value) (W : World) : Prop :=
  ∃ k : Nat, i = .int .i64 k ∧ k ≤ z ∧ n = .int .i64 (cntE kb (es.take k) : Nat) ∧ DwS w4 s A z c (lasK kb z a lz es k) ((es.take k).map (erE kb)) (rdEv (es.take k)) v14 v16 W
theorem DwRel.next {w4 W : World} {s z c a lz k m las : Nat} {A : Option Addr} {kb : Ev → Bool} {es : List (Option Ev)} {v14 v16 : Value} {x : Option Ev} {X : List Ev} {y : Option Ev} (hk : k < es.length) (hz : es.length = z) (hx : es[k] = x)
    (h : DwS w4 s A z c las ((es.take k).map (erE kb) ++ [y]) X v14 v16 W) (hy : y = erE kb x) (hX : X = rdEv (es.take k) ++ x.toList) (hm : m = cntE kb (es.take k) + if goesB kb x = true then 1 else 0) (hl : las = if a ≤ k ∧ goesB kb x = true then z else lasK kb z a lz es k) :
    DwRel w4 s A z c a lz kb es v14 v16 (.int .i64 (m : Int)) (.int .i64 ((k : Int) + 1)) W := by
  have ht : es.take (k + 1) = es.take k ++ [x] := by rw [List.take_add_one, List.getElem?_eq_getElem hk, Option.toList_some, hx]
  refine ⟨k + 1, rfl, by omega, ?_, ?_⟩
  · rw [ht, cntE_snoc, hm]
  · rw [lasK_succ _ _ _ _ _ _ hk, hx, ← hl, ht, List.map_append, rdEv_snoc, ← hX, List.map_cons, List.map_nil, ← hy]; exact h
/-- an entry's box is wiped -/
theorem rent_wipe {W : World} {t : Nat} {x : Option Ev} (h : W.heap[t]? = some (rentObj x)) : (((((((((W.setCell ⟨t, 0, none⟩ (.string ⟨#[]⟩)).setCell ⟨t, 1, none⟩ (.int .i64 0)).setCell ⟨t, 2, none⟩ (.int .i64 0)).setCell ⟨t, 3, none⟩ (.int .i64 0)).setCell ⟨t, 4, none⟩ (.string ⟨#[]⟩)).setCell ⟨t, 5, none⟩ (.string ⟨#[]⟩)).setCell ⟨t, 6, none⟩ (.int .i64 0)).setCell ⟨t, 7, none⟩ (.string ⟨#[]⟩)).setCell ⟨t, 8, none⟩ (.bool true)).heap[t]? = some (rentObj none) := by
  have h0 := heap_set_row (o := 0) (u := .string ⟨#[]⟩) h
  have h1 := heap_set_row (o := 1) (u := .int .i64 0) h0
  have h2 := heap_set_row (o := 2) (u := .int .i64 0) h1
  have h3 := heap_set_row (o := 3) (u := .int .i64 0) h2
  have h4 := heap_set_row (o := 4) (u := .string ⟨#[]⟩) h3
  have h5 := heap_set_row (o := 5) (u := .string ⟨#[]⟩) h4
  have h6 := heap_set_row (o := 6) (u := .int .i64 0) h5
  have h7 := heap_set_row (o := 7) (u := .string ⟨#[]⟩) h6
  have h8 := heap_set_row (o := 8) (u := .bool true) h7
  simp only [List.setIfInBounds_toArray, List.set_cons_zero, List.set_cons_succ] at h8
  exact h8
theorem DwS.wipe {w4 W : World} {s z c las t : Nat} {A : Option Addr} {L : List (Option Ev)} {X : List Ev} {v14 v16 : Value} (h : DwS w4 s A z c las L X v14 v16 W) (ht : s + 7 ≤ t) (h14 : v14.ownBlock ≠ some t) (h16 : v16.ownBlock ≠ some t) : DwS w4 s A z c las L X v14 v16 (((((((((W.setCell ⟨t, 0, none⟩ (.string ⟨#[]⟩)).setCell ⟨t, 1, none⟩ (.int .i64 0)).setCell ⟨t, 2, none⟩ (.int .i64 0)).setCell ⟨t, 3, none⟩ (.int .i64 0)).setCell ⟨t, 4, none⟩ (.string ⟨#[]⟩)).setCell ⟨t, 5, none⟩ (.string ⟨#[]⟩)).setCell ⟨t, 6, none⟩ (.int .i64 0)).setCell ⟨t, 7, none⟩ (.string ⟨#[]⟩)).setCell ⟨t, 8, none⟩ (.bool true)) := by
  have key : ∀ {W : World} (o : Nat) (u : Value), DwS w4 s A z c las L X v14 v16 W → DwS w4 s A z c las L X v14 v16 (W.setCell ⟨t, o, none⟩ u) := fun o u h => h.box (p := ⟨t, o, none⟩) ht h14 h16 u
  exact key _ _ (key _ _ (key _ _ (key _ _ (key _ _ (key _ _ (key _ _ (key _ _ (key _ _ (h)))))))))
/-- a Rewrite is done, and the document's new row stands in the result's box -/
theorem finR {w w5 w6 w7 w9 : World} {G F G' F' H : Nat → Prop} {bj bd base b8 : Nat} {v14 : Value} {j' : Jl} (hb5 : RowKit.Below w.heap.size w w5) (hlt : ∀ b, G b ∨ F b → b < w.heap.size) (hjl : JlIn w6 G' F' bj bd j')
    (hG : ∀ b, G' b → G b ∨ w5.heap.size ≤ b) (hF : ∀ b, F' b → F b ∨ w5.heap.size ≤ b) (hH : ∀ b, H b → w.heap.size ≤ b) (hk6 : Keep (fun b => G b ∨ F b ∨ H b) w5 w6) (ho : OwnR w5 base v14 j'.es)
    (hn14 : ∀ b, v14.ownBlock = some b → w.heap.size ≤ b ∧ ¬ H b ∧ b ≠ b8) (hb7 : RowKit.Below w6.heap.size w6 w7) (h8 : w.heap.size ≤ b8 ∧ b8 < w5.heap.size)
    (h9 : w7.heap.size ≤ w9.heap.size) (hblk : ∀ b, b ≠ b8 → w9.heap[b]? = w7.heap[b]?) (hk9 : Keep (fun b => G b ∨ F b) w w7 → Keep (fun b => G b ∨ F b) w w9) :
    DonePost w G F bj bd j' (.returned (.tuple #[.agg #[v14, .int .i64 j'.lasts], .bool true])) w9 := by
  have hs5 := hb5.size
  have hs6 := hk6.size
  have hs7 := hb7.size
  have hno : ∀ b, w.heap.size ≤ b → b < w5.heap.size → ¬ (G' b ∨ F' b) := fun b h1 h2 hb => by
    rcases hb with hb | hb
    · rcases hG b hb with h | h
      · have := hlt b (.inl h); omega
      · omega
    · rcases hF b hb with h | h
      · have := hlt b (.inr h); omega
      · omega
  have hown : ∀ b, v14.ownBlock = some b → b < w5.heap.size := fun b hb => (World.ownsRow.lt ho b hb).2
  have hkw : Keep (fun b => G b ∨ F b) w w6 := (Keep.of_below (F := fun b => G b ∨ F b) hb5).trans hk6 (fun b hb h => by
    rcases h with h | h | h
    · exact .inl h
    · exact .inr h
    · have := hH b h; omega)
  refine ⟨v14, G', F', rfl, ⟨(hjl.up hb7).keep h9 (fun b hb => hblk b (fun e => hno b8 h8.1 h8.2 (e ▸ hb))), ?_, fun b hb => ⟨fun hg => hno b (hn14 b hb).1 (hown b hb) (.inl hg), fun hg => hno b (hn14 b hb).1 (hown b hb) (.inr hg)⟩⟩, fun b hb => (hG b hb).imp id (fun h => by omega), fun b hb => (hF b hb).imp id (fun h => by omega), hk9 (hkw.trans (Keep.of_below (F := fun _ => False) hb7) (fun _ _ h => h.elim))⟩
  refine OwnR.down (ho.keepB fun b hb => (hblk b (hn14 b hb).2.2).trans ((hb7.block b (by have := hown b hb; omega)).trans (hk6.block b (hown b hb) fun h => ?_))) (Nat.zero_le _)
  have h14 := hn14 b hb
  rcases h with h | h | h
  · have := hlt b (.inl h); omega
  · have := hlt b (.inr h); omega
  · exact h14.2.1 h
end Go.Proofs.YtejjfhhppjdcaaaGreatDoor
