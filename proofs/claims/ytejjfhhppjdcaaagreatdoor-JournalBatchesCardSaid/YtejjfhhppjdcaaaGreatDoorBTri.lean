/-
  Layer 5: three journals side by side.
-/
import Derived.Test.YtejjfhhppjdcaaaGreatDoorBJlNew
import Derived.Test.YtejjfhhppjdcaaaGreatDoorBDInv
namespace Go.Proofs.YtejjfhhppjdcaaaGreatDoor
open Go.RowKit Go.Maps Go.Sort

/-- a journal and its blocks -/
structure Jx where
  G : Nat → Prop
  F : Nat → Prop
  bj : Nat
  bd : Nat
  j : Jl
def Jx.In (x : Jx) (W : World) : Prop := JlIn W x.G x.F x.bj x.bd x.j
def Jx.N (x : Jx) (b : Nat) : Prop := x.G b ∨ x.F b
structure Tri (w W : World) (a b c : Jx) : Prop where
  ia : a.In W
  ib : b.In W
  ic : c.In W
  ab : ∀ k, a.N k → ¬ b.N k
  ac : ∀ k, a.N k → ¬ c.N k
  bc : ∀ k, b.N k → ¬ c.N k
  na : ∀ k, a.N k → w.heap.size ≤ k
  nb : ∀ k, b.N k → w.heap.size ≤ k
  nc : ∀ k, c.N k → w.heap.size ≤ k
  bel : Below w.heap.size w W
section
variable {w W W' : World} {a b c : Jx}
theorem Tri.rot (h : Tri w W a b c) : Tri w W b c a := ⟨h.ib, h.ic, h.ia, h.bc, fun k hb ha => h.ab k ha hb, fun k hc ha => h.ac k ha hc, h.nb, h.nc, h.na, h.bel⟩
theorem Jx.In.lt {x : Jx} (h : x.In W) : ∀ k, x.N k → k < W.heap.size := JlIn.lt h
theorem Jx.In.beside {x : Jx} {F : Nat → Prop} (h : x.In W) (hk : Keep F W W') (hn : ∀ k, x.N k → ¬ F k) : x.In W' := JlIn.keep h hk.size fun b hb => hk.block b (h.lt b hb) (hn b hb)
theorem Tri.up (h : Tri w W a b c) (hb : Below W.heap.size W W') : Tri w W' a b c :=
  ⟨JlIn.up h.ia hb, JlIn.up h.ib hb, JlIn.up h.ic hb, h.ab, h.ac, h.bc, h.na, h.nb, h.nc, h.bel.trans (hb.mono h.bel.size)⟩
theorem Tri.deed (h : Tri w W a b c) {j' : Jl} (hd : JlD W a.G a.F a.bj a.bd j' W') : ∃ G F, Tri w W' ⟨G, F, a.bj, a.bd, j'⟩ b c := by
  obtain ⟨G, F, hi, hG, hF, hk⟩ := hd
  have hs := h.bel.size
  have hN : ∀ k, Jx.N ⟨G, F, a.bj, a.bd, j'⟩ k → a.N k ∨ W.heap.size ≤ k := fun k hk => by
    rcases hk with h' | h'
    · exact (hG k h').imp .inl id
    · exact (hF k h').imp .inr id
  refine ⟨G, F, hi, h.ib.beside hk (fun k hb ha => h.ab k ha hb), h.ic.beside hk (fun k hc ha => h.ac k ha hc), fun k ha hb => ?_, fun k ha hc => ?_, h.bc, fun k ha => ?_, h.nb, h.nc, h.bel.trans (hk.below hs (fun k hk' ha => by have := h.na k ha; omega))⟩
  · rcases hN k ha with h' | h'
    · exact h.ab k h' hb
    · have := h.ib.lt k hb; omega
  · rcases hN k ha with h' | h'
    · exact h.ac k h' hc
    · have := h.ic.lt k hc; omega
  · rcases hN k ha with h' | h'
    · exact h.na k h'
    · omega
end
/-- three disks, each new -/
theorem Tri.opened {w w4 w5 w6 w7 w8 w9 : World} {Ga Gb Gc G7 F7 G8 F8 G9 F9 : Nat → Prop} {da db dc ja jb jc : Nat} {J : Jl} (hb0 : Below w.heap.size w w4) 
    (hga : ∀ k, Ga k → w.heap.size ≤ k ∧ k < w4.heap.size) (hgb : ∀ k, Gb k → w4.heap.size ≤ k ∧ k < w5.heap.size) (hgc : ∀ k, Gc k → w5.heap.size ≤ k ∧ k < w6.heap.size)
    (hb5 : Below w4.heap.size w4 w5) (hb6 : Below w5.heap.size w5 w6)
    (h7 : JlIn w7 G7 F7 ja da J) (hG7 : ∀ b, G7 b → Ga b ∨ w6.heap.size ≤ b) (hF7 : ∀ b, F7 b → w6.heap.size ≤ b) (hk7 : Keep Ga w6 w7)
    (h8 : JlIn w8 G8 F8 jb db J) (hG8 : ∀ b, G8 b → Gb b ∨ w7.heap.size ≤ b) (hF8 : ∀ b, F8 b → w7.heap.size ≤ b) (hk8 : Keep Gb w7 w8)
    (h9 : JlIn w9 G9 F9 jc dc J) (hG9 : ∀ b, G9 b → Gc b ∨ w8.heap.size ≤ b) (hF9 : ∀ b, F9 b → w8.heap.size ≤ b) (hk9 : Keep Gc w8 w9) :
    Tri w w9 ⟨G7, F7, ja, da, J⟩ ⟨G8, F8, jb, db, J⟩ ⟨G9, F9, jc, dc, J⟩ := by
  have s4 := hb0.size; have s5 := hb5.size; have s6 := hb6.size; have s7 := hk7.size; have s8 := hk8.size; have s9 := hk9.size
  have n7 : ∀ k, G7 k ∨ F7 k → (w.heap.size ≤ k ∧ k < w4.heap.size) ∨ (w6.heap.size ≤ k ∧ k < w7.heap.size) := fun k hk => by
    have hl := h7.lt k hk
    rcases hk with h | h
    · rcases hG7 k h with h | h
      · exact .inl (hga k h)
      · exact .inr ⟨h, hl⟩
    · exact .inr ⟨hF7 k h, hl⟩
  have n8 : ∀ k, G8 k ∨ F8 k → (w4.heap.size ≤ k ∧ k < w5.heap.size) ∨ (w7.heap.size ≤ k ∧ k < w8.heap.size) := fun k hk => by
    have hl := h8.lt k hk
    rcases hk with h | h
    · rcases hG8 k h with h | h
      · exact .inl (hgb k h)
      · exact .inr ⟨h, hl⟩
    · exact .inr ⟨hF8 k h, hl⟩
  have n9 : ∀ k, G9 k ∨ F9 k → (w5.heap.size ≤ k ∧ k < w6.heap.size) ∨ (w8.heap.size ≤ k ∧ k < w9.heap.size) := fun k hk => by
    have hl := h9.lt k hk
    rcases hk with h | h
    · rcases hG9 k h with h | h
      · exact .inl (hgc k h)
      · exact .inr ⟨h, hl⟩
    · exact .inr ⟨hF9 k h, hl⟩
  refine ⟨?_, ?_, h9, fun k ha hb => ?_, fun k ha hb => ?_, fun k ha hb => ?_, fun k ha => ?_, fun k ha => ?_, fun k ha => ?_, ?_⟩
  · have h7' : JlIn w8 G7 F7 ja da J := h7.keep s8 fun b hb => hk8.block b (h7.lt b hb) (fun hg => by have := n7 b hb; have := hgb b hg; omega)
    exact h7'.keep s9 fun b hb => hk9.block b (h7'.lt b hb) (fun hg => by have := n7 b hb; have := hgc b hg; omega)
  · exact h8.keep s9 fun b hb => hk9.block b (h8.lt b hb) (fun hg => by have := n8 b hb; have := hgc b hg; omega)
  · have := n7 k ha; have := n8 k hb; omega
  · have := n7 k ha; have := n9 k hb; omega
  · have := n8 k ha; have := n9 k hb; omega
  · have := n7 k ha; show w.heap.size ≤ k; omega
  · have := n8 k ha; show w.heap.size ≤ k; omega
  · have := n9 k ha; show w.heap.size ≤ k; omega
  · have b6 : Below w.heap.size w w6 := (hb0.trans (hb5.mono s4)).trans (hb6.mono (by omega))
    have b7 := b6.trans (hk7.below (by omega) (fun k hk hg => by have := hga k hg; omega))
    have b8 := b7.trans (hk8.below (B := w.heap.size) (by omega) (fun k hk hg => by have := hgb k hg; omega))
    exact b8.trans (hk9.below (by omega) (fun k hk hg => by have := hgc k hg; omega))
/-! ### the plain side -/
theorem Jl.app_fine {j : Jl} (h : j.Fine) (ds : List Ev) (hm : ds.all mayB = true) (hn : j.es.length + ds.length ≤ 100) :
    j.app ds = j.puts ds ∧ j.appN ds = j.es.length ∧ j.appE ds = 0 ∧ (j.puts ds).Fine ∧ (j.puts ds).es = j.es ++ ds.map some := by
  have hl : ∀ e ∈ ds, (encE e).length ≤ 1229 := fun e he => (mayB_fit (List.all_eq_true.1 hm e he)).len
  obtain ⟨h1, h2, h3, _⟩ := Jl.Fine.puts ds h hn hl
  unfold Jl.app Jl.appN Jl.appE
  simp only [h.free, ne_eq, not_true_eq_false, if_false, hm, if_true]
  exact ⟨trivial, trivial, h2, h1, h3⟩
theorem Jl.Inv.puts (l : List Ev) : ∀ {j : Jl}, j.Inv → j.Fine → j.es.length + l.length ≤ 100 → (∀ e ∈ l, (encE e).length ≤ 1229) → (j.puts l).Inv := by
  induction l with
  | nil => intro j h _ _ _; exact h
  | cons e l ih =>
    intro j h hf hn hl
    simp only [List.length_cons] at hn
    have h2 := hf.put (by omega) (some e) (hl e (by simp))
    have h0 : ¬ j.putE (some e) ≠ 0 := by simp [h2.2.1]
    simp only [Jl.puts, if_neg h0]
    exact ih (h.put hf (by omega) (some e) (hl e (by simp))).1 h2.1 (by rw [h2.2.2.1]; simp; omega) (fun x hx => hl x (by simp [hx]))
theorem Jl.Inv.names {j : Jl} (h : j.Inv) (hf : j.Fine) (hn : j.es.length < 99) : ∀ s ∈ j.dk.files.map (·.1), s.length ≤ 1000 := by
  intro s hs
  obtain ⟨p, hp, rfl⟩ := List.mem_map.1 hs
  obtain ⟨k, hk, e⟩ := DInv.only h p hp
  have := hf.small
  have := (segF_len j.name (k := k) (by omega)).2
  have := hf.nm
  rw [e]; omega
end Go.Proofs.YtejjfhhppjdcaaaGreatDoor
