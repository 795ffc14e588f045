/-
  Layer 4: a file is put; file.
-/
import Derived.Test.YtejjfhhppjdcaaaGreatDoorBDk3
namespace Go.Proofs.YtejjfhhppjdcaaaGreatDoor
open Go.RowKit Go.Maps Go.Sort

theorem rowUp_same {α : Type} {a b : Row α} (ha : RowUp a) (hb : RowUp b) (h : ∀ p, p ∈ a ↔ p ∈ b) : a = b := by
  have key : ∀ m : Row α, RowUp m → m.Nodup := fun m hm => hm.imp fun {x y} hxy e => by rw [e, bb_irrefl] at hxy; cases hxy
  refine List.Perm.eq_of_pairwise (le := fun (x y : List UInt8 × α) => bytesBefore x.1 y.1 = true) (fun x y _ _ h1 h2 => ?_) ha hb ((List.perm_ext_iff_of_nodup (key a ha) (key b hb)).2 h)
  have := bb_trans h1 h2
  rw [bb_irrefl] at this; cases this
theorem RowUp.mapv {α β : Type} {m : Row α} (h : RowUp m) (f : List UInt8 → β) : RowUp (m.map fun p => (p.1, f p.1)) := List.pairwise_map.2 h
section
variable {w w' : World} {G : Nat → Prop} {bd bm : Nat} {d : Dk} {B : List UInt8 → Nat} {V : List UInt8 → Value}
/-- a map to places does not turn if a file that is there is put -/
theorem map_put_here {m : Row Fl} (h : RowUp m) {s : List UInt8} {f : Fl} (f' : Fl) (hf : getB m s = some f) (g : List UInt8 → Value) : (putB s f' m).map (fun p => (p.1, g p.1)) = m.map fun p => (p.1, g p.1) := by
  refine rowUp_same ((putB_rising h s f').mapv g) (h.mapv g) fun p => ?_
  simp only [List.mem_map]
  constructor
  · rintro ⟨q, hq, rfl⟩
    rcases putB_mem.1 hq with rfl | ⟨hq, _⟩
    · exact ⟨_, getB_mem hf, rfl⟩
    · exact ⟨q, hq, rfl⟩
  · rintro ⟨q, hq, rfl⟩
    by_cases e : q.1 = s
    · exact ⟨(s, f'), putB_mem.2 (.inl rfl), by rw [← e]⟩
    · exact ⟨q, putB_mem.2 (.inr ⟨hq, e⟩), rfl⟩
theorem map_put_new {m : Row Fl} (h : RowUp m) (s : List UInt8) (f : Fl) (g g' : List UInt8 → Value) (hg : ∀ t, t ≠ s → g' t = g t) : (putB s f m).map (fun p => (p.1, g' p.1)) = putB s (g' s) (m.map fun p => (p.1, g p.1)) := by
  refine rowUp_same ((putB_rising h s f).mapv g') (putB_rising (h.mapv g) _ _) fun p => ?_
  rw [putB_mem]
  simp only [List.mem_map]
  constructor
  · rintro ⟨q, hq, rfl⟩
    rcases putB_mem.1 hq with rfl | ⟨hq, hne⟩
    · exact .inl rfl
    · exact .inr ⟨⟨q, hq, by rw [hg _ hne]⟩, hne⟩
  · rintro (rfl | ⟨⟨q, hq, rfl⟩, hne⟩)
    · exact ⟨(s, f), putB_mem.2 (.inl rfl), rfl⟩
    · exact ⟨q, putB_mem.2 (.inr ⟨hq, hne⟩), by rw [hg _ hne]⟩
theorem DkAt.set (h : DkAt w G bd bm d B V) (s : List UInt8) (f' : Fl) (v' : Value) (bf : Nat) (d' : Dk) (hd : d'.files = putB s f' d.files) (hblk : w'.heap[bd]? = some (dkObj bm d'))
    (hmap : MapS w' bm ((putB s f' d.files).map fun p => (p.1, .pointer (some ⟨(fun t => if t = s then bf else B t) p.1, 0, none⟩))))
    (hfl : w'.heap[bf]? = some (flObj v' f')) (hown : OwnB w' 0 v' f'.data) (hsz : w.heap.size ≤ w'.heap.size)
    (hk : ∀ b, G b → b ≠ bd → b ≠ bm → (∀ x, getB d.files s = some x → b ≠ B s ∧ (V s).ownBlock ≠ some b) → w'.heap[b]? = w.heap[b]?)
    (hbf : (∃ x, getB d.files s = some x ∧ bf = B s) ∨ w.heap.size ≤ bf)
    (hv : ∀ b, v'.ownBlock = some b → (∃ x, getB d.files s = some x ∧ (V s).ownBlock = some b) ∨ (w.heap.size ≤ b ∧ b ≠ bf)) :
    DkAt w' (fun b => G b ∨ b = bf ∨ v'.ownBlock = some b) bd bm d' (fun t => if t = s then bf else B t) (fun t => if t = s then v' else V t) := by
  have hbl : ∀ p ∈ d.files, B p.1 < w.heap.size := fun p hp => h.lt _ (h.gB p hp)
  have hvl : ∀ p ∈ d.files, ∀ b, (V p.1).ownBlock = some b → b < w.heap.size := fun p hp b hb => h.lt _ (h.gV p hp b hb)
  have hdl := h.lt _ h.gd
  have hml := h.lt _ h.gm
  -- the place of another file is no part of this one
  have oB : ∀ p ∈ d.files, p.1 ≠ s → B p.1 ≠ bf ∧ ∀ b, v'.ownBlock = some b → B p.1 ≠ b := fun p hp hne => by
    have := hbl p hp
    refine ⟨?_, fun b hb => ?_⟩
    · rcases hbf with ⟨x, hx, rfl⟩ | hbf
      · exact h.apB p hp _ (getB_mem hx) hne
      · omega
    · rcases hv b hb with ⟨x, hx, e⟩ | ⟨e, _⟩
      · exact Ne.symm ((h.nV _ (getB_mem hx) b e).2.2 p hp)
      · omega
  have oV : ∀ p ∈ d.files, p.1 ≠ s → ∀ b, (V p.1).ownBlock = some b → b ≠ bf ∧ v'.ownBlock ≠ some b := fun p hp hne b hb => by
    have := hvl p hp b hb
    refine ⟨?_, fun hb' => ?_⟩
    · rcases hbf with ⟨x, hx, rfl⟩ | hbf
      · exact (h.nV p hp b hb).2.2 _ (getB_mem hx)
      · omega
    · rcases hv b hb' with ⟨x, hx, e⟩ | ⟨e, _⟩
      · exact h.apV p hp _ (getB_mem hx) hne b hb e
      · omega
  have kB : ∀ p ∈ d.files, p.1 ≠ s → w'.heap[B p.1]? = w.heap[B p.1]? := fun p hp hne => hk _ (h.gB p hp) (h.nB p hp).1 (h.nB p hp).2 fun x hx => ⟨h.apB p hp _ (getB_mem hx) hne, fun e => (h.nV _ (getB_mem hx) _ e).2.2 p hp rfl⟩
  have kV : ∀ p ∈ d.files, p.1 ≠ s → ∀ b, (V p.1).ownBlock = some b → w'.heap[b]? = w.heap[b]? := fun p hp hne b hb => hk _ (h.gV p hp b hb) (h.nV p hp b hb).1 (h.nV p hp b hb).2.1 fun x hx => ⟨(h.nV p hp b hb).2.2 _ (getB_mem hx), fun e => h.apV p hp _ (getB_mem hx) hne b hb e⟩
  have bfn : bf ≠ bd ∧ bf ≠ bm := by
    rcases hbf with ⟨x, hx, rfl⟩ | hbf
    · exact h.nB _ (getB_mem hx)
    · exact ⟨by omega, by omega⟩
  have vn : ∀ b, v'.ownBlock = some b → b ≠ bd ∧ b ≠ bm ∧ b ≠ bf := fun b hb => by
    rcases hv b hb with ⟨x, hx, e⟩ | ⟨e, e'⟩
    · have := h.nV _ (getB_mem hx) b e
      refine ⟨this.1, this.2.1, ?_⟩
      rcases hbf with ⟨x', hx', rfl⟩ | hbf
      · exact this.2.2 _ (getB_mem hx')
      · have := hvl _ (getB_mem hx) b e; omega
    · exact ⟨by omega, by omega, e'⟩
  refine ⟨hblk, by rw [hd]; exact hmap, ?_, ?_, ?_, ?_, .inl h.gd, .inl h.gm, ?_, ?_, ?_, hd ▸ putB_rising h.up _ _, h.nm, ?_, ?_⟩
  · rw [hd]; intro p hp
    rcases putB_mem.1 hp with rfl | ⟨hp, hne⟩
    · simpa using hfl
    · simpa [hne] using (kB p hp hne).trans (h.fl p hp)
  · rw [hd]; intro p hp
    rcases putB_mem.1 hp with rfl | ⟨hp, hne⟩
    · simpa using hown
    · simpa [hne] using (h.own p hp).keepB (kV p hp hne)
  · rw [hd]; intro p hp q hq hpq
    rcases putB_mem.1 hp with rfl | ⟨hp, hne⟩ <;> rcases putB_mem.1 hq with rfl | ⟨hq, hne'⟩
    · exact absurd rfl hpq
    · simpa [hne'] using (oB q hq hne').1.symm
    · simpa [hne] using (oB p hp hne).1
    · simpa [hne, hne'] using h.apB p hp q hq hpq
  · rw [hd]; intro p hp q hq hpq b hb
    rcases putB_mem.1 hp with rfl | ⟨hp, hne⟩ <;> rcases putB_mem.1 hq with rfl | ⟨hq, hne'⟩
    · exact absurd rfl hpq
    · simp only [hne', if_true, if_false] at hb ⊢; exact fun e => (oV q hq hne' b e).2 hb
    · simp only [hne, if_true, if_false] at hb ⊢; exact (oV p hp hne b hb).2
    · simp only [hne, hne', if_false] at hb ⊢; exact h.apV p hp q hq hpq b hb
  · rw [hd]; intro p hp
    rcases putB_mem.1 hp with rfl | ⟨hp, hne⟩
    · simp
    · simp only [hne, if_false]; exact .inl (h.gB p hp)
  · rw [hd]; intro p hp b hb
    rcases putB_mem.1 hp with rfl | ⟨hp, hne⟩
    · simp only [if_true] at hb; exact .inr (.inr hb)
    · simp only [hne, if_false] at hb; exact .inl (h.gV p hp b hb)
  · rintro b (hb | rfl | hb)
    · exact Nat.lt_of_lt_of_le (h.lt b hb) hsz
    · exact (Array.getElem?_eq_some_iff.1 hfl).1
    · exact (World.ownsRow.lt hown b hb).2
  · rw [hd]; intro p hp
    rcases putB_mem.1 hp with rfl | ⟨hp, hne⟩
    · simpa using bfn
    · simpa [hne] using h.nB p hp
  · rw [hd]; intro p hp b hb
    rcases putB_mem.1 hp with rfl | ⟨hp, hne⟩
    · simp only [if_true] at hb
      refine ⟨(vn b hb).1, (vn b hb).2.1, fun q hq => ?_⟩
      rcases putB_mem.1 hq with rfl | ⟨hq, hne'⟩
      · simpa using (vn b hb).2.2
      · simpa [hne'] using ((oB q hq hne').2 b hb).symm
    · simp only [hne, if_false] at hb
      refine ⟨(h.nV p hp b hb).1, (h.nV p hp b hb).2.1, fun q hq => ?_⟩
      rcases putB_mem.1 hq with rfl | ⟨hq, hne'⟩
      · simpa using (oV p hp hne b hb).1
      · simpa [hne'] using (h.nV p hp b hb).2.2 q hq
end
/-- what file leaves: a file that wasn't there is there -/
def Dk.made (d : Dk) (s : List UInt8) : Dk := d.put s (d.file s)
def FilePost (w : World) (G : Nat → Prop) (bd bm : Nat) (d : Dk) (s : List UInt8) (e : Ending) (w' : World) : Prop :=
  ∃ G' B' V' f, e = .returned (.pointer (some ⟨B' s, 0, none⟩)) ∧ DkAt w' G' bd bm (d.made s) B' V' ∧ getB (d.made s).files s = some f ∧ f = d.file s ∧ (∀ b, G' b → G b ∨ w.heap.size ≤ b) ∧ Keep G w w'
set_option maxRecDepth 100000 in
theorem dkfile_any (w : World) (G : Nat → Prop) (bd bm : Nat) (d : Dk) (B : List UInt8 → Nat) (V : List UInt8 → Value) (h : DkAt w G bd bm d B V) (ho : d.Ok) (s : List UInt8) (hs : s.length ≤ 1000000) :
    Calls Tryz.prog 76 #[.pointer (some ⟨bd, 0, none⟩), .string ⟨s.toArray⟩] w (FilePost w G bd bm d s) := by
  obtain ⟨c0, c1, c2, c3, c4⟩ := h.cells
  have hl := h.look s hs
  have hn0 := ho.num
  have HH := Lib.hid h; have HO := Lib.hid ho
  have hdl := h.lt _ h.gd
  have hml := h.lt _ h.gm
  cases hg : getB d.files s with
  | some f =>
    have HR := Lib.hid (show FilePost w G bd bm d s (.returned (.pointer (some ⟨B s, 0, none⟩))) w by
      have e : d.made s = d := by
        unfold Dk.made Dk.put Dk.file
        rw [hg]
        have : putB s f d.files = d.files := rowUp_same (putB_rising h.up _ _) h.up fun p => by
          rw [putB_mem]
          constructor
          · rintro (rfl | h)
            · exact getB_mem hg
            · exact h.1
          · intro hp
            by_cases e : p.1 = s
            · left; exact h.up.key hp (getB_mem hg) e
            · exact .inr ⟨hp, e⟩
        simp only [Option.getD_some, this]
      exact ⟨G, B, V, f, rfl, by rw [e]; exact h, by rw [e]; exact hg, by unfold Dk.file; rw [hg]; rfl, fun _ h => .inl h, Keep.refl _ _⟩)
    rw [show ptrOf d B s = .pointer (some ⟨B s, 0, none⟩) by unfold ptrOf; rw [hg]; rfl, hg] at hl
    clear h hg ho
    go_enter Tryz.func76, Tryz.ntmps76
    go_wp2
    go_ret
    exact HR.out
  | none =>
    rw [show ptrOf d B s = .pointer none by unfold ptrOf; rw [hg]; rfl, hg] at hl
    have HG := Lib.hid hg
    clear h hg ho
    go_enter Tryz.func76, Tryz.ntmps76
    go_wp2_with (at_mapUpdate; refine wpList_mapS_put rfl _ _ _ _ _ rfl Tryz.underlying98 bm _ rfl (HH.out.map.block ?c1) ?c2 s rfl ?c3 _ rfl ?_)
    case c1 => exact heap_alloc_old _ _ hml
    case c2 => simp; unfold maxLen; omega
    case c3 => unfold maxLen; omega
    intro w1 hm1 hg1
    have HR := Lib.hid (show FilePost w G bd bm d s (.returned (.pointer (some ⟨w.heap.size, 0, none⟩))) w1 by
      have hfn : d.file s = Fl.none := by unfold Dk.file; rw [HG.out]; rfl
      have hs1 : w.heap.size + 1 ≤ w1.heap.size := by have := hg1.size; simpa using this
      have hk1 : ∀ b, b < w.heap.size → b ≠ bm → w1.heap[b]? = w.heap[b]? := fun b hb hne => (hg1.block b (by simp; omega) (fun e => hne (by simpa using e))).trans (heap_alloc_old _ _ hb)
      have hnb : w1.heap[w.heap.size]? = some (flObj (.slice none 0 0) Fl.none) := (hg1.block _ (by simp) (fun e => absurd (show w.heap.size = bm by simpa using e) (by omega))).trans (heap_alloc_new w _)
      have key := HH.out.set (w' := w1) s Fl.none (.slice none 0 0) w.heap.size (d.made s) (by unfold Dk.made; rw [hfn]; rfl) ((hk1 bd hdl HH.out.nm).trans HH.out.blk)
        (by
          have := map_put_new HH.out.up s Fl.none (fun t => .pointer (some ⟨B t, 0, none⟩)) (fun t => .pointer (some ⟨if t = s then w.heap.size else B t, 0, none⟩)) (fun t ht => by simp [ht])
          rw [this]; simpa using hm1)
        hnb (OwnB.nil _ _) (by omega) (fun b hb _ h2 _ => hk1 b (HH.out.lt b hb) h2) (.inr (Nat.le_refl _)) (fun b hb => by cases hb)
      refine ⟨_, _, _, Fl.none, ?_, key, ?_, hfn.symm, ?_, ?_⟩
      · simp
      · unfold Dk.made; rw [hfn]; exact getB_put_same _ _ _
      · rintro b (hb | rfl | hb)
        · exact .inl hb
        · exact .inr (Nat.le_refl _)
        · cases hb
      · exact ((Keep.refl G w).alloc _).trans (Keep.of_grown (F := fun b => b = bm) hg1 (fun k e => by simpa using e.symm)) (fun b _ e => e ▸ HH.out.gm))
    clear hm1 hg1
    go_wp2
    go_ret
    exact HR.out
end Go.Proofs.YtejjfhhppjdcaaaGreatDoor
