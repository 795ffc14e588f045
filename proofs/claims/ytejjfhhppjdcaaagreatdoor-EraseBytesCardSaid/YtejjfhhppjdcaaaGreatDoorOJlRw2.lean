/-
  Layer 5: one segment is written anew.
-/
import Derived.Test.YtejjfhhppjdcaaaGreatDoorOJlRw1
import Derived.Laws.OwnMore
namespace Go.Proofs.YtejjfhhppjdcaaaGreatDoor
open Go.RowKit Go.Maps Go.Sort

/-- an erased entry is written to a place -/
def setGone (w : World) (g o : Nat) : World :=
  ((((((((w.setCell ⟨g, o, none⟩ (.string ⟨#[]⟩)).setCell ⟨g, o + 1, none⟩ (.int .i64 0)).setCell ⟨g, o + 2, none⟩ (.int .i64 0)).setCell ⟨g, o + 3, none⟩ (.int .i64 0)).setCell ⟨g, o + 4, none⟩ (.string ⟨#[]⟩)).setCell ⟨g, o + 5, none⟩ (.string ⟨#[]⟩)).setCell ⟨g, o + 6, none⟩ (.int .i64 0)).setCell ⟨g, o + 7, none⟩ (.string ⟨#[]⟩)).setCell ⟨g, o + 8, none⟩ (.bool true)
theorem entCells_set (l : List (Option Ev)) (i : Nat) (hi : i < l.length) : entCells (l.set i none) =
    (((((((((entCells l).set (i * 9) (.string ⟨#[]⟩)).set (i * 9 + 1) (.int .i64 0)).set (i * 9 + 2) (.int .i64 0)).set (i * 9 + 3) (.int .i64 0)).set (i * 9 + 4) (.string ⟨#[]⟩)).set (i * 9 + 5) (.string ⟨#[]⟩)).set (i * 9 + 6) (.int .i64 0)).set (i * 9 + 7) (.string ⟨#[]⟩)).set (i * 9 + 8) (.bool true) := by
  induction l generalizing i with
  | nil => simp at hi
  | cons x l ih =>
    have e1 : entCells (x :: l) = entC x ++ entCells l := rfl
    cases i with
    | zero => rw [e1, entC_eq]; simp [entCells, entC, Ev.cells, Ev.zero]
    | succ i =>
      have ih' := ih i (by simpa using hi)
      have h9 := entC_length x
      have key : ∀ (R : List Value) (j : Nat) (u : Value), (entC x ++ R).set ((i + 1) * 9 + j) u = entC x ++ R.set (i * 9 + j) u := fun R j u => by
        rw [List.set_append_right _ _ (by rw [h9]; omega), h9, show (i + 1) * 9 + j - 9 = i * 9 + j by omega]
      have key0 : ∀ (R : List Value) (u : Value), (entC x ++ R).set ((i + 1) * 9) u = entC x ++ R.set (i * 9) u := fun R u => key R 0 u
      have e2 : entCells ((x :: l).set (i + 1) none) = entC x ++ entCells (l.set i none) := rfl
      rw [e2, e1, ih', key0, key, key, key, key, key, key, key, key]
theorem OwnJ.setGone {w : World} {base g n cap : Nat} {l : List (Option Ev)} (h : OwnJ w base (.slice (some ⟨g, 0, none⟩) n cap) l) (i : Nat) (hi : i < l.length) :
    OwnJ (setGone w g (i * 9)) base (.slice (some ⟨g, 0, none⟩) n cap) (l.set i none) ∧ w.grownBy (Go.Proofs.YtejjfhhppjdcaaaGreatDoor.setGone w g (i * 9)) (some g) := by
  unfold OwnJ at h ⊢
  rw [entCells_set l i hi, List.length_set]
  have hn : l.length = n := by
    rcases h.2 with ⟨e, _⟩ | ⟨g', cap', cur, e, _⟩
    · cases e
    · injection e with _ e2 _; exact e2.symm
  rw [hn] at h ⊢
  obtain ⟨h0, g0⟩ := World.ownsRow.stored h (i * 9) (.string ⟨#[]⟩)
  obtain ⟨h1, g1⟩ := World.ownsRow.stored h0 (i * 9 + 1) (.int .i64 0)
  obtain ⟨h2, g2⟩ := World.ownsRow.stored h1 (i * 9 + 2) (.int .i64 0)
  obtain ⟨h3, g3⟩ := World.ownsRow.stored h2 (i * 9 + 3) (.int .i64 0)
  obtain ⟨h4, g4⟩ := World.ownsRow.stored h3 (i * 9 + 4) (.string ⟨#[]⟩)
  obtain ⟨h5, g5⟩ := World.ownsRow.stored h4 (i * 9 + 5) (.string ⟨#[]⟩)
  obtain ⟨h6, g6⟩ := World.ownsRow.stored h5 (i * 9 + 6) (.int .i64 0)
  obtain ⟨h7, g7⟩ := World.ownsRow.stored h6 (i * 9 + 7) (.string ⟨#[]⟩)
  obtain ⟨h8, g8⟩ := World.ownsRow.stored h7 (i * 9 + 8) (.bool true)
  exact ⟨h8, (((((((g0.trans g1).trans g2).trans g3).trans g4).trans g5).trans g6).trans g7).trans g8⟩
theorem OwnJ.there {w : World} {base g n cap : Nat} {l : List (Option Ev)} (h : OwnJ w base (.slice (some ⟨g, 0, none⟩) n cap) l) (i : Nat) (hi : i < l.length) : w.there g (i * 9) 9 := fun j hj => by
  have hn : l.length = n := by
    rcases h.2 with ⟨e, _⟩ | ⟨g', cap', cur, e, _⟩
    · cases e
    · injection e with _ e2 _; exact e2.symm
  unfold OwnJ at h
  rw [hn] at h
  have hc := World.ownsRow.cellAt h (i * 9 + j) (by omega)
  exact ⟨by rw [hc, List.getElem?_eq_getElem (by rw [entCells_length]; omega)]; rfl, World.ownsRow.frozenAt h _⟩
theorem sealE_len {x : Option Ev} (h : ∀ e, x = some e → mayB e = true) : (sealE x).length ≤ 1239 := by
  unfold sealE; rw [Frm.sealB_length]
  cases x with
  | none => simp [bytesE]
  | some e => have := (mayB_fit (h e rfl)).len; simp only [bytesE]; omega
theorem bytesL_lenW : ∀ (l : List (Option Ev)), (∀ y ∈ l, ∀ e, y = some e → mayB e = true) → (bytesL l).length ≤ 1239 * l.length
  | [], _ => by simp [bytesL]
  | x :: l, h => by
    have h1 := sealE_len (h x (by simp))
    have h2 := bytesL_lenW l (fun y hy => h y (by simp [hy]))
    have e : bytesL (x :: l) = sealE x ++ bytesL l := rfl
    rw [e, List.length_append, List.length_cons]; omega
theorem Rw.keepN {I : List Ev → (Nat → Prop) → World → Prop} {fv : Value} {kb : Ev → Bool} {f : Nat} {caps : Array Value} {G F H : Nat → Prop} {bj bd bt : Nat} {v : Value} {j : Jl} {aq : List Ev} {W W' : World}
    (hk : Asker f caps kb I) (h : Rw I fv G F H bj bd bt v j aq W) (hs : W.heap.size ≤ W'.heap.size) (g : Nat) (hg : ¬ (G g ∨ F g ∨ H g)) (hb : g ≠ bt) (hm : g ≠ 1) (hh : ∀ b, b < W.heap.size → b ≠ g → W'.heap[b]? = W.heap[b]?) : Rw I fv G F H bj bd bt v j aq W' := by
  have hne : ∀ b, (G b ∨ F b ∨ H b) → b ≠ g := fun b hb e => hg (e ▸ hb)
  refine ⟨h.jl.keep hs fun b hb => hh b (hb.elim (h.jl.dk.lt b) (h.jl.lt b)) (hne b (hb.elim .inl (fun h => .inr (.inl h)))), hk.keep _ _ _ _ h.i hs fun b hb => hh b (hk.lt _ _ _ h.i b hb) (hne b (.inr (.inr hb))), ?_, ?_, h.hg, h.tg, h.ml⟩
  · exact (World.cell?_of_block (w := W) (a := ⟨bt, 0, none⟩) (hh bt h.blt (Ne.symm hb))).trans h.c
  · obtain ⟨m, hmm⟩ := h.mx
    exact ⟨m, (World.cell?_of_block (w := W) (a := ⟨1, 0, none⟩) (hh _ h.mx.lt (Ne.symm hm))).trans hmm⟩
theorem splice_take {α : Type} (cur S : List α) (a s N : Nat) (hS : S.length = s) (h1 : a + s ≤ N) (h2 : N ≤ cur.length) :
    (cur.take a ++ S ++ cur.drop (a + s)).take N = (cur.take N).take a ++ S ++ (cur.take N).drop (a + s) := by
  have h3 : (cur.take a ++ S).length = a + s := by rw [List.length_append, List.length_take, hS]; omega
  rw [List.take_take, Nat.min_eq_left (by omega), List.drop_take]
  have e : N = (cur.take a ++ S).length + (N - (a + s)) := by omega
  conv => lhs; rw [e]
  rw [List.take_length_add_append]
/-- the journal's row is written over at a segment -/
theorem OwnJ.splice {w w' : World} {base g n cap lo m : Nat} {cur : Array Value} {es seg2 : List (Option Ev)} (_hg : w.heap[g]? = some (.cells cur 109 (0, 0))) (hb : base ≤ g) (hn : es.length = n) (hcap : n ≤ cap) (hmax : cap ≤ maxLen) (hsz : cur.size = cap * 9) (ht : cur.toList.take (n * 9) = entCells es) (hm : seg2.length = m) (hlm : lo + m ≤ n)
    (hs : Spliced w w' g (lo * 9) cur 109 (entCells seg2)) : OwnJ w' base (.slice (some ⟨g, 0, none⟩) n cap) (es.take lo ++ seg2 ++ es.drop (lo + m)) := by
  have hl : (es.take lo ++ seg2 ++ es.drop (lo + m)).length = n := by simp only [List.length_append, List.length_take, List.length_drop, hm, hn]; omega
  have hel : (entCells seg2).length = m * 9 := by rw [entCells_length, hm]
  have hcl : cur.toList.length = cap * 9 := by rw [Array.length_toList, hsz]
  have hr := hs.row
  unfold OwnJ
  rw [hl]
  refine ⟨by rw [entCells_length, hl], .inr ⟨g, cap, _, rfl, hb, hr, hcap, hmax, ?_, ?_⟩⟩
  · simp only [List.size_toArray, List.length_append, List.length_take, List.length_drop, hcl, hel]; omega
  · have := splice_take cur.toList (entCells seg2) (lo * 9) (m * 9) (n * 9) hel (by omega) (by omega)
    rw [hel]
    show List.take (n * 9) _ = _
    rw [this, ht, entCells_append, entCells_append, ← entCells_takeN, ← entCells_dropN, Nat.add_mul]
/-- the disk did a deed beside the closure -/
theorem Rw.disk {I : List Ev → (Nat → Prop) → World → Prop} {fv : Value} {kb : Ev → Bool} {f : Nat} {caps : Array Value} {G F H : Nat → Prop} {bj bd bt : Nat} {v : Value} {j : Jl} {aq : List Ev} {W W' : World} {d' : Dk}
    (hk : Asker f caps kb I) (h : Rw I fv G F H bj bd bt v j aq W) (hd : DkD W G bd d' W') : ∃ G', Rw I fv G' F H bj bd bt v { j with dk := d' } aq W' ∧ (∀ b, G' b → G b ∨ W.heap.size ≤ b) ∧ Keep G W W' := by
  obtain ⟨G', hj, hG, hkp⟩ := h.jl.disk hd
  have hHl := hk.lt _ _ _ h.i
  refine ⟨G', ⟨hj, hk.keep _ _ _ _ h.i hkp.size fun b hb => hkp.block b (hHl b hb) (fun hg => h.hg b hb (.inl hg)), (hkp.cell (p := ⟨bt, 0, none⟩) h.blt (fun hg => h.tg (.inl hg))).trans h.c, h.mx.kp hkp (fun hg => h.ml (.inl hg)), fun b hb hg => ?_, fun hb => ?_, fun hb => ?_⟩, hG, hkp⟩
  · rcases hg with hg | hg
    · rcases hG b hg with h' | h'
      · exact h.hg b hb (.inl h')
      · have := hHl b hb; omega
    · exact h.hg b hb (.inr hg)
  · rcases hb with hb | hb
    · rcases hG _ hb with h' | h'
      · exact h.tg (.inl h')
      · have := h.blt; omega
    · exact h.tg (.inr hb)
  · rcases hb with hb | hb
    · rcases hG _ hb with h' | h'
      · exact h.ml (.inl h')
      · have := h.mx.lt; omega
    · exact h.ml (.inr hb)
/-- the journal's own blocks are written -/
theorem Rw.own {I : List Ev → (Nat → Prop) → World → Prop} {fv : Value} {kb : Ev → Bool} {f : Nat} {caps : Array Value} {G F H : Nat → Prop} {bj bd bt : Nat} {v : Value} {j j' : Jl} {aq : List Ev} {W W' : World}
    (hk : Asker f caps kb I) (h : Rw I fv G F H bj bd bt v j aq W) (hj : JlAt W' G F bj bd v j') (hkp : Keep F W W') : Rw I fv G F H bj bd bt v j' aq W' := by
  have hHl := hk.lt _ _ _ h.i
  exact ⟨hj, hk.keep _ _ _ _ h.i hkp.size fun b hb => hkp.block b (hHl b hb) (fun hg => h.hg b hb (.inr hg)), (hkp.cell (p := ⟨bt, 0, none⟩) h.blt (fun hg => h.tg (.inr (.inl hg)))).trans h.c, h.mx.kp hkp (fun hg => h.ml (.inr (.inl hg))), h.hg, h.tg, h.ml⟩
def RwRel1 (I : List Ev → (Nat → Prop) → World → Prop) (fv : Value) (kb : Ev → Bool) (G F H : Nat → Prop) (bj bd bt gs : Nat) (v : Value) (j : Jl) (aq : List Ev) (w : World) (seg : List (Option Ev)) (c i : Value) (wr : World) : Prop :=
  ∃ (q : Nat) (H' : Nat → Prop), i = .int .i64 q ∧ q ≤ seg.length ∧ c = .int .i64 (cntE kb (seg.take q)) ∧ OwnJ wr w.heap.size (.slice (some ⟨gs, 0, none⟩) seg.length seg.length) ((seg.take q).map (erE kb) ++ seg.drop q) ∧ Rw I fv G F H' bj bd bt v j (aq ++ rdEv (seg.take q)) wr ∧ (∀ b, H' b → H b ∨ w.heap.size ≤ b) ∧ ¬ H' gs ∧ Keep (fun b => G b ∨ F b ∨ H b) w wr
def RwF (I : List Ev → (Nat → Prop) → World → Prop) (fv : Value) (G F H H' : Nat → Prop) (bj bd bt gs : Nat) (v : Value) (j : Jl) (aq : List Ev) (w : World) (seg2 : List (Option Ev)) (w9 : World) : Prop :=
  ∃ G9, Rw I fv G9 F H' bj bd bt v j aq w9 ∧ OwnJ w9 w.heap.size (.slice (some ⟨gs, 0, none⟩) seg2.length seg2.length) seg2 ∧ (∀ b, G9 b → G b ∨ w.heap.size ≤ b) ∧ Keep (fun b => G b ∨ F b ∨ H b) w w9
def RwRel2 (I : List Ev → (Nat → Prop) → World → Prop) (fv : Value) (G F H : Nat → Prop) (bj bd bt gs : Nat) (v : Value) (j : Jl) (aq : List Ev) (w w4 : World) (seg2 : List (Option Ev)) (b i : Value) (wr : World) : Prop :=
  ∃ q : Nat, i = .int .i64 q ∧ q ≤ seg2.length ∧ OwnB wr w4.heap.size b (bytesL (seg2.take q)) ∧ Rw I fv G F H bj bd bt v j aq wr ∧ OwnJ wr w.heap.size (.slice (some ⟨gs, 0, none⟩) seg2.length seg2.length) seg2 ∧ Below w4.heap.size w4 wr
section
variable {I : List Ev → (Nat → Prop) → World → Prop} {fv : Value} {kb : Ev → Bool} {f : Nat} {caps : Array Value} {G F H : Nat → Prop} {bj bd bt : Nat} {v : Value} {j : Jl} {aq : List Ev} {w : World}
def Rw1Post (I : List Ev → (Nat → Prop) → World → Prop) (fv : Value) (G F H : Nat → Prop) (bj bd bt : Nat) (j' : Jl) (aq : List Ev) (w : World) (n er : Int) (r : Ending) (w' : World) : Prop :=
  r = .returned (.tuple #[.int .i64 n, .int .i64 er]) ∧ ∃ G' F' H' v', Rw I fv G' F' H' bj bd bt v' j' aq w' ∧ j'.Ok ∧ (∀ b, G' b → G b ∨ w.heap.size ≤ b) ∧ (∀ b, F' b → F b ∨ w.heap.size ≤ b) ∧ (∀ b, H' b → H b ∨ w.heap.size ≤ b) ∧ Keep (fun b => G b ∨ F b ∨ H b) w w'
set_option maxRecDepth 100000 in
set_option maxHeartbeats 4000000 in
theorem jlrew1_any (hk : Asker f caps kb I) (hfv : fv = .func (.func f) #[] caps) (h : Rw I fv G F H bj bd bt v j aq w) (ho : j.Ok) (k : Nat) (hkn : k * j.per < j.es.length) (hn : j.es.length ≤ 99) (haq : aq.length ≤ 800) :
    Calls Tryz.prog 82 #[.pointer (some ⟨bj, 0, none⟩), .int .i64 k, .func (.func 81) #[] #[.pointer (some ⟨bt, 0, none⟩)]] w
      (Rw1Post I fv G F H bj bd bt (j.rew1 kb k) (aq ++ rdEv (segL j.per k j.es)) w (j.rew1N kb k) (j.rew1E kb k)) := by
  have hcall : ∀ (args : Array Value) (w : World), (callFunc 81 args).run Tryz.prog w = .ok (.enter 81 args) w := fun _ _ => by kernel_rfl
  have HFV := Lib.hid hfv
  have HAQ := Lib.hid haq
  clear hfv haq
  have HK := Lib.hid hk; have HR := Lib.hid h; have HO := Lib.hid ho
  obtain ⟨c0, c1, c2, c3, c4, c5, c6⟩ := h.jl.cells
  have hp1 := ho.per1
  have hp2 := ho.per2
  obtain ⟨n, hnn⟩ : ∃ n, j.es.length = n := ⟨_, rfl⟩
  obtain ⟨p, hpp⟩ : ∃ p, j.per = p := ⟨_, rfl⟩
  rw [hpp] at hkn hp1 hp2 c2
  rw [hnn] at hkn hn
  obtain ⟨g, cap, cur, hv, hgb, hgl, hgs⟩ : ∃ g cap cur, v = .slice (some ⟨g, 0, none⟩) n cap ∧ w.heap[g]? = some (.cells cur 109 (0, 0)) ∧ cur.toList.take (n * 9) = entCells j.es ∧ (n ≤ cap ∧ cap ≤ maxLen ∧ cur.size = cap * 9) := by
    rcases h.jl.own.2 with ⟨_, h0⟩ | ⟨g, cap, cur, e, _, hg, h1, h2, h3, h4⟩
    · omega
    · rw [hnn] at e h1 h4; exact ⟨g, cap, cur, e, hg, h4, h1, h2, h3⟩
  rw [hv] at c4
  have HN := Lib.hid hnn; have HP := Lib.hid hpp; have HV := Lib.hid hv; have HGB := Lib.hid hgb; have HGL := Lib.hid hgl; have HGS := Lib.hid hgs
  obtain ⟨lo, hlo⟩ : ∃ lo, lo = k * p := ⟨_, rfl⟩
  obtain ⟨m, hm⟩ : ∃ m, m = min (lo + p) n - lo := ⟨_, rfl⟩
  rw [← hlo] at hkn
  have hm1 : 1 ≤ m := by omega
  have hmn : lo + m ≤ n := by omega
  have HSEG := Lib.hid (show (segL j.per k j.es) = (j.es.drop lo).take m from by
    rw [hpp]; unfold segL; rw [← hlo]
    rcases Nat.lt_or_ge (lo + p) n with h1 | h1
    · rw [show m = p by omega]
    · rw [List.take_of_length_le (by simp [hnn]; omega), List.take_of_length_le (by simp [hnn]; omega)])
  have hmul : ((k : Int) * (p : Int)) = (lo : Int) := by rw [hlo]; exact (Int.natCast_mul k p).symm
  have hmi : min ((lo : Int) + p) n = ((lo + m : Nat) : Int) := by omega
  have hcl : cap ≠ lo := by have := hgs.1; omega
  have HLO := Lib.hid hlo; have HM0 := Lib.hid hm
  have hme : min ((lo : Int) + p) n - lo = (m : Int) := by omega
  have hw1 : wrap64 (lo : Int) = lo := by unfold wrap64; omega
  clear h ho hk hnn hpp hv hgb hgl hgs c0 c1 c3 c5 c6 hlo hm
  go_enter Tryz.func82, Tryz.ntmps82
  go_wp2
  go_quiet (fail)
  have HR0 := Lib.hid (HR.out.up HK.out (below_drewN (Below.refl _ _) nq))
  have HB0 := Lib.hid (show Below w.heap.size w (w.drewN nq) from below_drewN (Below.refl _ _) nq)
  have d4 : (w.drewN nq).cell? ⟨bj, 4, none⟩ = some (.slice (some ⟨g, 0, none⟩) n cap) := c4
  have HGB0 := Lib.hid (show (w.drewN nq).heap[g]? = some (.cells cur 109 (0, 0)) from HGB.out)
  generalize w.drewN nq = w0 at *
  have hgb0 := HGB0.out
  obtain ⟨i0, hi, hz0, hz1, hz2⟩ := info_parts ent_info
  have HI := Lib.hid hi; have HZ0 := Lib.hid hz0; have HZ1 := Lib.hid hz1; have HZ2 := Lib.hid hz2
  clear hi hz0 hz1 hz2 hgb0
  go_wp2_with (at_make; refine wpList_make_full _ rfl _ _ 101 rfl w.heap.size 109 i0 _ 9 Tryz.underlying101 HI.out HZ0.out HZ1.out _ _ _ _ m rfl rfl ?c1 ?c2 ?c3 ?c4 ?c5 ?_)
  case c1 => omega
  case c2 => omega
  case c3 => rw [HZ2.out]; omega
  case c4 => unfold maxLen; omega
  case c5 => exact HB0.out.size
  intro w1 how1 hg1
  have hgs1 : w0.heap.size < w1.heap.size := (how1.lt _ rfl).2
  have hb1 : Below w0.heap.size w0 w1 := Below.grown (Below.refl _ _) hg1 (Nat.le_refl _) (by simp)
  have HR1 := Lib.hid (HR0.out.up HK.out hb1)
  have HB1 := Lib.hid (HB0.out.trans (hb1.mono HB0.out.size))
  have hglt : g < w0.heap.size := (Array.getElem?_eq_some_iff.1 HGB0.out).1
  have HGB1 := Lib.hid (show w1.heap[g]? = some (.cells cur 109 (0, 0)) from (hb1.block g hglt).trans HGB0.out)
  have e4 : w1.cell? ⟨bj, 4, none⟩ = some (.slice (some ⟨g, 0, none⟩) n cap) := (hb1.cell (p := ⟨bj, 4, none⟩) (World.block_lt_of_cell? w0 ⟨bj, 4, none⟩ d4)).trans d4
  obtain ⟨curs, hcs1, hcs2⟩ : ∃ curs : Array Value, w1.heap[w0.heap.size]? = some (.cells curs 109 (0, 0)) ∧ curs.size = m * 9 := by
    rcases how1.2 with ⟨e, _⟩ | ⟨g', cap', cur', e, _, hg', _, _, hs', _⟩
    · cases e
    · injection e with e1 e2 e3
      injection e1 with e1; injection e1 with e1
      subst e1 e3
      exact ⟨cur', hg', hs'⟩
  have HCS1 := Lib.hid hcs1; have HCS2 := Lib.hid hcs2
  clear how1 hg1 hb1 d4 c4 hcs1 hcs2
  obtain ⟨seg, hseg⟩ : ∃ seg, seg = (j.es.drop lo).take m := ⟨_, rfl⟩
  have hsl : seg.length = m := by rw [hseg]; simp [HN.out]; omega
  have hsc : entCells seg = ((entCells j.es).drop (lo * 9)).take (m * 9) := by rw [hseg, ← entCells_takeN, ← entCells_dropN]
  rw [← hseg] at HSEG
  have HSC := Lib.hid (show (entCells seg).length = m * 9 ∧ ∀ i u, (entCells seg)[i]? = some u → w1.cell? ((⟨g, lo * 9, none⟩ : Addr).add i) = some u from by
    refine ⟨by rw [entCells_length, hsl], fun i u hu => ?_⟩
    have e : (⟨g, lo * 9, none⟩ : Addr).add i = ⟨g, lo * 9 + i, none⟩ := by unfold Addr.add; split <;> simp_all
    rw [e, cell_of_row w1 g _ _ _ (0, 0) HGB1.out]
    have hi : i < m * 9 := by
      have := (List.getElem?_eq_some_iff.1 hu).1; rw [entCells_length, hsl] at this; exact this
    rw [hsc, List.getElem?_take_of_lt hi, List.getElem?_drop, ← HGL.out, List.getElem?_take_of_lt (by omega)] at hu
    simpa using hu)
  have HSL := Lib.hid hsl
  clear hseg hsl hsc
  have hcap := HGS.out.1
  have t1 : lo + m ≤ cap := by omega
  have HES := Lib.hid (show (Tryz.prog.info? 109).map (·.size) = some 9 by rw [HI.out]; exact congrArg some HZ1.out)
  obtain ⟨w2, hrun2, hsp⟩ : ∃ w2, (Builtin.copy_ #[101, 101] 3 #[.slice (some ⟨w0.heap.size, 0, none⟩) m m, .slice (some ⟨g, lo * 9, none⟩) m (cap - lo)]).run Tryz.prog w1 = .ok (goInt m) w2 ∧ Spliced w1 w2 w0.heap.size 0 curs 109 (entCells seg) :=
    ⟨_, run_copy_k (P := Tryz.prog) w1 _ _ _ 109 9 w0.heap.size 0 m m ⟨g, lo * 9, none⟩ m (cap - lo) curs _ (entCells seg) m Tryz.underlying101 HES.out HCS1.out (by simp) HSC.out.1 HSC.out.2 (by rw [HSC.out.1, HCS2.out]; omega) (fun u hu => by obtain ⟨x, _, hx⟩ := List.mem_flatMap.1 hu; exact entC_one x u hx), spliced_setRow w1 _ _ _ _ _ HCS1.out⟩
  have hrow2 : w2.heap[w0.heap.size]? = some (.cells (entCells seg).toArray 109 (0, 0)) := by
    have := hsp.row
    rw [List.take_zero, List.nil_append, Nat.zero_add, List.drop_eq_nil_of_le (by rw [HSC.out.1, Array.length_toList, HCS2.out]; exact Nat.le_refl _), List.append_nil] at this
    exact this
  have HSEGL := Lib.hid (show seg.length = m from HSL.out)
  have how2 : OwnJ w2 w.heap.size (.slice (some ⟨w0.heap.size, 0, none⟩) seg.length seg.length) seg := by
    refine ⟨by rw [entCells_length], .inr ⟨w0.heap.size, seg.length, _, rfl, HB0.out.size, hrow2, Nat.le_refl _, by rw [HSL.out]; unfold maxLen; omega, ?_, ?_⟩⟩
    · simp [entCells_length]
    · exact List.take_of_length_le (by rw [entCells_length]; exact Nat.le_refl _)
  have HSP := Lib.hid hsp; have HOW2 := Lib.hid how2
  clear hsp how2 hrow2
  go_upto_region 5 with fail
  have hglt2 : ∀ b, (G b ∨ F b ∨ H b) → b < w.heap.size := fun b hb => by
    rcases hb with hb | hb | hb
    · exact HR.out.jl.dk.lt b hb
    · exact HR.out.jl.lt b hb
    · exact HK.out.lt _ _ _ HR.out.i b hb
  have HGL2 := Lib.hid hglt2
  have hs0 := HB0.out.size
  have hs1 := HB1.out.size
  have hbt := HR.out.blt
  have hml := HR.out.mx.lt
  have HR2 := Lib.hid (show Rw I fv G F H bj bd bt v j aq w2 from HR1.out.keepN HK.out (by rw [HSP.out.size]; exact Nat.le_refl _) w0.heap.size (fun h => by have := hglt2 _ h; omega) (by omega) (by omega) (fun b hb hne => HSP.out.grown.block b hb (fun e => hne (Option.some.inj e))))
  have HK2 := Lib.hid (show Keep (fun b => G b ∨ F b ∨ H b) w w2 from (Keep.of_below (F := fun b => G b ∨ F b ∨ H b) HB1.out).trans (Keep.of_grown (F := fun b => b = w0.heap.size) HSP.out.grown (fun k e => (Option.some.inj e).symm)) (fun b hb e => by omega))
  have hgs0 : w.heap.size ≤ w0.heap.size := hs0
  have hgs2 : w0.heap.size < w2.heap.size := by rw [HSP.out.size]; exact hgs1
  clear HR0 HB0 HGB0 HR1 HB1 HGB1 HCS1 HCS2 HSC HSP HES hrun2 e4 hglt2 hs0 hs1 hgs1 hglt hmi hme hw1 hmul c2
  generalize w0.heap.size = gs at *
  have HST := Lib.hid (show RwRel1 I fv kb G F H bj bd bt gs v j aq w seg (.int .i64 0) (.int .i64 ((0 : Nat) : Int)) w2 from ⟨0, H, rfl, Nat.zero_le _, rfl, by simpa using HOW2.out, by simpa [rdEv] using HR2.out, fun b h => .inl h, fun h => by have := HGL2.out gs (.inr (.inr h)); omega, HK2.out⟩)
  have hslm := HSL.out
  go_wp2
  rw [Nat.add_sub_cancel_left]
  go_loopw [11, 51] (fun c i wr => RwRel1 I fv kb G F H bj bd bt gs v j aq w seg c i wr) (fun _ i _ => m - (intOf i).toNat)
  case atStart => exact HST.out
  case round =>
    obtain ⟨q, H', rfl, hq, rfl, how, hrw, hH, hngs, hkp⟩ := hrel
    have HOW := Lib.hid how; have HRW := Lib.hid hrw; have HH := Lib.hid hH; have HNG := Lib.hid hngs; have HKP := Lib.hid hkp
    clear how hrw hH hngs hkp
    by_cases hqn : q < m
    · have hql : q < seg.length := by omega
      have hLl : ((seg.take q).map (erE kb) ++ seg.drop q).length = m := by rw [List.length_append, List.length_map, List.length_take, List.length_drop]; omega
      have hLq : ((seg.take q).map (erE kb) ++ seg.drop q)[q]'(by rw [hLl]; exact hqn) = seg[q] := by
        rw [List.getElem_append_right (by rw [List.length_map, List.length_take]; omega)]
        simp only [List.length_map, List.length_take, List.getElem_drop]
        congr 1; omega
      have hen : Ents wr wr.heap.size (some ⟨gs, 0, none⟩) seg.length seg.length ((seg.take q).map (erE kb) ++ seg.drop q) := by
        have := HOW.out
        unfold OwnJ at this
        rw [hLl, ← hslm] at this
        exact Cel.of_own this
      obtain ⟨b', off', ee, hb', hd'⟩ := hen.at_ q (by rw [hLl]; exact hqn)
      injection ee with ee; injection ee with ee1 ee2
      subst ee1 ee2
      rw [hLq, Nat.zero_add] at hd'
      obtain ⟨e0, e1, e2, e3, e4, e5, e6, e7, e8⟩ := hd'
      have hmx : ∀ e, seg[q] = some e → mayB e = true := fun e he => HO.out.may e (by
        have h1 : some e ∈ segL j.per k j.es := by rw [HSEG.out, ← he]; exact List.getElem_mem hql
        unfold segL at h1
        exact List.mem_of_mem_drop (List.mem_of_mem_take h1))
      have HTK := Lib.hid (show seg.take (q + 1) = seg.take q ++ [seg[q]] by rw [List.take_add_one, List.getElem?_eq_getElem hql, Option.toList_some])
      have HDR := Lib.hid (show seg.drop q = seg[q] :: seg.drop (q + 1) from List.drop_eq_getElem_cons hql)
      have hbA : Below wr.heap.size wr (wr.alloc (entObj seg[q])) := (Below.refl _ _).alloc (Nat.le_refl _) _
      have HBA := Lib.hid hbA
      have HGO := Lib.hid (goes_any HK.out HFV.out (HRW.out.up HK.out hbA) (by
        have h1 := rdEv_le (seg.take q)
        have h2 := HAQ.out
        rw [List.length_take] at h1
        rw [List.length_append]; omega) seg[q] hmx)
      have hin := EntIn.new wr seg[q]
      generalize seg[q] = x at *
      clear hbA hmx hen hLq
      obtain ⟨f0, f1, f2, f3, f4, f5, f6, f7, f8⟩ := hin
      have t2 : (q : Int) < m := by omega
      have hgsr : gs < wr.heap.size := (World.ownsRow.lt HOW.out gs rfl).2
      go_wp2_with fail
      with_reducible refine HGO.out.mono ?_
      rintro r w3 ⟨rfl, H3, hrw3, hH3, hk3⟩
      have hg3 : w3.heap[gs]? = wr.heap[gs]? := (hk3.block gs (by simp; omega) HNG.out).trans (heap_alloc_old _ _ hgsr)
      have HOW3 := Lib.hid (show OwnJ w3 w.heap.size (.slice (some ⟨gs, 0, none⟩) seg.length seg.length) ((seg.take q).map (erE kb) ++ seg.drop q) from HOW.out.keepB fun b hb => by
        have e : b = gs := (Option.some.inj hb).symm
        rw [e]; exact hg3)
      have hs3 := hk3.size
      have hsw := HKP.out.size
      have HRW3 := Lib.hid hrw3
      have HH3 := Lib.hid (show (∀ b, H3 b → H b ∨ w.heap.size ≤ b) ∧ ¬ H3 gs from ⟨fun b hb => by
        rcases hH3 b hb with h | h
        · exact HH.out b h
        · have := HBA.out.size; right; omega, fun hb => by
        rcases hH3 gs hb with h | h
        · exact HNG.out h
        · have := HBA.out.size; omega⟩)
      have HK3 := Lib.hid (show Keep (fun b => G b ∨ F b ∨ H b) w w3 from (HKP.out.trans (Keep.of_below (F := fun _ => False) HBA.out) (fun _ _ h => h.elim)).trans hk3 (fun b hb h => by
        rcases HH.out b h with h | h
        · exact .inr (.inr h)
        · omega))
      have HAQ := Lib.hid (show aq ++ rdEv (seg.take q) ++ x.toList = aq ++ rdEv (seg.take (q + 1)) by rw [HTK.out, rdEv_snoc, List.append_assoc])
      clear hrw3 hH3 hk3 HGO e0 e1 e2 e3 e4 e5 e6 e7 e8 f0 f1 f2 f3 f4 f5 f6 f7 f8 hg3
      cases hgo : goesB kb x
      · have HRL := Lib.hid (show RwRel1 I fv kb G F H bj bd bt gs v j aq w seg (.int .i64 (cntE kb (seg.take q))) (.int .i64 ((q + 1 : Nat) : Int)) w3 from by
          refine ⟨q + 1, H3, rfl, by omega, by rw [HTK.out, cntE_snoc, hgo]; simp, ?_, by rw [← HAQ.out]; exact HRW3.out, HH3.out.1, HH3.out.2, HK3.out⟩
          rw [HTK.out, List.map_append, List.append_assoc, List.map_singleton, erE_stays hgo, List.singleton_append, ← HDR.out]
          exact HOW3.out)
        clear hgo
        go_wp2
        go_roundw
        case rel => exact HRL.out
        case measure => simp [intOf]; omega
      · have hthere := OwnJ.there HOW3.out q (by rw [hLl]; exact hqn)
        have HST3 := Lib.hid (HOW3.out.setGone q (by rw [hLl]; exact hqn))
        have key : ∀ o, o < 9 → (∃ u, w3.cell? ⟨gs, q * 9 + o, none⟩ = some u) ∧ w3.frozen? ⟨gs, q * 9 + o, none⟩ = false := fun o ho => ⟨Option.isSome_iff_exists.1 (hthere o ho).1, (hthere o ho).2⟩
        obtain ⟨⟨u0, g0⟩, z0⟩ := key 0 (by omega)
        obtain ⟨⟨u1, g1⟩, z1⟩ := key 1 (by omega)
        obtain ⟨⟨u2, g2⟩, z2⟩ := key 2 (by omega)
        obtain ⟨⟨u3, g3⟩, z3⟩ := key 3 (by omega)
        obtain ⟨⟨u4, g4⟩, z4⟩ := key 4 (by omega)
        obtain ⟨⟨u5, g5⟩, z5⟩ := key 5 (by omega)
        obtain ⟨⟨u6, g6⟩, z6⟩ := key 6 (by omega)
        obtain ⟨⟨u7, g7⟩, z7⟩ := key 7 (by omega)
        obtain ⟨⟨u8, g8⟩, z8⟩ := key 8 (by omega)
        rw [Nat.add_zero] at g0 z0
        have hcw : wrap64 ((cntE kb (seg.take q) : Int) + 1) = (cntE kb (seg.take q) : Int) + 1 := by
          have h1 : cntE kb (seg.take q) ≤ q := by
            unfold cntE; have := List.length_filter_le (goesB kb) (seg.take q); rw [List.length_take] at this; omega
          unfold wrap64; omega
        have HRL := Lib.hid (show RwRel1 I fv kb G F H bj bd bt gs v j aq w seg (.int .i64 ((cntE kb (seg.take q) : Int) + 1)) (.int .i64 ((q + 1 : Nat) : Int)) (setGone w3 gs (q * 9)) from by
          have hset : ((seg.take q).map (erE kb) ++ seg.drop q).set q none = (seg.take (q + 1)).map (erE kb) ++ seg.drop (q + 1) := by
            have hlen : ((seg.take q).map (erE kb)).length = q := by rw [List.length_map, List.length_take]; omega
            rw [List.set_append_right _ _ (by omega), hlen, Nat.sub_self, HDR.out, List.set_cons_zero, HTK.out, List.map_append, List.append_assoc, List.map_singleton, erE_goes hgo, List.singleton_append]
          have hgk := HST3.out.2
          refine ⟨q + 1, H3, rfl, by omega, by rw [HTK.out, cntE_snoc, hgo]; simp, ?_, ?_, HH3.out.1, HH3.out.2, HK3.out.trans (Keep.of_grown (F := fun b => b = gs) hgk (fun k e => (Option.some.inj e).symm)) (fun b hb e => by omega)⟩
          · have := HST3.out.1; rw [hset] at this; exact this
          · rw [← HAQ.out]
            refine HRW3.out.keepN HK.out hgk.size gs (fun h => ?_) (by omega) (by omega) (fun b hb hne => hgk.block b hb (fun e => hne (Option.some.inj e)))
            rcases h with h | h | h
            · have := HGL2.out gs (.inl h); omega
            · have := HGL2.out gs (.inr (.inl h)); omega
            · exact HH3.out.2 h)
        clear key hthere hgo
        go_wp2
        go_roundw
        case rel => rw [hcw]; exact HRL.out
        case measure => simp [intOf]; omega
    · have hqm : q = seg.length := by omega
      have hhow := HOW.out
      have hhrw := HRW.out
      rw [hqm, List.take_length, List.drop_length, List.append_nil] at hhow
      rw [hqm, List.take_length] at hhrw
      have HOW4 := Lib.hid hhow; have HRW4 := Lib.hid hhrw
      rw [hqm, List.take_length, hslm]
      have hcm : cntE kb seg ≤ m := by
        unfold cntE; have := List.length_filter_le (goesB kb) seg; omega
      have t2 : ¬ (q : Int) < m := by omega
      clear hhow hhrw HOW HRW
      by_cases hc0 : cntE kb seg = 0
      · have HRE := Lib.hid (show Rw1Post I fv G F H bj bd bt (j.rew1 kb k) (aq ++ rdEv (segL j.per k j.es)) w (j.rew1N kb k) (j.rew1E kb k) (.returned (.tuple #[.int .i64 0, .int .i64 0])) wr from by
          have e0 : cntE kb (segL j.per k j.es) = 0 := by rw [HSEG.out]; exact hc0
          have e1 : j.rew1 kb k = j := by unfold Jl.rew1; rw [if_pos e0]
          have e2 : j.rew1E kb k = 0 := by unfold Jl.rew1E; rw [if_pos e0]
          have e3 : j.rew1N kb k = 0 := by unfold Jl.rew1N; rw [e2, if_neg (by simp), e0]
          rw [e1, e2, e3, HSEG.out]
          exact ⟨rfl, G, F, H', v, HRW4.out, HO.out, fun _ h => .inl h, fun _ h => .inl h, HH.out, HKP.out⟩)
        rw [hc0]
        clear hc0
        go_wp2
        go_ret2
        exact HRE.out
      · have t3 : ((cntE kb seg : Int) == 0) = false := by simp; omega
        clear hqm
        go_upto_region 15 with fail
        clear t2 t3
        have hkp := HKP.out
        have hsw := hkp.size
        have HHN := Lib.hid hc0
        have hgl4 : gs < wr.heap.size := (World.ownsRow.lt HOW4.out gs rfl).2
        have HST2 := Lib.hid (show RwRel2 I fv G F H' bj bd bt gs v j (aq ++ rdEv seg) w wr (seg.map (erE kb)) (.slice none 0 0) (.int .i64 ((0 : Nat) : Int)) wr from
          ⟨0, rfl, Nat.zero_le _, by simpa [bytesL] using OwnB.nil wr wr.heap.size, HRW4.out, by rw [List.length_map]; exact HOW4.out, Below.refl _ _⟩)
        have hml2 : (seg.map (erE kb)).length = m := by rw [List.length_map]; exact hslm
        have HMY := Lib.hid (show ∀ y ∈ seg.map (erE kb), ∀ e, y = some e → mayB e = true from fun y hy e he => by
          obtain ⟨x, hx, hxy⟩ := List.mem_map.1 hy
          subst he
          have hx2 : x = some e := by
            cases x with
            | none => cases hxy
            | some e' =>
              simp only [erE] at hxy
              split at hxy
              · exact hxy
              · cases hxy
          refine HO.out.may e ?_
          have h1 : some e ∈ segL j.per k j.es := by rw [HSEG.out, ← hx2]; exact hx
          unfold segL at h1
          exact List.mem_of_mem_drop (List.mem_of_mem_take h1))
        have HOW4' := Lib.hid (show OwnJ wr w.heap.size (.slice (some ⟨gs, 0, none⟩) (seg.map (erE kb)).length (seg.map (erE kb)).length) (seg.map (erE kb)) by rw [List.length_map]; exact HOW4.out)
        have HSG2 := Lib.hid (show segL j.per k j.es = seg ∧ (segL j.per k j.es).map (erE kb) = seg.map (erE kb) by rw [HSEG.out]; exact ⟨rfl, rfl⟩)
        generalize hseg2 : seg.map (erE kb) = seg2 at *
        clear hkp hc0
        generalize wr = w4 at *
        go_wp2
        go_loopw [14, 70] (fun b i wz => RwRel2 I fv G F H' bj bd bt gs v j (aq ++ rdEv seg) w w4 seg2 b i wz) (fun _ i _ => m - (intOf i).toNat)
        case atStart => exact HST2.out
        case round =>
          obtain ⟨q2, rfl, hq2, hob, hrw5, how5, hbl5⟩ := hrel
          have HOB := Lib.hid hob; have HRW5 := Lib.hid hrw5; have HOW5 := Lib.hid how5; have HBL5 := Lib.hid hbl5
          have hlen2 := bytesL_lenW (seg2.take q2) (fun y hy => HMY.out y (List.mem_of_mem_take hy))
          have hs5 := hbl5.size
          clear hob hrw5 how5 hbl5
          by_cases hq2n : q2 < m
          · have hq2l : q2 < seg2.length := by omega
            have hen : Ents wr wr.heap.size (some ⟨gs, 0, none⟩) seg2.length seg2.length seg2 := Cel.of_own HOW5.out
            obtain ⟨b', off', ee, hb', hd'⟩ := hen.at_ q2 hq2l
            injection ee with ee; injection ee with ee1 ee2
            subst ee1 ee2
            rw [Nat.zero_add] at hd'
            obtain ⟨e0, e1, e2, e3, e4, e5, e6, e7, e8⟩ := hd'
            have HTK := Lib.hid (show bytesL (seg2.take (q2 + 1)) = bytesL (seg2.take q2) ++ sealE seg2[q2] by
              rw [List.take_add_one, List.getElem?_eq_getElem hq2l, Option.toList_some, bytesL_append]; simp [bytesL])
            have hmy := HMY.out seg2[q2] (List.getElem_mem hq2l)
            have hbA : Below wr.heap.size wr (wr.alloc (entObj seg2[q2])) := (Below.refl _ _).alloc (Nat.le_refl _) _
            have HBA := Lib.hid hbA
            have HSE := Lib.hid (jseal_any (wr.alloc (entObj seg2[q2])) seg2[q2] hmy (HRW5.out.mx.up hbA))
            have hsl := sealE_len hmy
            have hin := EntIn.new wr seg2[q2]
            have HOBA := Lib.hid (HOB.out.alloc (entObj seg2[q2]))
            generalize seg2[q2] = y at *
            obtain ⟨f0, f1, f2, f3, f4, f5, f6, f7, f8⟩ := hin
            have t5 : (q2 : Int) < m := by omega
            have hsA : (wr.alloc (entObj y)).heap.size = wr.heap.size + 1 := by simp
            have hq99 : q2 ≤ 99 := by omega
            rw [List.length_take] at hlen2
            have hbb : (bytesL (seg2.take q2)).length ≤ 200000 := by omega
            clear hbA hmy hen
            go_wp2_with fail
            with_reducible refine HSE.out.mono ?_
            rintro r w6 ⟨v6, rfl, ho6, hb6⟩
            obtain ⟨A6, c6, hv6⟩ := ho6.form
            subst hv6
            have HBY := Lib.hid ho6.byt
            have HBL6 := Lib.hid (show Below w4.heap.size w4 w6 from (HBL5.out.trans (HBA.out.mono hs5)).trans (hb6.mono (by rw [hsA]; omega)))
            have HBX := Lib.hid (show Below wr.heap.size wr w6 from HBA.out.trans (hb6.mono (by rw [hsA]; omega)))
            have HOB6 := Lib.hid (HOBA.out.up hb6)
            have hs6 := hb6.size
            clear ho6 hb6 e0 e1 e2 e3 e4 e5 e6 e7 e8 f0 f1 f2 f3 f4 f5 f6 f7 f8
            go_wp2_with (at_builtin; refine wpList_app8 rfl (.tmp 74) (.tmp 76) rfl w4.heap.size _ (bytesL (seg2.take q2)) rfl HOB6.out w6.heap.size _ _ _ (sealE y) rfl HBY.out ?x1 ?x2 ?_)
            case x1 => omega
            case x2 => omega
            intro v7 w7 ho7 hg7 hv7
            have HO7 := Lib.hid ho7
            have HB7 := Lib.hid (show Below w4.heap.size w4 w7 from Below.grown HBL6.out hg7 HBL6.out.size HOB6.out.lt)
            have HRL := Lib.hid (show RwRel2 I fv G F H' bj bd bt gs v j (aq ++ rdEv seg) w w4 seg2 v7 (.int .i64 ((q2 + 1 : Nat) : Int)) w7 from
              ⟨q2 + 1, rfl, by omega, by rw [HTK.out]; exact HO7.out, HRW4.out.up HK.out HB7.out, HOW4'.out.keepB (fun b hb => HB7.out.block b (by have e : b = gs := (Option.some.inj hb).symm; omega)), HB7.out⟩)
            clear ho7 hg7 hv7
            go_wp2
            go_roundw
            case rel => exact HRL.out
            case measure => simp [intOf]; omega
          · have hqe : q2 = seg2.length := by omega
            have hob := HOB.out
            rw [hqe, List.take_length] at hob
            rw [hqe, List.take_length] at hlen2
            have HOB7 := Lib.hid hob
            have t5 : ¬ (q2 : Int) < m := by omega
            have HRW7 := HRW5
            obtain ⟨A7, c7, hv7⟩ := hob.form
            subst hv7
            clear hob hqe
            go_upto_region 21 with fail
            have hk99 : k < 100 := by
              have h1 := HLO.out
              have h2 : k * 1 ≤ k * p := Nat.mul_le_mul_left _ hp1
              omega
            have hnm := HO.out.nm
            have hsl := (segF_len j.name hk99).2
            have HFL := Lib.hid (show ∀ W, Rw I fv G F H' bj bd bt v j (aq ++ rdEv seg) W → Calls Tryz.prog 64 #[.pointer (some ⟨bj, 0, none⟩), .int .i64 (k : Int)] W (fun e w' => e = .returned (.string ⟨(segF j.name k).toArray⟩) ∧ Below W.heap.size W w') from fun W hW => (jlfile_any W bj j.name hW.jl.cells.2.1 (by omega) k hk99).mono fun e w' ⟨h1, q, h2⟩ => ⟨h1, h2 ▸ below_drewN (Below.refl _ _) q⟩)
            have HRP := Lib.hid (show ∀ W, Rw I fv G F H' bj bd bt v j (aq ++ rdEv seg) W → OwnB W w4.heap.size (.slice A7 (bytesL seg2).length c7) (bytesL seg2) → Calls Tryz.prog 30 #[.pointer (some ⟨bd, 0, none⟩), .string ⟨(segF j.name k).toArray⟩, .slice A7 (bytesL seg2).length c7] W (DkPost W G bd (j.dk.replace (segF j.name k) (bytesL seg2)) (j.dk.replaceE (segF j.name k) (bytesL seg2))) from fun W hW hO => by
              refine dkrepl_any W G bd j.dk hW.jl.dk _ (by omega) A7 _ c7 (bytesL seg2) hO.byt (fun b off e hg => ?_) (by rw [hml2] at hlen2; omega)
              subst e
              have h1 := hO.lt b rfl
              have h2 := HGL2.out b (.inl hg)
              omega)
            have HS0 := Lib.hid (show ∀ W, Rw I fv G F H' bj bd bt v j (aq ++ rdEv seg) W → W.cell? ⟨bj, 0, none⟩ = some (.pointer (some ⟨bd, 0, none⟩)) from fun W hW => hW.jl.cells.1)
            have HX := Lib.hid (show Rw I fv G F H' bj bd bt v j (aq ++ rdEv seg) wr.drew from HRW7.out.up HK.out (below_drewN (Below.refl _ _) 1))
            have HXB := Lib.hid (show OwnB wr.drew w4.heap.size (.slice A7 (bytesL seg2).length c7) (bytesL seg2) from HOB7.out)
            have HXL := Lib.hid (show Below w4.heap.size w4 wr.drew from below_drewN HBL5.out 1)
            have HFIN := Lib.hid (show ∀ W w9, Rw I fv G F H' bj bd bt v j (aq ++ rdEv seg) W → Below w4.heap.size w4 W → DkD W G bd (j.dk.replace (segF j.name k) (bytesL seg2)) w9 → RwF I fv G F H H' bj bd bt gs v { j with dk := j.dk.replace (segF j.name k) (bytesL seg2) } (aq ++ rdEv seg) w seg2 w9 from fun W w9 hW hb hd => by
              obtain ⟨G9, h9, hG9, hk9⟩ := hW.disk HK.out hd
              have hs9 := hb.size
              refine ⟨G9, h9, HOW4'.out.keepB (fun b hb' => ?_), fun b hb' => (hG9 b hb').imp id (fun h => by omega), (HKP.out.trans (Keep.of_below (F := fun _ => False) (hb.mono (Nat.le_refl _))) (fun _ _ h => h.elim)).trans hk9 (fun b hb' h => .inl h)⟩
              have e : b = gs := (Option.some.inj hb').symm
              subst e
              exact (hk9.block b (by omega) (fun hg => by have := HGL2.out b (.inl hg); omega)).trans (hb.block b hgl4))
            have HS9 := Lib.hid (show ∀ w9, RwF I fv G F H H' bj bd bt gs v { j with dk := j.dk.replace (segF j.name k) (bytesL seg2) } (aq ++ rdEv seg) w seg2 w9 → w9.cell? ⟨bj, 0, none⟩ = some (.pointer (some ⟨bd, 0, none⟩)) from fun w9 h => by
              obtain ⟨G9, h9, _⟩ := h
              exact h9.jl.cells.1)
            have hS := HS0.out _ HX.out
            go_region_held3 (fun W => W.cell? ⟨bj, 0, none⟩ = some (.pointer (some ⟨bd, 0, none⟩))) (first | assumption | go_keep) (first
              | (go_at_call 64; (with_reducible refine (HFL.out _ HX.out).mono ?_); rintro r9 w8 ⟨rfl, hb8⟩; have HX2 := Lib.hid (HX.out.up HK.out hb8); have HXB2 := Lib.hid (HXB.out.up hb8); have HXL2 := Lib.hid (HXL.out.trans (hb8.mono HXL.out.size)); clear HX HXB HXL; have HX := HX2; have HXB := HXB2; have HXL := HXL2; clear HX2 HXB2 HXL2; (try clear hS); have hS := HS0.out _ HX.out; clear hb8)
              | (go_at_call 30; (with_reducible refine (HRP.out _ HX.out HXB.out).mono ?_); rintro r9 w9 ⟨rfl, hd9⟩; have HF9 := Lib.hid (HFIN.out _ _ HX.out HXL.out hd9); (try clear hS); have hS := HS9.out _ HF9.out; clear hd9))
            have hf9 := HF9.out
            clear hS HX HXB HXL HFL HRP HS0 HFIN HS9 HF9
            obtain ⟨G9, h9, how9, hG9, hk9⟩ := hf9
            have H9 := Lib.hid h9; have HOW9 := Lib.hid how9; have HG9 := Lib.hid hG9; have HK9 := Lib.hid hk9
            obtain ⟨d0, d1, d2, d3, d4, d5, d6⟩ := h9.jl.cells
            have d5f := h9.jl.frozen 5
            have d6f := h9.jl.frozen 6
            clear h9 how9 hG9 hk9 d0 d1 d2
            have HE0 := Lib.hid (show cntE kb (segL j.per k j.es) ≠ 0 from by rw [HSG2.out.1]; exact HHN.out)
            have hE1 : j.rew1E kb k = j.dk.replaceE (segF j.name k) (bytesL seg2) := by unfold Jl.rew1E; rw [if_neg HE0.out, HSG2.out.2]
            have HE1 := Lib.hid hE1
            have HJ1 := Lib.hid (show j.rew1 kb k = (if j.dk.replaceE (segF j.name k) (bytesL seg2) ≠ 0 then { j with dk := j.dk.replace (segF j.name k) (bytesL seg2), stuck := j.dk.replaceE (segF j.name k) (bytesL seg2) } else { j with dk := j.dk.replace (segF j.name k) (bytesL seg2), es := erSeg kb j.per k j.es, lasts := if k + 1 = j.files then j.es.length else j.lasts }) from by
              unfold Jl.rew1; rw [if_neg HE0.out, HSG2.out.2])
            have HN1 := Lib.hid (show j.rew1N kb k = if j.dk.replaceE (segF j.name k) (bytesL seg2) ≠ 0 then 0 else cntE kb seg from by
              unfold Jl.rew1N; rw [HE1.out, HSG2.out.1])
            have HSQ := Lib.hid HSG2.out.1
            clear hE1
            by_cases hE : j.dk.replaceE (segF j.name k) (bytesL seg2) = 0
            · have hsl2 : seg2.length = m := hml2
              obtain ⟨cur9, hg9, ht9, hc91, hc92, hc93⟩ : ∃ cur9 : Array Value, w9.heap[g]? = some (.cells cur9 109 (0, 0)) ∧ cur9.toList.take (n * 9) = entCells j.es ∧ n ≤ cap ∧ cap ≤ maxLen ∧ cur9.size = cap * 9 := by
                have hown := H9.out.jl.own
                have hes : ({ j with dk := j.dk.replace (segF j.name k) (bytesL seg2) } : Jl).es = j.es := rfl
                rw [hes, HV.out] at hown
                rcases hown.2 with ⟨e, _⟩ | ⟨g', cap', cur', e, _, h1, h2, h3, h4, h5⟩
                · cases e
                · injection e with e1 e2 e3
                  injection e1 with e1; injection e1 with e1
                  subst e1 e3
                  rw [HN.out] at h5
                  exact ⟨cur', h1, h5, by rw [← HN.out]; exact h2, h3, h4⟩
              have hfg : F g := (H9.out.jl.fv g (by rw [HV.out]; rfl)).1
              have hgbj : g ≠ bj := (H9.out.jl.fv g (by rw [HV.out]; rfl)).2
              have hel2 : (entCells seg2).length = m * 9 := by rw [entCells_length, hsl2]
              have hsrc : ∀ i u, (entCells seg2)[i]? = some u → w9.cell? ((⟨gs, 0, none⟩ : Addr).add i) = some u := fun i u hu => by
                have hcel := Cel.of_own HOW9.out
                obtain ⟨b, off, e, _, hc⟩ := hcel.cell (by omega)
                injection e with e; injection e with e1 e2
                subst e1 e2
                have e : (⟨gs, 0, none⟩ : Addr).add i = ⟨gs, 0 + i, none⟩ := by unfold Addr.add; split <;> simp_all
                rw [e]; exact hc i u hu
              have HES2 := Lib.hid (show (Tryz.prog.info? 109).map (·.size) = some 9 by rw [HI.out]; exact congrArg some HZ1.out)
              obtain ⟨w10, hrun10, hsp⟩ : ∃ w10, (Builtin.copy_ #[101, 101] 3 #[.slice (some ⟨g, lo * 9, none⟩) m (cap - lo), .slice (some ⟨gs, 0, none⟩) m m]).run Tryz.prog w9 = .ok (goInt m) w10 ∧ Spliced w9 w10 g (lo * 9) cur9 109 (entCells seg2) :=
                ⟨_, run_copy_k (P := Tryz.prog) w9 _ _ _ 109 9 g (lo * 9) m (cap - lo) ⟨gs, 0, none⟩ m m cur9 _ (entCells seg2) m Tryz.underlying101 HES2.out hg9 (by simp) hel2 hsrc (by rw [hel2, hc93]; omega) (fun u hu => by obtain ⟨x, _, hx⟩ := List.mem_flatMap.1 hu; exact entC_one x u hx), spliced_setRow w9 _ _ _ _ _ hg9⟩
              have h10 := OwnJ.splice (base := 0) hg9 (Nat.zero_le _) HN.out hc91 hc92 hc93 ht9 hsl2 hmn hsp
              have hers : j.es.take lo ++ seg2 ++ j.es.drop (lo + m) = erSeg kb j.per k j.es := by
                unfold erSeg
                rw [HSG2.out.2, HP.out, ← HLO.out]
                congr 1
                rw [Nat.succ_mul, ← HLO.out]
                rcases Nat.lt_or_ge (lo + p) n with h1 | h1
                · rw [show lo + m = lo + p by have := HM0.out; omega]
                · rw [List.drop_eq_nil_of_le (by have := HM0.out; have := HN.out; omega), List.drop_eq_nil_of_le (by have := HN.out; omega)]
              rw [hers] at h10
              have hgk := hsp.grown
              have hkF : Keep F w9 w10 := Keep.of_grown hgk (fun k e => by rw [← Option.some.inj e]; exact hfg)
              have hj10 : JlAt w10 G9 F bj bd v { j with dk := j.dk.replace (segF j.name k) (bytesL seg2), es := erSeg kb j.per k j.es } := by
                refine ⟨H9.out.jl.dk.keep hkF.size fun b hb => hkF.block b (H9.out.jl.dk.lt b hb) (fun hf => H9.out.jl.ap b hf hb), ?_, by rw [HV.out]; exact h10, H9.out.jl.fj, H9.out.jl.fv, H9.out.jl.ap, fun b hb => Nat.lt_of_lt_of_le (H9.out.jl.lt b hb) hkF.size⟩
                exact (hgk.block bj (H9.out.jl.lt _ H9.out.jl.fj) (fun e => hgbj (Option.some.inj e).symm)).trans H9.out.jl.blk
              have HJ10 := Lib.hid hj10; have HKF := Lib.hid hkF
              obtain ⟨q0, q1, q2', q3, q4, q5, q6⟩ := hj10.cells
              have q5f := hj10.frozen 5
              rw [HV.out] at q4 d4
              have HFN := Lib.hid (show ∀ w11 (l : Nat), Keep F w9 w11 → JlAt w11 G9 F bj bd v { j with dk := j.dk.replace (segF j.name k) (bytesL seg2), es := erSeg kb j.per k j.es, lasts := l } → l = (if k + 1 = j.files then j.es.length else j.lasts) → Rw1Post I fv G F H bj bd bt (j.rew1 kb k) (aq ++ rdEv (segL j.per k j.es)) w (j.rew1N kb k) (j.rew1E kb k) (.returned (.tuple #[.int .i64 (cntE kb seg), .int .i64 0])) w11 from fun w11 l hk11 h11 hl => by
                have e0 : ¬ (j.dk.replaceE (segF j.name k) (bytesL seg2) ≠ 0) := by simp [hE]
                rw [HJ1.out, HN1.out, HE1.out, if_neg e0, if_neg e0, hE, HSQ.out, ← hl]
                have hle := erSeg_length kb j.per k j.es
                refine ⟨rfl, G9, F, H', v, H9.out.own HK.out h11 hk11, ⟨HO.out.per1, HO.out.per2, HO.out.nm, by rw [hle]; exact HO.out.num, by rw [hle]; exact HO.out.fl, ?_, fun e he => ?_⟩, HG9.out, fun _ h => .inl h, HH.out, HK9.out.trans hk11 (fun b _ h => .inr (.inl h))⟩
                · show l ≤ (erSeg kb j.per k j.es).length
                  rw [hle, hl]; split
                  · exact Nat.le_refl _
                  · exact HO.out.las
                · have he' : some e ∈ erSeg kb j.per k j.es := he
                  rw [← hers] at he'
                  rcases List.mem_append.1 he' with h | h
                  · rcases List.mem_append.1 h with h | h
                    · exact HO.out.may e (List.mem_of_mem_take h)
                    · exact HMY.out _ h e rfl
                  · exact HO.out.may e (List.mem_of_mem_drop h))
              rw [hE]
              clear hE h10 hers hgk hkF hj10 hsrc hel2 hg9 ht9 hsp q0 q1 q2' q6 d6 d6f d5 d5f d3 hsl2
              have hle10 := erSeg_length kb j.per k j.es
              have hfw : wrap64 ((j.files : Int) - 1) = (j.files : Int) - 1 := by
                have := HO.out.fl
                have := HN.out
                unfold wrap64; omega
              by_cases hkf : k + 1 = j.files
              · have t6 : ((k : Int) == (j.files : Int) - 1) = true := by simp; omega
                have HFN' := Lib.hid (HFN.out (w10.setCell ⟨bj, 5, none⟩ (.int .i64 n)) n (HKF.out.setCell (p := ⟨bj, 5, none⟩) (fun _ => H9.out.jl.fj) _) (HJ10.out.setc rfl rfl (by rw [heap_set_row HJ10.out.blk]; rfl)) (by rw [if_pos hkf, HN.out]))
                clear hkf hle10
                go_wp2
                go_ret2
                exact HFN'.out
              · have t6 : ((k : Int) == (j.files : Int) - 1) = false := by simp; omega
                have t7 : ¬ ((k : Int) = (j.files : Int) - 1) := by omega
                have HFN' := Lib.hid (HFN.out w10 j.lasts HKF.out HJ10.out (by rw [if_neg hkf]))
                clear hkf hle10 q4 q5 q5f
                go_wp2
                go_ret2
                exact HFN'.out
            · have HR9 := Lib.hid (show Rw1Post I fv G F H bj bd bt (j.rew1 kb k) (aq ++ rdEv (segL j.per k j.es)) w (j.rew1N kb k) (j.rew1E kb k) (.returned (.tuple #[.int .i64 0, .int .i64 (j.dk.replaceE (segF j.name k) (bytesL seg2))])) (w9.setCell ⟨bj, 6, none⟩ (.int .i64 (j.dk.replaceE (segF j.name k) (bytesL seg2)))) from by
                rw [HJ1.out, HN1.out, HE1.out, if_pos hE, if_pos hE, HSQ.out]
                refine ⟨rfl, G9, F, H', v, H9.out.own HK.out (H9.out.jl.setc rfl rfl ?_) ((Keep.refl F w9).setCell (p := ⟨bj, 6, none⟩) (fun _ => H9.out.jl.fj) _), ?_, HG9.out, fun _ h => .inl h, HH.out, HK9.out.setCell (p := ⟨bj, 6, none⟩) (fun _ => .inr (.inl H9.out.jl.fj)) _⟩
                · rw [heap_set_row H9.out.jl.blk]; rfl
                · exact ⟨HO.out.per1, HO.out.per2, HO.out.nm, HO.out.num, HO.out.fl, HO.out.las, HO.out.may⟩)
              clear d3 d4 d5 d5f
              generalize j.dk.replaceE (segF j.name k) (bytesL seg2) = er at *
              go_wp2_with fail
              with_reducible refine (jlfail_any w9 bj _ d6 d6f er).mono ?_
              rintro r w10 ⟨rfl, rfl⟩
              go_wp2
              go_ret2
              exact HR9.out
end
end Go.Proofs.YtejjfhhppjdcaaaGreatDoor
