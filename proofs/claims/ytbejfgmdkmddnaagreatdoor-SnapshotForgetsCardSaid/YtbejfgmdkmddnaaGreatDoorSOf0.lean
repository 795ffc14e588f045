/-
  Layer 8: what Of asks, what it answers, and the memory that it makes.
-/
import Derived.Test.YtbejfgmdkmddnaaGreatDoorSOfRgt
import Derived.Test.YtbejfgmdkmddnaaGreatDoorSClkDec2
import Derived.Test.YtbejfgmdkmddnaaGreatDoorSHdDec
import Derived.Test.YtbejfgmdkmddnaaGreatDoorSItkInv
namespace Go.Proofs.YtbejfgmdkmddnaaGreatDoor
open Go.RowKit Go.Maps Go.Sort Go.Shelf

/-- parts that are an intake's: its clock, its set -/
structure PartsOk (a b : Int) (lc lh : List UInt8) (gs : List (List UInt8)) (ts ls : List Ev) (c : Clk) (m : Had) : Prop where
  dc : decC lc = some c
  dh : ∃ r, decH lh = .ok m r
  sl : c.slack = a
  id : c.idle = b
  gone : GoneOk gs
  right : RightOk gs m ts ls
theorem right_next {gone : List (List UInt8)} {had : Had} {taken late : List Ev} (h : RightOk gone had taken late) (i : Nat) (hi : i + 1 < taken.length) : LtE (taken[i]'(by omega)) taken[i + 1] := by
  have h1 := h.taken (i + 1) hi
  unfold tkB at h1
  simp only [Bool.and_eq_true, Bool.or_eq_true, decide_eq_true_eq] at h1
  have h2 := h1.1.2
  rcases h2 with h2 | h2
  · omega
  · have e1 : taken.getD (i + 1 - 1) taken[i + 1] = taken[i] := by rw [List.getD_eq_getElem?_getD, Nat.add_sub_cancel, List.getElem?_eq_getElem (by omega)]; rfl
    rw [e1] at h2
    exact cmpE_pos.1 (cmpE_one.2 (by simpa using h2))
theorem right_up {gone : List (List UInt8)} {had : Had} {taken late : List Ev} (h : RightOk gone had taken late) (i : Nat) : ∀ (d : Nat) (hd : i + d + 1 < taken.length), LtE (taken[i]'(by omega)) taken[i + d + 1]
  | 0, hd => right_next h i hd
  | d + 1, hd => (right_up h i d (by omega)).trans (right_next h (i + d + 1) (by omega))
theorem right_sorted {gone : List (List UInt8)} {had : Had} {taken late : List Ev} (h : RightOk gone had taken late) : SortedE taken := by
  refine List.pairwise_iff_getElem.2 fun i j hi hj hij hlt => ?_
  obtain ⟨d, rfl⟩ : ∃ d, j = i + d + 1 := ⟨j - i - 1, by omega⟩
  exact LtE.irrefl _ ((right_up h i d hj).trans hlt)
theorem right_may {gone : List (List UInt8)} {had : Had} {taken late : List Ev} (h : RightOk gone had taken late) : ∀ e, e ∈ taken ∨ e ∈ late → mayB e = true := fun e he => by
  rcases he with he | he
  · obtain ⟨i, hi, rfl⟩ := List.getElem_of_mem he
    have h1 := h.taken i hi
    unfold tkB at h1
    simp only [Bool.and_eq_true] at h1
    exact h1.1.1.1.1.1
  · obtain ⟨i, hi, rfl⟩ := List.getElem_of_mem he
    have h1 := h.late i hi
    unfold ltB at h1
    simp only [Bool.and_eq_true] at h1
    exact h1.1.1
theorem RightOk.congr {gone gone' : List (List UInt8)} {had : Had} {taken late : List Ev} (h : RightOk gone had taken late) (hg : ∀ p, p ∈ gone ↔ p ∈ gone') : RightOk gone' had taken late := by
  have e : ∀ p, decide (p ∈ gone') = decide (p ∈ gone) := fun p => decide_eq_decide.2 (hg p).symm
  refine ⟨h.len, fun k hk => ?_, fun k hk => ?_⟩
  · have := h.taken k hk
    unfold tkB staysB at this ⊢
    rw [e]; exact this
  · have := h.late k hk
    unfold ltB staysB at this ⊢
    rw [e]; exact this
/-- how much may come out -/
structure PtBd (N : Nat) (lc lh : List UInt8) : Prop where
  src : ∀ c, decC lc = some c → c.src.length ≤ N
  had : ∀ m r, decH lh = .ok m r → m.length ≤ N ∧ ∀ p ∈ m, p.2.length ≤ N
theorem had_rows {m : Had} {N : Nat} (h : ∀ p ∈ m, p.2.length ≤ N) (s : List UInt8) : (hadRow m s).length ≤ N := by
  unfold hadRow
  cases hg : getB m s with
  | none => simp
  | some v => exact h _ (getB_mem hg)
theorem parts_ok {a b : Int} {lc lh : List UInt8} {gs : List (List UInt8)} {ts ls : List Ev} {c : Clk} {m : Had} {N : Nat} (h : PartsOk a b lc lh gs ts ls c m) (hb : PtBd N lc lh) (ht : ts.length ≤ N) (hl : ls.length ≤ N) : ItkOk N ⟨c, m, ts, ls, gs⟩ := by
  obtain ⟨r, hr⟩ := h.dh
  have h2 := hb.had m r hr
  exact ⟨right_sorted h.right, right_may h.right, hb.src c h.dc, h2.1, had_rows h2.2, ht, hl⟩
def OfPost (w : World) (N : Nat) (a b : Int) (lc lh : List UInt8) (gs : List (List UInt8)) (ts ls : List Ev) (e : Ending) (w' : World) : Prop :=
  RowKit.Below w.heap.size w w' ∧
  ((∃ c m bi F, PartsOk a b lc lh gs ts ls c m ∧ e = .returned (.tuple #[.pointer (some ⟨bi, 0, none⟩), .int .i64 0]) ∧ ItkAt w' F bi N ⟨c, m, ts, ls, gs⟩ ∧ ∀ b, F b → w.heap.size ≤ b) ∨
   ∃ er : Int, e = .returned (.tuple #[.pointer none, .int .i64 er]) ∧ (er = 2 ∨ (er = 3 ∧ decH lh = .torn)) ∧ ∀ c m, ¬ PartsOk a b lc lh gs ts ls c m)
theorem of_fail {w w' : World} {N : Nat} {a b : Int} {lc lh : List UInt8} {gs : List (List UInt8)} {ts ls : List Ev} (hb : RowKit.Below w.heap.size w w') {er : Int} (he : er = 2 ∨ (er = 3 ∧ decH lh = .torn)) (hn : ∀ c m, ¬ PartsOk a b lc lh gs ts ls c m) :
    OfPost w N a b lc lh gs ts ls (.returned (.tuple #[.pointer none, .int .i64 er])) w' := ⟨hb, .inr ⟨er, rfl, he, hn⟩⟩

/-- while the rows are cloned and laid into the new intake -/
structure Oc (bi : Nat) (c0 s0 l0 g0 : Value) (T : TypeId) (ts ls : List Ev) (w7 W : World) (x2 x3 : Value) (pt pl : Option Value) : Prop where
  lt : bi < w7.heap.size
  blk : W.heap[bi]? = some (.cells #[c0, s0, x2, x3, l0, g0] T (0, 0))
  keep : Keep (fun b => b = bi) w7 W
  tk : ∀ v, pt = some v → OwnE W w7.heap.size v ts
  le : ∀ v, pl = some v → OwnE W w7.heap.size v ls
  ap : ∀ v u, pt = some v → pl = some u → ∀ b, v.ownBlock = some b → u.ownBlock ≠ some b
section
variable {bi : Nat} {c0 s0 l0 g0 : Value} {T : TypeId} {ts ls : List Ev} {w7 W V : World} {x2 x3 v : Value} {pt pl : Option Value}
theorem Oc.up (h : Oc bi c0 s0 l0 g0 T ts ls w7 W x2 x3 pt pl) (hb : RowKit.Below W.heap.size W V) : Oc bi c0 s0 l0 g0 T ts ls w7 V x2 x3 pt pl :=
  ⟨h.lt, (hb.block _ (heap_lt h.blk)).trans h.blk, h.keep.trans (Keep.of_below hb) (fun _ _ h => h), fun v hv => ownsRow_below (h.tk v hv) hb (Nat.le_refl _), fun v hv => ownsRow_below (h.le v hv) hb (Nat.le_refl _), h.ap⟩
theorem Oc.callT (h : Oc bi c0 s0 l0 g0 T ts ls w7 W x2 x3 none pl) (ho : OwnE V W.heap.size v ts) (hb : RowKit.Below W.heap.size W V) : Oc bi c0 s0 l0 g0 T ts ls w7 V x2 x3 (some v) pl := by
  have h' := h.up hb
  refine ⟨h'.lt, h'.blk, h'.keep, fun u hu => ?_, h'.le, fun u z hu hz b hb1 hb2 => ?_⟩
  · injection hu with hu; subst hu; exact OwnE.base_le ho h.keep.size
  · injection hu with hu; subst hu
    have h1 := (World.ownsRow.lt ho b hb1).1
    have h2 := (World.ownsRow.lt (h.le z hz) b hb2).2
    omega
theorem Oc.callL (h : Oc bi c0 s0 l0 g0 T ts ls w7 W x2 x3 pt none) (ho : OwnE V W.heap.size v ls) (hb : RowKit.Below W.heap.size W V) : Oc bi c0 s0 l0 g0 T ts ls w7 V x2 x3 pt (some v) := by
  have h' := h.up hb
  refine ⟨h'.lt, h'.blk, h'.keep, h'.tk, fun u hu => ?_, fun u z hu hz b hb1 hb2 => ?_⟩
  · injection hu with hu; subst hu; exact OwnE.base_le ho h.keep.size
  · injection hz with hz; subst hz
    have h1 := (World.ownsRow.lt ho b hb2).1
    have h2 := (World.ownsRow.lt (h.tk u hu) b hb1).2
    omega
theorem Oc.set (h : Oc bi c0 s0 l0 g0 T ts ls w7 W x2 x3 pt pl) (o : Nat) (u : Value) (y2 y3 : Value) (he : (#[c0, s0, x2, x3, l0, g0] : Array Value).setIfInBounds o u = #[c0, s0, y2, y3, l0, g0]) : Oc bi c0 s0 l0 g0 T ts ls w7 (W.setCell ⟨bi, o, none⟩ u) y2 y3 pt pl := by
  have hk : ∀ b, b ≠ bi → (W.setCell ⟨bi, o, none⟩ u).heap[b]? = W.heap[b]? := fun b hb => Below.heap_setCell _ ⟨bi, o, none⟩ _ _ hb
  have hrow : ∀ {l : List Ev} {z : Value}, OwnE W w7.heap.size z l → OwnE (W.setCell ⟨bi, o, none⟩ u) w7.heap.size z l := fun ho => ho.keep fun b hb => hk b (by
    have := (World.ownsRow.lt ho b hb).1; have := h.lt; omega)
  refine ⟨h.lt, by rw [heap_set_row h.blk, he], h.keep.setCell (p := ⟨bi, o, none⟩) (fun _ => rfl) u, fun v hv => hrow (h.tk v hv), fun v hv => hrow (h.le v hv), h.ap⟩
theorem Oc.cells (h : Oc bi c0 s0 l0 g0 T ts ls w7 W x2 x3 pt pl) : W.cell? ⟨bi, 2, none⟩ = some x2 ∧ W.cell? ⟨bi, 3, none⟩ = some x3 ∧ W.frozen? ⟨bi, 2, none⟩ = false ∧ W.frozen? ⟨bi, 3, none⟩ = false :=
  ⟨(cell_of_row W bi 2 _ _ (0, 0) h.blk).trans rfl, (cell_of_row W bi 3 _ _ (0, 0) h.blk).trans rfl, frozen_of_row W bi 2 _ _ h.blk, frozen_of_row W bi 3 _ _ h.blk⟩
theorem Oc.set2 (h : Oc bi c0 s0 l0 g0 T ts ls w7 W x2 x3 pt pl) (u : Value) : Oc bi c0 s0 l0 g0 T ts ls w7 (W.setCell ⟨bi, 2, none⟩ u) u x3 pt pl := h.set 2 u u x3 (by simp)
theorem Oc.set3 (h : Oc bi c0 s0 l0 g0 T ts ls w7 W x2 x3 pt pl) (u : Value) : Oc bi c0 s0 l0 g0 T ts ls w7 (W.setCell ⟨bi, 3, none⟩ u) x2 u pt pl := h.set 3 u x2 u (by simp)
end
/-- the intake that is told: its blocks, one by one -/
structure OfMem (w w7 : World) (bi : Nat) (A : ItkA) (c : Clk) (m : Had) (gs : List (List UInt8)) (ls : List Ev) : Prop where
  clk : ClockAt w7 A.bc A.bm c
  had : HadAt w7 A.G A.bs A.bh m A.V
  lates : SetI w7 A.bl ls.length (ls.map idOf)
  gone : SetB w7 A.bg gs.length gs
  ml : A.bm ≠ A.bl
  mg : A.bm ≠ A.bg
  lg : A.bl ≠ A.bg
  gm : ¬ A.G A.bm
  gl : ¬ A.G A.bl
  gg : ¬ A.G A.bg
  ib : bi < w7.heap.size
  hi : w.heap.size ≤ bi ∧ w.heap.size ≤ A.bc ∧ w.heap.size ≤ A.bm ∧ (∀ b, A.G b → w.heap.size ≤ b) ∧ w.heap.size ≤ A.bl ∧ w.heap.size ≤ A.bg
  ni : bi ≠ A.bc ∧ bi ≠ A.bm ∧ ¬ A.G bi ∧ bi ≠ A.bl ∧ bi ≠ A.bg
  sz : w.heap.size ≤ w7.heap.size
theorem of_mem {w w7 W : World} {bi N : Nat} {A : ItkA} {a b : Int} {lc lh : List UInt8} {c : Clk} {m : Had} {gs : List (List UInt8)} {ts ls : List Ev} {vt vl : Value} {T : TypeId} (hT : T = 84) (h : OfMem w w7 bi A c m gs ls) (hp : PartsOk a b lc lh gs ts ls c m) (hbd : PtBd N lc lh) (ht : ts.length ≤ N) (hl : ls.length ≤ N) (hg : gs.length ≤ N)
    (ho : Oc bi (.pointer (some ⟨A.bc, 0, none⟩)) (.pointer (some ⟨A.bs, 0, none⟩)) (.map (some A.bl)) (.map (some A.bg)) T ts ls w7 W vt vl (some vt) (some vl)) :
    ∃ F, ItkAt W F bi N ⟨c, m, ts, ls, gs⟩ ∧ ∀ b, F b → w.heap.size ≤ b := by
  subst hT
  obtain ⟨n1, n2, n3, n4, n5⟩ := h.ni
  obtain ⟨k1, k2, k3, k4, k5, k6⟩ := h.hi
  have hk : ∀ b, b < w7.heap.size → b ≠ bi → W.heap[b]? = w7.heap[b]? := fun b hb hne => ho.keep.block b hb hne
  have hs := ho.keep.size
  have hot := ho.tk vt rfl
  have hol := ho.le vl rfl
  refine ⟨fun b => w.heap.size ≤ b ∧ b < W.heap.size, ⟨{ A with vt := vt, vl := vl, nl := ls.length, ng := gs.length }, ?_, parts_ok hp hbd ht hl, hl, hg, ?_, fun b hb => hb.2⟩, fun b hb => hb.1⟩
  · exact ⟨ho.blk, h.clk.keep (hk _ h.clk.lt (Ne.symm n1)) (hk _ h.clk.map.lt (Ne.symm n2)), h.had.keep hs (fun b hb => hk b (h.had.lt b hb) (fun e => n3 (e ▸ hb))), OwnE.low hot, OwnE.low hol, h.lates.block (hk _ h.lates.lt (Ne.symm n4)), h.gone.block (hk _ h.gone.lt (Ne.symm n5)), h.ml, h.mg, h.lg, h.gm, h.gl, h.gg, fun b hb => ho.ap vt vl rfl rfl b hb⟩
  · intro b hb
    rcases hb with hb | hb | hb | hb | hb | hb | hb | hb
    · have := h.ib; exact ⟨by omega, by omega⟩
    · have hb' : b = A.bc := hb
      have := h.clk.lt; exact ⟨by omega, by omega⟩
    · have hb' : b = A.bm := hb
      have := h.clk.map.lt; exact ⟨by omega, by omega⟩
    · have := h.had.lt b hb; exact ⟨k4 b hb, by omega⟩
    · have := World.ownsRow.lt hot b hb; have := h.sz; exact ⟨by omega, by omega⟩
    · have := World.ownsRow.lt hol b hb; have := h.sz; exact ⟨by omega, by omega⟩
    · have hb' : b = A.bl := hb
      have := h.lates.lt; exact ⟨by omega, by omega⟩
    · have hb' : b = A.bg := hb
      have := h.gone.lt; exact ⟨by omega, by omega⟩
end Go.Proofs.YtbejfgmdkmddnaaGreatDoor
