/-
  Layer 4: a disk in memory; Down, asked.
  Layer 4: the fuse. (A draft.)
  Layer 4: a disk in memory, its blocks hidden; found, full.
  Layer 4: a file is put; file.
-/
import Derived.Test.YtejjfhhppjdcaaaGreatDoorODkOk
import Derived.Test.YtejjfhhppjdcaaaGreatDoorOBytes
import Derived.Maps.OwnSet
namespace Go.Proofs.YtejjfhhppjdcaaaGreatDoor
open Go.RowKit Go.Maps Go.Sort

abbrev dkObj (bm : Nat) (d : Dk) : Obj := .cells #[.map (some bm), .int .i64 d.used, .bool d.lit, .int .i64 d.fuse, .bool d.down] 100
abbrev flObj (v : Value) (f : Fl) : Obj := .cells #[v, .int .i64 f.lasts, .bool f.stays] 118
/-- block bd is a disk, whose map is block bm; file s lies in block B s, its bytes' slice is V s; all its blocks are in G -/
structure DkAt (w : World) (G : Nat → Prop) (bd bm : Nat) (d : Dk) (B : List UInt8 → Nat) (V : List UInt8 → Value) : Prop where
  blk : w.heap[bd]? = some (dkObj bm d)
  map : MapS w bm (d.files.map fun p => (p.1, .pointer (some ⟨B p.1, 0, none⟩)))
  fl : ∀ p ∈ d.files, w.heap[B p.1]? = some (flObj (V p.1) p.2)
  own : ∀ p ∈ d.files, OwnB w 0 (V p.1) p.2.data
  apB : ∀ p ∈ d.files, ∀ q ∈ d.files, p.1 ≠ q.1 → B p.1 ≠ B q.1
  apV : ∀ p ∈ d.files, ∀ q ∈ d.files, p.1 ≠ q.1 → ∀ b, (V p.1).ownBlock = some b → (V q.1).ownBlock ≠ some b
  gd : G bd
  gm : G bm
  gB : ∀ p ∈ d.files, G (B p.1)
  gV : ∀ p ∈ d.files, ∀ b, (V p.1).ownBlock = some b → G b
  lt : ∀ b, G b → b < w.heap.size
  up : RowUp d.files
  nm : bd ≠ bm
  nB : ∀ p ∈ d.files, B p.1 ≠ bd ∧ B p.1 ≠ bm
  nV : ∀ p ∈ d.files, ∀ b, (V p.1).ownBlock = some b → b ≠ bd ∧ b ≠ bm ∧ ∀ q ∈ d.files, b ≠ B q.1
section
variable {w w' : World} {G : Nat → Prop} {bd bm : Nat} {d : Dk} {B : List UInt8 → Nat} {V : List UInt8 → Value}
theorem OwnB.keepB {w w' : World} {base : Nat} {v : Value} {l : List UInt8} (h : OwnB w base v l) (hb : ∀ b, v.ownBlock = some b → w'.heap[b]? = w.heap[b]?) : OwnB w' base v l := by
  refine ⟨h.1, ?_⟩
  rcases h.2 with ⟨e, hl⟩ | ⟨g, cap, cur, e, hb', hg, hr⟩
  · exact .inl ⟨e, hl⟩
  · exact .inr ⟨g, cap, cur, e, hb', (hb g (by rw [e]; rfl)).trans hg, hr⟩
theorem DkAt.keep (h : DkAt w G bd bm d B V) (hsz : w.heap.size ≤ w'.heap.size) (hk : ∀ b, G b → w'.heap[b]? = w.heap[b]?) : DkAt w' G bd bm d B V :=
  ⟨(hk _ h.gd).trans h.blk, h.map.block (hk _ h.gm), fun p hp => (hk _ (h.gB p hp)).trans (h.fl p hp), fun p hp => (h.own p hp).keepB fun b hb => hk b (h.gV p hp b hb), h.apB, h.apV, h.gd, h.gm, h.gB, h.gV, fun b hb => Nat.lt_of_lt_of_le (h.lt b hb) hsz, h.up, h.nm, h.nB, h.nV⟩
theorem DkAt.up_ (h : DkAt w G bd bm d B V) (hb : Below w.heap.size w w') : DkAt w' G bd bm d B V := h.keep hb.size fun b hg => hb.block b (h.lt b hg)
theorem DkAt.cells (h : DkAt w G bd bm d B V) : w.cell? ⟨bd, 0, none⟩ = some (.map (some bm)) ∧ w.cell? ⟨bd, 1, none⟩ = some (.int .i64 d.used) ∧ w.cell? ⟨bd, 2, none⟩ = some (.bool d.lit) ∧ w.cell? ⟨bd, 3, none⟩ = some (.int .i64 d.fuse) ∧ w.cell? ⟨bd, 4, none⟩ = some (.bool d.down) := by
  have key : ∀ o, w.cell? ⟨bd, o, none⟩ = _ := fun o => cell_of_row w bd o _ _ (0, 0) h.blk
  exact ⟨(key 0).trans rfl, (key 1).trans rfl, (key 2).trans rfl, (key 3).trans rfl, (key 4).trans rfl⟩
theorem DkAt.frozen (h : DkAt w G bd bm d B V) (o : Nat) : w.frozen? ⟨bd, o, none⟩ = false := frozen_of_row w bd o _ _ h.blk
end
theorem dkdown_any (w : World) (G : Nat → Prop) (bd bm : Nat) (d : Dk) (B : List UInt8 → Nat) (V : List UInt8 → Value) (h : DkAt w G bd bm d B V) : Calls Tryz.prog 62 #[.pointer (some ⟨bd, 0, none⟩)] w fun e w' => e = .returned (.bool d.down) ∧ w = w' := by
  obtain ⟨c0, c1, c2, c3, c4⟩ := h.cells
  go_enter Tryz.func62, Tryz.ntmps62
  go_wp2
  go_ret
  exact ⟨rfl, rfl⟩
theorem dkasked_any (w : World) (G : Nat → Prop) (bd bm : Nat) (d : Dk) (B : List UInt8 → Nat) (V : List UInt8 → Value) (h : DkAt w G bd bm d B V) (s : List UInt8) : Calls Tryz.prog 74 #[.pointer (some ⟨bd, 0, none⟩), .string ⟨s.toArray⟩] w fun e w' => e = .returned (.int .i64 (d.asked s)) ∧ w = w' := by
  obtain ⟨c0, c1, c2, c3, c4⟩ := h.cells
  have HA := Lib.hid (show d.asked s = if d.down then 8 else if s.length < 1 ∨ 64 < s.length then 1 else 0 from rfl)
  cases hd : d.down
  · rw [hd] at c4
    by_cases h1 : s.length < 1
    · have HV := Lib.hid (show d.asked s = 1 by rw [HA.out, hd, if_neg (by simp), if_pos (.inl h1)])
      have hs : s = [] := List.eq_nil_of_length_eq_zero (by omega)
      subst hs
      clear h1 hd
      go_enter Tryz.func74, Tryz.ntmps74
      go_wp2
      go_ret
      exact ⟨ret_int HV.out.symm, rfl⟩
    · by_cases h2 : 64 < s.length
      · have HV := Lib.hid (show d.asked s = 1 by rw [HA.out, hd, if_neg (by simp), if_pos (.inr h2)])
        have t1 : ¬ (s.length : Int) < 1 := by omega
        have t2 : (64 : Int) < s.length := by omega
        clear hd
        go_enter Tryz.func74, Tryz.ntmps74
        go_wp2
        go_ret
        exact ⟨ret_int HV.out.symm, rfl⟩
      · have HV := Lib.hid (show d.asked s = 0 by rw [HA.out, hd, if_neg (by simp), if_neg (by omega)])
        have t1 : ¬ (s.length : Int) < 1 := by omega
        have t2 : ¬ (64 : Int) < s.length := by omega
        clear hd
        go_enter Tryz.func74, Tryz.ntmps74
        go_wp2
        go_ret
        exact ⟨ret_int HV.out.symm, rfl⟩
  · rw [hd] at c4
    have HV := Lib.hid (show d.asked s = 8 by rw [HA.out, hd]; rfl)
    clear hd
    go_enter Tryz.func74, Tryz.ntmps74
    go_wp2
    go_ret
    exact ⟨ret_int HV.out.symm, rfl⟩
end Go.Proofs.YtejjfhhppjdcaaaGreatDoor
namespace Go.Proofs.YtejjfhhppjdcaaaGreatDoor
open Go.RowKit Go.Maps Go.Sort

section
variable {w w' : World} {G : Nat → Prop} {bd bm : Nat} {d : Dk} {B : List UInt8 → Nat} {V : List UInt8 → Value}
/-- the disk's own block is written anew, nothing else -/
theorem DkAt.head (h : DkAt w G bd bm d B V) (d' : Dk) (hf : d'.files = d.files) (hb : w'.heap[bd]? = some (dkObj bm d')) (hs : w'.heap.size = w.heap.size) (hk : ∀ b, b ≠ bd → w'.heap[b]? = w.heap[b]?) : DkAt w' G bd bm d' B V := by
  refine ⟨hb, ?_, ?_, ?_, ?_, ?_, h.gd, h.gm, ?_, ?_, fun b hb => hs ▸ h.lt b hb, hf ▸ h.up, h.nm, hf ▸ h.nB, hf ▸ h.nV⟩
  · rw [hf]; exact h.map.block (hk _ (Ne.symm h.nm))
  · rw [hf]; exact fun p hp => (hk _ (h.nB p hp).1).trans (h.fl p hp)
  · rw [hf]; exact fun p hp => (h.own p hp).keepB fun b hb => hk b (h.nV p hp b hb).1
  · rw [hf]; exact h.apB
  · rw [hf]; exact h.apV
  · rw [hf]; exact h.gB
  · rw [hf]; exact h.gV
end
def StepPost (w : World) (G : Nat → Prop) (bd bm : Nat) (d : Dk) (B : List UInt8 → Nat) (V : List UInt8 → Value) (e : Ending) (w' : World) : Prop :=
  e = .returned (.bool d.stepB) ∧ DkAt w' G bd bm d.step B V ∧ Keep (· = bd) w w' ∧ w'.heap.size = w.heap.size
theorem dkstep_any (w : World) (G : Nat → Prop) (bd bm : Nat) (d : Dk) (B : List UInt8 → Nat) (V : List UInt8 → Value) (h : DkAt w G bd bm d B V) (hf : 0 ≤ d.fuse ∧ d.fuse ≤ 1000) :
    Calls Tryz.prog 73 #[.pointer (some ⟨bd, 0, none⟩)] w (StepPost w G bd bm d B V) := by
  obtain ⟨c0, c1, c2, c3, c4⟩ := h.cells
  have f3 := h.frozen 3
  have f4 := h.frozen 4
  have HH := Lib.hid h; have HB := Lib.hid h.blk
  clear h
  cases hl : d.lit
  · have HR := Lib.hid (show StepPost w G bd bm d B V (.returned (.bool true)) w by
      have := Dk.step_dark hl
      refine ⟨by rw [this.2], ?_, Keep.refl _ _, rfl⟩
      rw [this.1]; exact HH.out)
    rw [hl] at c2
    go_enter Tryz.func73, Tryz.ntmps73
    go_wp2
    go_ret
    exact HR.out
  · rw [hl] at c2
    by_cases h0 : d.fuse = 0
    · have HR := Lib.hid (show StepPost w G bd bm d B V (.returned (.bool false)) (w.setCell ⟨bd, 4, none⟩ (.bool true)) by
        refine ⟨by simp [Dk.stepB, hl, h0], ?_, (Keep.refl (fun b => b = bd) w).setCell (p := ⟨bd, 4, none⟩) (fun _ => rfl) _, by simp [World.setCell]⟩
        refine HH.out.head _ ?_ ?_ (by simp [World.setCell]) (fun b hb => Below.heap_setCell _ _ _ _ hb)
        · simp [Dk.step, hl, h0]
        · rw [heap_set_row HB.out]; simp [Dk.step, hl, h0])
      rw [h0] at c3
      clear hl h0
      go_enter Tryz.func73, Tryz.ntmps73
      go_wp2
      go_ret
      exact HR.out
    · have HR := Lib.hid (show StepPost w G bd bm d B V (.returned (.bool true)) (w.setCell ⟨bd, 3, none⟩ (.int .i64 (d.fuse - 1))) by
        refine ⟨by simp [Dk.stepB, hl, h0], ?_, (Keep.refl (fun b => b = bd) w).setCell (p := ⟨bd, 3, none⟩) (fun _ => rfl) _, by simp [World.setCell]⟩
        refine HH.out.head _ ?_ ?_ (by simp [World.setCell]) (fun b hb => Below.heap_setCell _ _ _ _ hb)
        · simp [Dk.step, hl, h0]
        · rw [heap_set_row HB.out]; simp [Dk.step, hl, h0])
      clear hl
      go_enter Tryz.func73, Tryz.ntmps73
      go_wp2
      go_ret
      exact HR.out
end Go.Proofs.YtejjfhhppjdcaaaGreatDoor
namespace Go.Proofs.YtejjfhhppjdcaaaGreatDoor
open Go.RowKit Go.Maps Go.Sort

theorem MapS.look2 {w : World} {b : Nat} {m : Row Value} (h : MapS w b m) (k : List UInt8) (hk : k.length ≤ maxLen) (t e : TypeId) (ht : Tryz.prog.underlying t = some (.map 9 e)) (z : Value) (hz : (zeroValue e).run Tryz.prog w = .ok z w) :
    (Instr.lookup t (.map (some b)) (.string ⟨k.toArray⟩) true).run Tryz.prog w = .ok (.tuple #[(getB m k).getD z, .bool (getB m k).isSome]) w := by
  obtain ⟨v, ps, hr, hv⟩ := World.ownsMap.look_ok h keyS ht hz (zd := .held z) (zp := []) rfl (key_str k hk)
  rw [mapD_at] at hv
  rw [hr, mapD_has]
  simp only [raw, Option.some.injEq, Prod.mk.injEq, DataW.held.injEq] at hv
  rw [hv.1]
theorem MapS.len {w : World} {b : Nat} {m : Row Value} (h : MapS w b m) (t e : TypeId) (ht : Tryz.prog.underlying t = some (.map 9 e)) (ty : TypeId) : (Builtin.len_ #[t] ty #[.map (some b)]).run Tryz.prog w = .ok (.int .i64 (m.length : Int)) w := by
  have := World.ownsMap.len (show w.ownsMap Tryz.prog 9 raw b _ _ from h) ht ty
  rw [this]; simp [mapD, Maps.size]

/-- block bd is a disk -/
def DkIn (w : World) (G : Nat → Prop) (bd : Nat) (d : Dk) : Prop := d.Ok ∧ ∃ bm B V, DkAt w G bd bm d B V
/-- a deed at a disk -/
def DkD (w : World) (G : Nat → Prop) (bd : Nat) (d' : Dk) (w' : World) : Prop := ∃ G', DkIn w' G' bd d' ∧ (∀ b, G' b → G b ∨ w.heap.size ≤ b) ∧ Keep G w w'
section
variable {w w' : World} {G : Nat → Prop} {bd bm : Nat} {d : Dk} {B : List UInt8 → Nat} {V : List UInt8 → Value}
theorem DkIn.keep (h : DkIn w G bd d) (hsz : w.heap.size ≤ w'.heap.size) (hk : ∀ b, G b → w'.heap[b]? = w.heap[b]?) : DkIn w' G bd d := by
  obtain ⟨ho, bm, B, V, h⟩ := h
  exact ⟨ho, bm, B, V, h.keep hsz hk⟩
theorem DkIn.up (h : DkIn w G bd d) (hb : Below w.heap.size w w') : DkIn w' G bd d := by
  obtain ⟨ho, bm, B, V, h⟩ := h
  exact ⟨ho, bm, B, V, h.up_ hb⟩
theorem DkIn.lt (h : DkIn w G bd d) : ∀ b, G b → b < w.heap.size := by
  obtain ⟨ho, bm, B, V, h⟩ := h
  exact h.lt
theorem DkIn.gd (h : DkIn w G bd d) : G bd := by
  obtain ⟨ho, bm, B, V, h⟩ := h
  exact h.gd
theorem DkD.refl (h : DkIn w G bd d) : DkD w G bd d w := ⟨G, h, fun _ h => .inl h, Keep.refl _ _⟩
theorem Dk.rowv (d : Dk) (B : List UInt8 → Nat) (s : List UInt8) : getB (d.files.map fun p => (p.1, (Value.pointer (some ⟨B p.1, 0, none⟩)))) s = (getB d.files s).map fun _ => .pointer (some ⟨B s, 0, none⟩) := by
  unfold getB
  rw [List.find?_map]
  cases hf : d.files.find? ((fun p : List UInt8 × Value => p.1 == s) ∘ fun p => (p.1, (Value.pointer (some ⟨B p.1, 0, none⟩)))) with
  | none =>
    have : d.files.find? (fun p => p.1 == s) = none := hf
    rw [this]; rfl
  | some p =>
    have h2 : d.files.find? (fun p => p.1 == s) = some p := hf
    have := List.find?_some h2
    simp at this
    rw [h2]; simp [this]
/-- the place of a file -/
def ptrOf (d : Dk) (B : List UInt8 → Nat) (s : List UInt8) : Value := if (getB d.files s).isSome then .pointer (some ⟨B s, 0, none⟩) else .pointer none
theorem DkAt.look (h : DkAt w G bd bm d B V) (s : List UInt8) (hs : s.length ≤ 1000000) : (Instr.lookup 98 (.map (some bm)) (.string ⟨s.toArray⟩) true).run Tryz.prog w = .ok (.tuple #[ptrOf d B s, .bool (getB d.files s).isSome]) w := by
  have := h.map.look2 s (by unfold maxLen; omega) 98 114 Tryz.underlying98 (.pointer none) (by kernel_rfl)
  rw [this, Dk.rowv]
  unfold ptrOf
  cases getB d.files s <;> rfl
end
set_option maxRecDepth 100000 in
theorem dkfound_any (w : World) (G : Nat → Prop) (bd bm : Nat) (d : Dk) (B : List UInt8 → Nat) (V : List UInt8 → Value) (h : DkAt w G bd bm d B V) (s : List UInt8) (hs : s.length ≤ 1000000) :
    Calls Tryz.prog 71 #[.pointer (some ⟨bd, 0, none⟩), .string ⟨s.toArray⟩] w fun e w' => e = .returned (.tuple #[if d.found s = 0 then .pointer (some ⟨B s, 0, none⟩) else .pointer none, .int .i64 (d.found s)]) ∧ w = w' := by
  obtain ⟨c0, c1, c2, c3, c4⟩ := h.cells
  have HL := Lib.hid (h.look s hs)
  have HA := Lib.hid (dkasked_any w G bd bm d B V h s)
  clear h
  by_cases h0 : d.asked s = 0
  · rw [h0] at HA
    cases hg : getB d.files s with
    | none =>
      have hf : d.found s = 6 := by unfold Dk.found; rw [if_neg (by simp [h0]), hg]; rfl
      have hl := HL.out
      rw [show ptrOf d B s = .pointer none by unfold ptrOf; rw [hg]; rfl, hg] at hl
      rw [hf]
      go_enter Tryz.func71, Tryz.ntmps71
      go_wp2_with fail
      refine HA.out.mono ?_
      rintro e w1 ⟨rfl, rfl⟩
      go_wp2
      go_ret2
      exact ⟨rfl, rfl⟩
    | some f =>
      have hf : d.found s = 0 := by unfold Dk.found; rw [if_neg (by simp [h0]), hg]; rfl
      have hl := HL.out
      rw [show ptrOf d B s = .pointer (some ⟨B s, 0, none⟩) by unfold ptrOf; rw [hg]; rfl, hg] at hl
      rw [hf]
      go_enter Tryz.func71, Tryz.ntmps71
      go_wp2_with fail
      refine HA.out.mono ?_
      rintro e w1 ⟨rfl, rfl⟩
      go_wp2
      go_ret2
      exact ⟨rfl, rfl⟩
  · have hf : d.found s = d.asked s := by unfold Dk.found; rw [if_pos h0]
    have HF := Lib.hid hf
    rw [hf, if_neg h0]
    go_enter Tryz.func71, Tryz.ntmps71
    go_wp2_with fail
    refine HA.out.mono ?_
    rintro e w1 ⟨rfl, rfl⟩
    go_wp2
    go_ret2
    exact ⟨rfl, rfl⟩
set_option maxRecDepth 100000 in
theorem dkfull_any (w : World) (G : Nat → Prop) (bd bm : Nat) (d : Dk) (B : List UInt8 → Nat) (V : List UInt8 → Value) (h : DkAt w G bd bm d B V) (ho : d.Ok) (s : List UInt8) (hs : s.length ≤ 1000000) (m : Int) (hm : -1000000000 ≤ m ∧ m ≤ 1000000000) :
    Calls Tryz.prog 75 #[.pointer (some ⟨bd, 0, none⟩), .string ⟨s.toArray⟩, .int .i64 m] w fun e w' => e = .returned (.bool (d.fullB s m)) ∧ w = w' := by
  obtain ⟨c0, c1, c2, c3, c4⟩ := h.cells
  have HL := Lib.hid (h.look s hs)
  have hlen : ∀ ty, (Builtin.len_ #[98] ty #[.map (some bm)]).run Tryz.prog w = .ok (.int .i64 (d.files.length : Int)) w := fun ty => by
    rw [h.map.len 98 _ Tryz.underlying98 ty]; simp
  have hu0 := ho.used0
  have hu1 := ho.max
  have hn0 := ho.num
  have HFB := Lib.hid (show d.fullB s m = (decide (4194304 < d.used + m) || ((getB d.files s).isNone && decide (4096 ≤ d.files.length))) from rfl)
  clear h ho
  have hl := HL.out
  by_cases h1 : 4194304 < d.used + m
  · have HV := Lib.hid (show d.fullB s m = true by rw [HFB.out, decide_eq_true h1]; rfl)
    generalize (getB d.files s).isSome = there at hl
    generalize ptrOf d B s = pp at hl
    go_enter Tryz.func75, Tryz.ntmps75
    go_wp2
    go_ret
    exact ⟨ret_bool HV.out.symm, rfl⟩
  · cases hg : getB d.files s with
    | some f =>
      have HV := Lib.hid (show d.fullB s m = false by rw [HFB.out, decide_eq_false h1, hg]; rfl)
      rw [hg] at hl
      generalize ptrOf d B s = pp at hl
      clear hg
      go_enter Tryz.func75, Tryz.ntmps75
      go_wp2
      go_ret
      exact ⟨ret_bool HV.out.symm, rfl⟩
    | none =>
      have HV := Lib.hid (show d.fullB s m = decide ((4096 : Int) ≤ d.files.length) by rw [HFB.out, decide_eq_false h1, hg]; simp; omega)
      rw [hg] at hl
      generalize ptrOf d B s = pp at hl
      clear hg
      by_cases h2 : (4096 : Int) ≤ d.files.length
      · rw [decide_eq_true h2] at HV
        go_enter Tryz.func75, Tryz.ntmps75
        go_wp2
        go_ret
        exact ⟨ret_bool HV.out.symm, rfl⟩
      · rw [decide_eq_false h2] at HV
        go_enter Tryz.func75, Tryz.ntmps75
        go_wp2
        go_ret
        exact ⟨ret_bool HV.out.symm, rfl⟩
end Go.Proofs.YtejjfhhppjdcaaaGreatDoor
namespace Go.Proofs.YtejjfhhppjdcaaaGreatDoor
open Go.RowKit Go.Maps Go.Sort

theorem rowUp_same {α : Type} {a b : Row α} (ha : RowUp a) (hb : RowUp b) (h : ∀ p, p ∈ a ↔ p ∈ b) : a = b := by
  have key : ∀ m : Row α, RowUp m → m.Nodup := fun m hm => hm.imp fun {x y} hxy e => by rw [e, bb_irrefl] at hxy; cases hxy
  refine List.Perm.eq_of_pairwise (le := fun (x y : List UInt8 × α) => bytesBefore x.1 y.1 = true) (fun x y _ _ h1 h2 => ?_) ha hb ((List.perm_ext_iff_of_nodup (key a ha) (key b hb)).2 h)
  have := bb_trans h1 h2
  rw [bb_irrefl] at this; cases this
theorem RowUp.mapv {α β : Type} {m : Row α} (h : RowUp m) (f : List UInt8 → β) : RowUp (m.map fun p => (p.1, f p.1)) := List.pairwise_map.2 h
section
variable {w w' : World} {G : Nat → Prop} {bd bm : Nat} {d : Dk} {B : List UInt8 → Nat} {V : List UInt8 → Value}
/-- a map to places does not turn if a file that is there is put -/
theorem map_put_here {m : Row Fl} (h : RowUp m) {s : List UInt8} {f : Fl} (f' : Fl) (hf : getB m s = some f) (g : List UInt8 → Value) : (putB s f' m).map (fun p => (p.1, g p.1)) = m.map fun p => (p.1, g p.1) := by
  refine rowUp_same ((putB_rising h s f').mapv g) (h.mapv g) fun p => ?_
  simp only [List.mem_map]
  constructor
  · rintro ⟨q, hq, rfl⟩
    rcases putB_mem.1 hq with rfl | ⟨hq, _⟩
    · exact ⟨_, getB_mem hf, rfl⟩
    · exact ⟨q, hq, rfl⟩
  · rintro ⟨q, hq, rfl⟩
    by_cases e : q.1 = s
    · exact ⟨(s, f'), putB_mem.2 (.inl rfl), by rw [← e]⟩
    · exact ⟨q, putB_mem.2 (.inr ⟨hq, e⟩), rfl⟩
theorem map_put_new {m : Row Fl} (h : RowUp m) (s : List UInt8) (f : Fl) (g g' : List UInt8 → Value) (hg : ∀ t, t ≠ s → g' t = g t) : (putB s f m).map (fun p => (p.1, g' p.1)) = putB s (g' s) (m.map fun p => (p.1, g p.1)) := by
  refine rowUp_same ((putB_rising h s f).mapv g') (putB_rising (h.mapv g) _ _) fun p => ?_
  rw [putB_mem]
  simp only [List.mem_map]
  constructor
  · rintro ⟨q, hq, rfl⟩
    rcases putB_mem.1 hq with rfl | ⟨hq, hne⟩
    · exact .inl rfl
    · exact .inr ⟨⟨q, hq, by rw [hg _ hne]⟩, hne⟩
  · rintro (rfl | ⟨⟨q, hq, rfl⟩, hne⟩)
    · exact ⟨(s, f), putB_mem.2 (.inl rfl), rfl⟩
    · exact ⟨q, putB_mem.2 (.inr ⟨hq, hne⟩), by rw [hg _ hne]⟩
theorem DkAt.set (h : DkAt w G bd bm d B V) (s : List UInt8) (f' : Fl) (v' : Value) (bf : Nat) (d' : Dk) (hd : d'.files = putB s f' d.files) (hblk : w'.heap[bd]? = some (dkObj bm d'))
    (hmap : MapS w' bm ((putB s f' d.files).map fun p => (p.1, .pointer (some ⟨(fun t => if t = s then bf else B t) p.1, 0, none⟩))))
    (hfl : w'.heap[bf]? = some (flObj v' f')) (hown : OwnB w' 0 v' f'.data) (hsz : w.heap.size ≤ w'.heap.size)
    (hk : ∀ b, G b → b ≠ bd → b ≠ bm → (∀ x, getB d.files s = some x → b ≠ B s ∧ (V s).ownBlock ≠ some b) → w'.heap[b]? = w.heap[b]?)
    (hbf : (∃ x, getB d.files s = some x ∧ bf = B s) ∨ w.heap.size ≤ bf)
    (hv : ∀ b, v'.ownBlock = some b → (∃ x, getB d.files s = some x ∧ (V s).ownBlock = some b) ∨ (w.heap.size ≤ b ∧ b ≠ bf)) :
    DkAt w' (fun b => G b ∨ b = bf ∨ v'.ownBlock = some b) bd bm d' (fun t => if t = s then bf else B t) (fun t => if t = s then v' else V t) := by
  have hbl : ∀ p ∈ d.files, B p.1 < w.heap.size := fun p hp => h.lt _ (h.gB p hp)
  have hvl : ∀ p ∈ d.files, ∀ b, (V p.1).ownBlock = some b → b < w.heap.size := fun p hp b hb => h.lt _ (h.gV p hp b hb)
  have hdl := h.lt _ h.gd
  have hml := h.lt _ h.gm
  -- the place of another file is no part of this one
  have oB : ∀ p ∈ d.files, p.1 ≠ s → B p.1 ≠ bf ∧ ∀ b, v'.ownBlock = some b → B p.1 ≠ b := fun p hp hne => by
    have := hbl p hp
    refine ⟨?_, fun b hb => ?_⟩
    · rcases hbf with ⟨x, hx, rfl⟩ | hbf
      · exact h.apB p hp _ (getB_mem hx) hne
      · omega
    · rcases hv b hb with ⟨x, hx, e⟩ | ⟨e, _⟩
      · exact Ne.symm ((h.nV _ (getB_mem hx) b e).2.2 p hp)
      · omega
  have oV : ∀ p ∈ d.files, p.1 ≠ s → ∀ b, (V p.1).ownBlock = some b → b ≠ bf ∧ v'.ownBlock ≠ some b := fun p hp hne b hb => by
    have := hvl p hp b hb
    refine ⟨?_, fun hb' => ?_⟩
    · rcases hbf with ⟨x, hx, rfl⟩ | hbf
      · exact (h.nV p hp b hb).2.2 _ (getB_mem hx)
      · omega
    · rcases hv b hb' with ⟨x, hx, e⟩ | ⟨e, _⟩
      · exact h.apV p hp _ (getB_mem hx) hne b hb e
      · omega
  have kB : ∀ p ∈ d.files, p.1 ≠ s → w'.heap[B p.1]? = w.heap[B p.1]? := fun p hp hne => hk _ (h.gB p hp) (h.nB p hp).1 (h.nB p hp).2 fun x hx => ⟨h.apB p hp _ (getB_mem hx) hne, fun e => (h.nV _ (getB_mem hx) _ e).2.2 p hp rfl⟩
  have kV : ∀ p ∈ d.files, p.1 ≠ s → ∀ b, (V p.1).ownBlock = some b → w'.heap[b]? = w.heap[b]? := fun p hp hne b hb => hk _ (h.gV p hp b hb) (h.nV p hp b hb).1 (h.nV p hp b hb).2.1 fun x hx => ⟨(h.nV p hp b hb).2.2 _ (getB_mem hx), fun e => h.apV p hp _ (getB_mem hx) hne b hb e⟩
  have bfn : bf ≠ bd ∧ bf ≠ bm := by
    rcases hbf with ⟨x, hx, rfl⟩ | hbf
    · exact h.nB _ (getB_mem hx)
    · exact ⟨by omega, by omega⟩
  have vn : ∀ b, v'.ownBlock = some b → b ≠ bd ∧ b ≠ bm ∧ b ≠ bf := fun b hb => by
    rcases hv b hb with ⟨x, hx, e⟩ | ⟨e, e'⟩
    · have := h.nV _ (getB_mem hx) b e
      refine ⟨this.1, this.2.1, ?_⟩
      rcases hbf with ⟨x', hx', rfl⟩ | hbf
      · exact this.2.2 _ (getB_mem hx')
      · have := hvl _ (getB_mem hx) b e; omega
    · exact ⟨by omega, by omega, e'⟩
  refine ⟨hblk, by rw [hd]; exact hmap, ?_, ?_, ?_, ?_, .inl h.gd, .inl h.gm, ?_, ?_, ?_, hd ▸ putB_rising h.up _ _, h.nm, ?_, ?_⟩
  · rw [hd]; intro p hp
    rcases putB_mem.1 hp with rfl | ⟨hp, hne⟩
    · simpa using hfl
    · simpa [hne] using (kB p hp hne).trans (h.fl p hp)
  · rw [hd]; intro p hp
    rcases putB_mem.1 hp with rfl | ⟨hp, hne⟩
    · simpa using hown
    · simpa [hne] using (h.own p hp).keepB (kV p hp hne)
  · rw [hd]; intro p hp q hq hpq
    rcases putB_mem.1 hp with rfl | ⟨hp, hne⟩ <;> rcases putB_mem.1 hq with rfl | ⟨hq, hne'⟩
    · exact absurd rfl hpq
    · simpa [hne'] using (oB q hq hne').1.symm
    · simpa [hne] using (oB p hp hne).1
    · simpa [hne, hne'] using h.apB p hp q hq hpq
  · rw [hd]; intro p hp q hq hpq b hb
    rcases putB_mem.1 hp with rfl | ⟨hp, hne⟩ <;> rcases putB_mem.1 hq with rfl | ⟨hq, hne'⟩
    · exact absurd rfl hpq
    · simp only [hne', if_true, if_false] at hb ⊢; exact fun e => (oV q hq hne' b e).2 hb
    · simp only [hne, if_true, if_false] at hb ⊢; exact (oV p hp hne b hb).2
    · simp only [hne, hne', if_false] at hb ⊢; exact h.apV p hp q hq hpq b hb
  · rw [hd]; intro p hp
    rcases putB_mem.1 hp with rfl | ⟨hp, hne⟩
    · simp
    · simp only [hne, if_false]; exact .inl (h.gB p hp)
  · rw [hd]; intro p hp b hb
    rcases putB_mem.1 hp with rfl | ⟨hp, hne⟩
    · simp only [if_true] at hb; exact .inr (.inr hb)
    · simp only [hne, if_false] at hb; exact .inl (h.gV p hp b hb)
  · rintro b (hb | rfl | hb)
    · exact Nat.lt_of_lt_of_le (h.lt b hb) hsz
    · exact (Array.getElem?_eq_some_iff.1 hfl).1
    · exact (World.ownsRow.lt hown b hb).2
  · rw [hd]; intro p hp
    rcases putB_mem.1 hp with rfl | ⟨hp, hne⟩
    · simpa using bfn
    · simpa [hne] using h.nB p hp
  · rw [hd]; intro p hp b hb
    rcases putB_mem.1 hp with rfl | ⟨hp, hne⟩
    · simp only [if_true] at hb
      refine ⟨(vn b hb).1, (vn b hb).2.1, fun q hq => ?_⟩
      rcases putB_mem.1 hq with rfl | ⟨hq, hne'⟩
      · simpa using (vn b hb).2.2
      · simpa [hne'] using ((oB q hq hne').2 b hb).symm
    · simp only [hne, if_false] at hb
      refine ⟨(h.nV p hp b hb).1, (h.nV p hp b hb).2.1, fun q hq => ?_⟩
      rcases putB_mem.1 hq with rfl | ⟨hq, hne'⟩
      · simpa using (oV p hp hne b hb).1
      · simpa [hne'] using (h.nV p hp b hb).2.2 q hq
end
/-- what file leaves: a file that wasn't there is there -/
def Dk.made (d : Dk) (s : List UInt8) : Dk := d.put s (d.file s)
def FilePost (w : World) (G : Nat → Prop) (bd bm : Nat) (d : Dk) (s : List UInt8) (e : Ending) (w' : World) : Prop :=
  ∃ G' B' V' f, e = .returned (.pointer (some ⟨B' s, 0, none⟩)) ∧ DkAt w' G' bd bm (d.made s) B' V' ∧ getB (d.made s).files s = some f ∧ f = d.file s ∧ (∀ b, G' b → G b ∨ w.heap.size ≤ b) ∧ Keep G w w'
set_option maxRecDepth 100000 in
theorem dkfile_any (w : World) (G : Nat → Prop) (bd bm : Nat) (d : Dk) (B : List UInt8 → Nat) (V : List UInt8 → Value) (h : DkAt w G bd bm d B V) (ho : d.Ok) (s : List UInt8) (hs : s.length ≤ 1000000) :
    Calls Tryz.prog 76 #[.pointer (some ⟨bd, 0, none⟩), .string ⟨s.toArray⟩] w (FilePost w G bd bm d s) := by
  obtain ⟨c0, c1, c2, c3, c4⟩ := h.cells
  have hl := h.look s hs
  have hn0 := ho.num
  have HH := Lib.hid h; have HO := Lib.hid ho
  have hdl := h.lt _ h.gd
  have hml := h.lt _ h.gm
  cases hg : getB d.files s with
  | some f =>
    have HR := Lib.hid (show FilePost w G bd bm d s (.returned (.pointer (some ⟨B s, 0, none⟩))) w by
      have e : d.made s = d := by
        unfold Dk.made Dk.put Dk.file
        rw [hg]
        have : putB s f d.files = d.files := rowUp_same (putB_rising h.up _ _) h.up fun p => by
          rw [putB_mem]
          constructor
          · rintro (rfl | h)
            · exact getB_mem hg
            · exact h.1
          · intro hp
            by_cases e : p.1 = s
            · left; exact h.up.key hp (getB_mem hg) e
            · exact .inr ⟨hp, e⟩
        simp only [Option.getD_some, this]
      exact ⟨G, B, V, f, rfl, by rw [e]; exact h, by rw [e]; exact hg, by unfold Dk.file; rw [hg]; rfl, fun _ h => .inl h, Keep.refl _ _⟩)
    rw [show ptrOf d B s = .pointer (some ⟨B s, 0, none⟩) by unfold ptrOf; rw [hg]; rfl, hg] at hl
    clear h hg ho
    go_enter Tryz.func76, Tryz.ntmps76
    go_wp2
    go_ret
    exact HR.out
  | none =>
    rw [show ptrOf d B s = .pointer none by unfold ptrOf; rw [hg]; rfl, hg] at hl
    have HG := Lib.hid hg
    clear h hg ho
    go_enter Tryz.func76, Tryz.ntmps76
    go_wp2_with (at_mapUpdate; refine wpList_mapS_put rfl _ _ _ _ _ rfl Tryz.underlying98 bm _ rfl (HH.out.map.block ?c1) ?c2 s rfl ?c3 _ rfl ?_)
    case c1 => exact heap_alloc_old _ _ hml
    case c2 => simp; unfold maxLen; omega
    case c3 => unfold maxLen; omega
    intro w1 hm1 hg1
    have HR := Lib.hid (show FilePost w G bd bm d s (.returned (.pointer (some ⟨w.heap.size, 0, none⟩))) w1 by
      have hfn : d.file s = Fl.none := by unfold Dk.file; rw [HG.out]; rfl
      have hs1 : w.heap.size + 1 ≤ w1.heap.size := by have := hg1.size; simpa using this
      have hk1 : ∀ b, b < w.heap.size → b ≠ bm → w1.heap[b]? = w.heap[b]? := fun b hb hne => (hg1.block b (by simp; omega) (fun e => hne (by simpa using e))).trans (heap_alloc_old _ _ hb)
      have hnb : w1.heap[w.heap.size]? = some (flObj (.slice none 0 0) Fl.none) := (hg1.block _ (by simp) (fun e => absurd (show w.heap.size = bm by simpa using e) (by omega))).trans (heap_alloc_new w _)
      have key := HH.out.set (w' := w1) s Fl.none (.slice none 0 0) w.heap.size (d.made s) (by unfold Dk.made; rw [hfn]; rfl) ((hk1 bd hdl HH.out.nm).trans HH.out.blk)
        (by
          have := map_put_new HH.out.up s Fl.none (fun t => .pointer (some ⟨B t, 0, none⟩)) (fun t => .pointer (some ⟨if t = s then w.heap.size else B t, 0, none⟩)) (fun t ht => by simp [ht])
          rw [this]; simpa using hm1)
        hnb (OwnB.nil _ _) (by omega) (fun b hb _ h2 _ => hk1 b (HH.out.lt b hb) h2) (.inr (Nat.le_refl _)) (fun b hb => by cases hb)
      refine ⟨_, _, _, Fl.none, ?_, key, ?_, hfn.symm, ?_, ?_⟩
      · simp
      · unfold Dk.made; rw [hfn]; exact getB_put_same _ _ _
      · rintro b (hb | rfl | hb)
        · exact .inl hb
        · exact .inr (Nat.le_refl _)
        · cases hb
      · exact ((Keep.refl G w).alloc _).trans (Keep.of_grown (F := fun b => b = bm) hg1 (fun k e => by simpa using e.symm)) (fun b _ e => e ▸ HH.out.gm))
    clear hm1 hg1
    go_wp2
    go_ret
    exact HR.out
end Go.Proofs.YtejjfhhppjdcaaaGreatDoor
