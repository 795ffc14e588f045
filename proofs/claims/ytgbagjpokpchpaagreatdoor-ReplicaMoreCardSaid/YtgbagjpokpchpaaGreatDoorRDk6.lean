/-
  Layer 4: a disk in memory; Down, asked.
  Layer 4: the fuse. (A draft.)
  Layer 4, plain: a disk whose numbers are right.
  Layer 4: a disk in memory, its blocks hidden; found, full.
  Layer 4: a file is put; file.
  Layer 4: Append, Sync, Read.
  Layer 4: Sync.
-/
import Derived.Test.YtgbagjpokpchpaaGreatDoorRRowK
import Derived.Test.YtgbagjpokpchpaaGreatDoorRPnM
import Derived.Maps.OwnSet
namespace Go.Proofs.YtgbagjpokpchpaaGreatDoor
open Go.RowKit Go.Maps Go.Sort

abbrev dkObj (bm : Nat) (d : Dk) : Obj := .cells #[.map (some bm), .int .i64 d.used, .bool d.lit, .int .i64 d.fuse, .bool d.down] 97
abbrev flObj (v : Value) (f : Fl) : Obj := .cells #[v, .int .i64 f.lasts, .bool f.stays] 147
/-- block bd is a disk, whose map is block bm; file s lies in block B s, its bytes' slice is V s; all its blocks are in G -/
structure DkAt (w : World) (G : Nat → Prop) (bd bm : Nat) (d : Dk) (B : List UInt8 → Nat) (V : List UInt8 → Value) : Prop where
  blk : w.heap[bd]? = some (dkObj bm d)
  map : MapS w bm (d.files.map fun p => (p.1, .pointer (some ⟨B p.1, 0, none⟩)))
  fl : ∀ p ∈ d.files, w.heap[B p.1]? = some (flObj (V p.1) p.2)
  own : ∀ p ∈ d.files, OwnB w 0 (V p.1) p.2.data
  apB : ∀ p ∈ d.files, ∀ q ∈ d.files, p.1 ≠ q.1 → B p.1 ≠ B q.1
  apV : ∀ p ∈ d.files, ∀ q ∈ d.files, p.1 ≠ q.1 → ∀ b, (V p.1).ownBlock = some b → (V q.1).ownBlock ≠ some b
  gd : G bd
  gm : G bm
  gB : ∀ p ∈ d.files, G (B p.1)
  gV : ∀ p ∈ d.files, ∀ b, (V p.1).ownBlock = some b → G b
  lt : ∀ b, G b → b < w.heap.size
  up : RowUp d.files
  nm : bd ≠ bm
  nB : ∀ p ∈ d.files, B p.1 ≠ bd ∧ B p.1 ≠ bm
  nV : ∀ p ∈ d.files, ∀ b, (V p.1).ownBlock = some b → b ≠ bd ∧ b ≠ bm ∧ ∀ q ∈ d.files, b ≠ B q.1
section
variable {w w' : World} {G : Nat → Prop} {bd bm : Nat} {d : Dk} {B : List UInt8 → Nat} {V : List UInt8 → Value}
theorem OwnB.keepB {w w' : World} {base : Nat} {v : Value} {l : List UInt8} (h : OwnB w base v l) (hb : ∀ b, v.ownBlock = some b → w'.heap[b]? = w.heap[b]?) : OwnB w' base v l := by
  refine ⟨h.1, ?_⟩
  rcases h.2 with ⟨e, hl⟩ | ⟨g, cap, cur, e, hb', hg, hr⟩
  · exact .inl ⟨e, hl⟩
  · exact .inr ⟨g, cap, cur, e, hb', (hb g (by rw [e]; rfl)).trans hg, hr⟩
theorem DkAt.keep (h : DkAt w G bd bm d B V) (hsz : w.heap.size ≤ w'.heap.size) (hk : ∀ b, G b → w'.heap[b]? = w.heap[b]?) : DkAt w' G bd bm d B V :=
  ⟨(hk _ h.gd).trans h.blk, h.map.block (hk _ h.gm), fun p hp => (hk _ (h.gB p hp)).trans (h.fl p hp), fun p hp => (h.own p hp).keepB fun b hb => hk b (h.gV p hp b hb), h.apB, h.apV, h.gd, h.gm, h.gB, h.gV, fun b hb => Nat.lt_of_lt_of_le (h.lt b hb) hsz, h.up, h.nm, h.nB, h.nV⟩
theorem DkAt.up_ (h : DkAt w G bd bm d B V) (hb : Below w.heap.size w w') : DkAt w' G bd bm d B V := h.keep hb.size fun b hg => hb.block b (h.lt b hg)
theorem DkAt.cells (h : DkAt w G bd bm d B V) : w.cell? ⟨bd, 0, none⟩ = some (.map (some bm)) ∧ w.cell? ⟨bd, 1, none⟩ = some (.int .i64 d.used) ∧ w.cell? ⟨bd, 2, none⟩ = some (.bool d.lit) ∧ w.cell? ⟨bd, 3, none⟩ = some (.int .i64 d.fuse) ∧ w.cell? ⟨bd, 4, none⟩ = some (.bool d.down) := by
  have key : ∀ o, w.cell? ⟨bd, o, none⟩ = _ := fun o => cell_of_row w bd o _ _ (0, 0) h.blk
  exact ⟨(key 0).trans rfl, (key 1).trans rfl, (key 2).trans rfl, (key 3).trans rfl, (key 4).trans rfl⟩
theorem DkAt.frozen (h : DkAt w G bd bm d B V) (o : Nat) : w.frozen? ⟨bd, o, none⟩ = false := frozen_of_row w bd o _ _ h.blk
end
theorem dkdown_any (w : World) (G : Nat → Prop) (bd bm : Nat) (d : Dk) (B : List UInt8 → Nat) (V : List UInt8 → Value) (h : DkAt w G bd bm d B V) : Calls Tryz.prog 53 #[.pointer (some ⟨bd, 0, none⟩)] w fun e w' => e = .returned (.bool d.down) ∧ w = w' := by
  obtain ⟨c0, c1, c2, c3, c4⟩ := h.cells
  go_enter Tryz.func53, Tryz.ntmps53
  go_wp2
  go_ret
  exact ⟨rfl, rfl⟩
theorem dkasked_any (w : World) (G : Nat → Prop) (bd bm : Nat) (d : Dk) (B : List UInt8 → Nat) (V : List UInt8 → Value) (h : DkAt w G bd bm d B V) (s : List UInt8) : Calls Tryz.prog 100 #[.pointer (some ⟨bd, 0, none⟩), .string ⟨s.toArray⟩] w fun e w' => e = .returned (.int .i64 (d.asked s)) ∧ w = w' := by
  obtain ⟨c0, c1, c2, c3, c4⟩ := h.cells
  have HA := Lib.hid (show d.asked s = if d.down then 8 else if s.length < 1 ∨ 64 < s.length then 1 else 0 from rfl)
  cases hd : d.down
  · rw [hd] at c4
    by_cases h1 : s.length < 1
    · have HV := Lib.hid (show d.asked s = 1 by rw [HA.out, hd, if_neg (by simp), if_pos (.inl h1)])
      have hs : s = [] := List.eq_nil_of_length_eq_zero (by omega)
      subst hs
      clear h1 hd
      go_enter Tryz.func100, Tryz.ntmps100
      go_wp2
      go_ret
      exact ⟨ret_int HV.out.symm, rfl⟩
    · by_cases h2 : 64 < s.length
      · have HV := Lib.hid (show d.asked s = 1 by rw [HA.out, hd, if_neg (by simp), if_pos (.inr h2)])
        have t1 : ¬ (s.length : Int) < 1 := by omega
        have t2 : (64 : Int) < s.length := by omega
        clear hd
        go_enter Tryz.func100, Tryz.ntmps100
        go_wp2
        go_ret
        exact ⟨ret_int HV.out.symm, rfl⟩
      · have HV := Lib.hid (show d.asked s = 0 by rw [HA.out, hd, if_neg (by simp), if_neg (by omega)])
        have t1 : ¬ (s.length : Int) < 1 := by omega
        have t2 : ¬ (64 : Int) < s.length := by omega
        clear hd
        go_enter Tryz.func100, Tryz.ntmps100
        go_wp2
        go_ret
        exact ⟨ret_int HV.out.symm, rfl⟩
  · rw [hd] at c4
    have HV := Lib.hid (show d.asked s = 8 by rw [HA.out, hd]; rfl)
    clear hd
    go_enter Tryz.func100, Tryz.ntmps100
    go_wp2
    go_ret
    exact ⟨ret_int HV.out.symm, rfl⟩
end Go.Proofs.YtgbagjpokpchpaaGreatDoor
namespace Go.Proofs.YtgbagjpokpchpaaGreatDoor
open Go.RowKit Go.Maps Go.Sort

section
variable {w w' : World} {G : Nat → Prop} {bd bm : Nat} {d : Dk} {B : List UInt8 → Nat} {V : List UInt8 → Value}
/-- the disk's own block is written anew, nothing else -/
theorem DkAt.head (h : DkAt w G bd bm d B V) (d' : Dk) (hf : d'.files = d.files) (hb : w'.heap[bd]? = some (dkObj bm d')) (hs : w'.heap.size = w.heap.size) (hk : ∀ b, b ≠ bd → w'.heap[b]? = w.heap[b]?) : DkAt w' G bd bm d' B V := by
  refine ⟨hb, ?_, ?_, ?_, ?_, ?_, h.gd, h.gm, ?_, ?_, fun b hb => hs ▸ h.lt b hb, hf ▸ h.up, h.nm, hf ▸ h.nB, hf ▸ h.nV⟩
  · rw [hf]; exact h.map.block (hk _ (Ne.symm h.nm))
  · rw [hf]; exact fun p hp => (hk _ (h.nB p hp).1).trans (h.fl p hp)
  · rw [hf]; exact fun p hp => (h.own p hp).keepB fun b hb => hk b (h.nV p hp b hb).1
  · rw [hf]; exact h.apB
  · rw [hf]; exact h.apV
  · rw [hf]; exact h.gB
  · rw [hf]; exact h.gV
end
def StepPost (w : World) (G : Nat → Prop) (bd bm : Nat) (d : Dk) (B : List UInt8 → Nat) (V : List UInt8 → Value) (e : Ending) (w' : World) : Prop :=
  e = .returned (.bool d.stepB) ∧ DkAt w' G bd bm d.step B V ∧ Keep (· = bd) w w' ∧ w'.heap.size = w.heap.size
theorem dkstep_any (w : World) (G : Nat → Prop) (bd bm : Nat) (d : Dk) (B : List UInt8 → Nat) (V : List UInt8 → Value) (h : DkAt w G bd bm d B V) (hf : 0 ≤ d.fuse ∧ d.fuse ≤ 1000) :
    Calls Tryz.prog 102 #[.pointer (some ⟨bd, 0, none⟩)] w (StepPost w G bd bm d B V) := by
  obtain ⟨c0, c1, c2, c3, c4⟩ := h.cells
  have f3 := h.frozen 3
  have f4 := h.frozen 4
  have HH := Lib.hid h; have HB := Lib.hid h.blk
  clear h
  cases hl : d.lit
  · have HR := Lib.hid (show StepPost w G bd bm d B V (.returned (.bool true)) w by
      have := Dk.step_dark hl
      refine ⟨by rw [this.2], ?_, Keep.refl _ _, rfl⟩
      rw [this.1]; exact HH.out)
    rw [hl] at c2
    go_enter Tryz.func102, Tryz.ntmps102
    go_wp2
    go_ret
    exact HR.out
  · rw [hl] at c2
    by_cases h0 : d.fuse = 0
    · have HR := Lib.hid (show StepPost w G bd bm d B V (.returned (.bool false)) (w.setCell ⟨bd, 4, none⟩ (.bool true)) by
        refine ⟨by simp [Dk.stepB, hl, h0], ?_, (Keep.refl (fun b => b = bd) w).setCell (p := ⟨bd, 4, none⟩) (fun _ => rfl) _, by simp [World.setCell]⟩
        refine HH.out.head _ ?_ ?_ (by simp [World.setCell]) (fun b hb => Below.heap_setCell _ _ _ _ hb)
        · simp [Dk.step, hl, h0]
        · rw [heap_set_row HB.out]; simp [Dk.step, hl, h0])
      rw [h0] at c3
      clear hl h0
      go_enter Tryz.func102, Tryz.ntmps102
      go_wp2
      go_ret
      exact HR.out
    · have HR := Lib.hid (show StepPost w G bd bm d B V (.returned (.bool true)) (w.setCell ⟨bd, 3, none⟩ (.int .i64 (d.fuse - 1))) by
        refine ⟨by simp [Dk.stepB, hl, h0], ?_, (Keep.refl (fun b => b = bd) w).setCell (p := ⟨bd, 3, none⟩) (fun _ => rfl) _, by simp [World.setCell]⟩
        refine HH.out.head _ ?_ ?_ (by simp [World.setCell]) (fun b hb => Below.heap_setCell _ _ _ _ hb)
        · simp [Dk.step, hl, h0]
        · rw [heap_set_row HB.out]; simp [Dk.step, hl, h0])
      clear hl
      go_enter Tryz.func102, Tryz.ntmps102
      go_wp2
      go_ret
      exact HR.out
end Go.Proofs.YtgbagjpokpchpaaGreatDoor
namespace Go.Proofs.YtgbagjpokpchpaaGreatDoor
open Go.RowKit Go.Maps Go.Sort

/-- bytes of all files -/
def total : Row Fl → Int
  | [] => 0
  | p :: m => p.2.data.length + total m
theorem total_nonneg : ∀ m : Row Fl, 0 ≤ total m
  | [] => Int.le_refl _
  | p :: m => by unfold total; have := total_nonneg m; omega
theorem total_ins (x : List UInt8 × Fl) : ∀ m : Row Fl, total (insB x m) = x.2.data.length + total m
  | [] => rfl
  | y :: r => by
    unfold insB
    split
    · rfl
    · simp only [total, total_ins x r]; omega
theorem total_filter : ∀ {m : Row Fl}, RowUp m → ∀ k, total (m.filter fun p => !(p.1 == k)) + ((getB m k).getD Fl.none).data.length = total m
  | [], _, k => by simp [total, getB, Fl.none]
  | y :: r, h, k => by
    obtain ⟨h1, h2⟩ := List.pairwise_cons.1 h
    have ih := total_filter h2 k
    by_cases e : y.1 = k
    · have hn : ∀ p ∈ r, p.1 ≠ k := fun p hp e' => by have := h1 p hp; rw [e, e', bb_irrefl] at this; cases this
      have hf : r.filter (fun p => !(p.1 == k)) = r := List.filter_eq_self.2 fun p hp => by simp [hn p hp]
      have hg : getB (y :: r) k = some y.2 := by unfold getB; simp [e]
      rw [hg, List.filter_cons, if_neg (by simp [e]), hf]
      simp only [total, Option.getD_some]; omega
    · have hg : getB (y :: r) k = getB r k := by unfold getB; simp [e]
      rw [hg, List.filter_cons, if_pos (by simp [e])]
      simp only [total]; omega
theorem total_put {m : Row Fl} (h : RowUp m) (k : List UInt8) (f : Fl) : total (putB k f m) = total m - ((getB m k).getD Fl.none).data.length + f.data.length := by
  unfold putB
  rw [total_ins]
  have := total_filter h k
  show (f.data.length : Int) + _ = _
  omega
theorem total_mem : ∀ {m : Row Fl} {p : List UInt8 × Fl}, p ∈ m → (p.2.data.length : Int) ≤ total m
  | y :: r, p, h => by
    unfold total
    rcases List.mem_cons.1 h with rfl | h
    · have := total_nonneg r; omega
    · have := total_mem h; omega
structure Dk.Ok (d : Dk) : Prop where
  up : RowUp d.files
  used : d.used = total d.files
  max : d.used ≤ 4194304
  fuse0 : 0 ≤ d.fuse
  fuse1 : d.fuse ≤ 1000
  num : d.files.length ≤ 4096
  las : ∀ p ∈ d.files, 0 ≤ p.2.lasts ∧ p.2.lasts ≤ p.2.data.length
theorem Dk.ok_new : Dk.new.Ok := ⟨by simp [Dk.new, RowUp], rfl, by simp [Dk.new], by simp [Dk.new], by simp [Dk.new], by simp [Dk.new], by simp [Dk.new]⟩
theorem Dk.Ok.used0 {d : Dk} (h : d.Ok) : 0 ≤ d.used := by rw [h.used]; exact total_nonneg _
theorem Dk.Ok.file_las {d : Dk} (h : d.Ok) (s : List UInt8) : 0 ≤ (d.file s).lasts ∧ (d.file s).lasts ≤ (d.file s).data.length := by
  unfold Dk.file
  cases hg : getB d.files s with
  | none => simp [Fl.none]
  | some f => exact h.las _ (getB_mem hg)
theorem Dk.Ok.file_len {d : Dk} (h : d.Ok) (s : List UInt8) : ((d.file s).data.length : Int) ≤ d.used := by
  unfold Dk.file
  cases hg : getB d.files s with
  | none => simpa [Fl.none] using h.used0
  | some f => rw [h.used]; exact total_mem (getB_mem hg)
theorem Dk.Ok.step {d : Dk} (h : d.Ok) : d.step.Ok := by
  unfold Dk.step
  split
  · split
    · exact ⟨h.up, h.used, h.max, h.fuse0, h.fuse1, h.num, h.las⟩
    · exact ⟨h.up, h.used, h.max, by have := h.fuse0; show 0 ≤ d.fuse - 1; omega, by have := h.fuse1; show d.fuse - 1 ≤ 1000; omega, h.num, h.las⟩
  · exact h
theorem Dk.step_files (d : Dk) : d.step.files = d.files ∧ d.step.used = d.used := by
  unfold Dk.step
  split
  · split <;> exact ⟨rfl, rfl⟩
  · exact ⟨rfl, rfl⟩
/-- a file is put in the place of the one that was there, or a new one, if there is room -/
theorem Dk.Ok.put {d : Dk} (h : d.Ok) (s : List UInt8) (f : Fl) (u : Int) (hu : u = d.used - (d.file s).data.length + f.data.length) (hm : u ≤ 4194304) (hr : (getB d.files s).isSome = true ∨ d.files.length < 4096) (hl : 0 ≤ f.lasts ∧ f.lasts ≤ f.data.length) : ({ d.put s f with used := u } : Dk).Ok := by
  refine ⟨putB_rising h.up _ _, ?_, hm, h.fuse0, h.fuse1, ?_, fun p hp => ?_⟩
  · show u = total (putB s f d.files)
    rw [hu, total_put h.up, ← h.used]; rfl
  · show (putB s f d.files).length ≤ 4096
    rcases hr with hr | hr
    · exact Nat.le_trans (putB_length_here f hr) h.num
    · have := putB_length_le d.files s f; omega
  · rcases putB_mem.1 hp with rfl | ⟨hp, _⟩
    · exact hl
    · exact h.las p hp
theorem Dk.full_no {d : Dk} {s : List UInt8} {m : Int} (h : d.fullB s m = false) : d.used + m ≤ 4194304 ∧ ((getB d.files s).isSome = true ∨ d.files.length < 4096) := by
  unfold Dk.fullB at h
  rw [Bool.or_eq_false_iff, decide_eq_false_iff_not, Bool.and_eq_false_iff] at h
  refine ⟨by omega, ?_⟩
  rcases h.2 with h | h
  · left; cases hg : getB d.files s <;> simp_all
  · right; rw [decide_eq_false_iff_not] at h; omega
theorem Dk.found_zero {d : Dk} {s : List UInt8} (h : d.found s = 0) : d.asked s = 0 ∧ (getB d.files s).isSome = true := by
  unfold Dk.found at h
  by_cases h0 : d.asked s = 0
  · refine ⟨h0, ?_⟩
    rw [if_neg (by simp [h0])] at h
    cases hg : getB d.files s with
    | none => rw [hg] at h; simp at h
    | some f => rfl
  · rw [if_pos h0] at h; exact absurd h h0
theorem Dk.Ok.sync {d : Dk} (h : d.Ok) (s : List UInt8) : (d.sync s).Ok := by
  unfold Dk.sync
  split
  · exact h
  · next hf =>
    have hf := Dk.found_zero (Decidable.not_not.1 hf)
    split
    · have hs := h.step
      have := hs.put s { d.file s with lasts := (d.file s).data.length, stays := true } d.step.used (by show d.step.used = d.step.used - (d.step.file s).data.length + ((d.file s).data.length : Int); unfold Dk.file; rw [d.step_files.1]; omega) hs.max (.inl (by rw [d.step_files.1]; exact hf.2)) ⟨by simp, by simp⟩
      exact this
    · exact h.step
end Go.Proofs.YtgbagjpokpchpaaGreatDoor
namespace Go.Proofs.YtgbagjpokpchpaaGreatDoor
open Go.RowKit Go.Maps Go.Sort

theorem MapS.look2 {w : World} {b : Nat} {m : Row Value} (h : MapS w b m) (k : List UInt8) (hk : k.length ≤ maxLen) (t e : TypeId) (ht : Tryz.prog.underlying t = some (.map 9 e)) (z : Value) (hz : (zeroValue e).run Tryz.prog w = .ok z w) :
    (Instr.lookup t (.map (some b)) (.string ⟨k.toArray⟩) true).run Tryz.prog w = .ok (.tuple #[(getB m k).getD z, .bool (getB m k).isSome]) w := by
  obtain ⟨v, ps, hr, hv⟩ := World.ownsMap.look_ok h keyS ht hz (zd := .held z) (zp := []) rfl (key_str k hk)
  rw [mapD_at] at hv
  rw [hr, mapD_has]
  simp only [raw, Option.some.injEq, Prod.mk.injEq, DataW.held.injEq] at hv
  rw [hv.1]
theorem MapS.len {w : World} {b : Nat} {m : Row Value} (h : MapS w b m) (t e : TypeId) (ht : Tryz.prog.underlying t = some (.map 9 e)) (ty : TypeId) : (Builtin.len_ #[t] ty #[.map (some b)]).run Tryz.prog w = .ok (.int .i64 (m.length : Int)) w := by
  have := World.ownsMap.len (show w.ownsMap Tryz.prog 9 raw b _ _ from h) ht ty
  rw [this]; simp [mapD, Maps.size]

/-- block bd is a disk -/
def DkIn (w : World) (G : Nat → Prop) (bd : Nat) (d : Dk) : Prop := d.Ok ∧ ∃ bm B V, DkAt w G bd bm d B V
/-- a deed at a disk -/
def DkD (w : World) (G : Nat → Prop) (bd : Nat) (d' : Dk) (w' : World) : Prop := ∃ G', DkIn w' G' bd d' ∧ (∀ b, G' b → G b ∨ w.heap.size ≤ b) ∧ Keep G w w'
section
variable {w w' : World} {G : Nat → Prop} {bd bm : Nat} {d : Dk} {B : List UInt8 → Nat} {V : List UInt8 → Value}
theorem DkIn.keep (h : DkIn w G bd d) (hsz : w.heap.size ≤ w'.heap.size) (hk : ∀ b, G b → w'.heap[b]? = w.heap[b]?) : DkIn w' G bd d := by
  obtain ⟨ho, bm, B, V, h⟩ := h
  exact ⟨ho, bm, B, V, h.keep hsz hk⟩
theorem DkIn.up (h : DkIn w G bd d) (hb : Below w.heap.size w w') : DkIn w' G bd d := by
  obtain ⟨ho, bm, B, V, h⟩ := h
  exact ⟨ho, bm, B, V, h.up_ hb⟩
theorem DkIn.lt (h : DkIn w G bd d) : ∀ b, G b → b < w.heap.size := by
  obtain ⟨ho, bm, B, V, h⟩ := h
  exact h.lt
theorem DkD.refl (h : DkIn w G bd d) : DkD w G bd d w := ⟨G, h, fun _ h => .inl h, Keep.refl _ _⟩
theorem Dk.rowv (d : Dk) (B : List UInt8 → Nat) (s : List UInt8) : getB (d.files.map fun p => (p.1, (Value.pointer (some ⟨B p.1, 0, none⟩)))) s = (getB d.files s).map fun _ => .pointer (some ⟨B s, 0, none⟩) := by
  unfold getB
  rw [List.find?_map]
  cases hf : d.files.find? ((fun p : List UInt8 × Value => p.1 == s) ∘ fun p => (p.1, (Value.pointer (some ⟨B p.1, 0, none⟩)))) with
  | none =>
    have : d.files.find? (fun p => p.1 == s) = none := hf
    rw [this]; rfl
  | some p =>
    have h2 : d.files.find? (fun p => p.1 == s) = some p := hf
    have := List.find?_some h2
    simp at this
    rw [h2]; simp [this]
/-- the place of a file -/
def ptrOf (d : Dk) (B : List UInt8 → Nat) (s : List UInt8) : Value := if (getB d.files s).isSome then .pointer (some ⟨B s, 0, none⟩) else .pointer none
theorem DkAt.look (h : DkAt w G bd bm d B V) (s : List UInt8) (hs : s.length ≤ 1000000) : (Instr.lookup 95 (.map (some bm)) (.string ⟨s.toArray⟩) true).run Tryz.prog w = .ok (.tuple #[ptrOf d B s, .bool (getB d.files s).isSome]) w := by
  have := h.map.look2 s (by unfold maxLen; omega) 95 143 Tryz.underlying95 (.pointer none) (by kernel_rfl)
  rw [this, Dk.rowv]
  unfold ptrOf
  cases getB d.files s <;> rfl
end
set_option maxRecDepth 100000 in
theorem dkfound_any (w : World) (G : Nat → Prop) (bd bm : Nat) (d : Dk) (B : List UInt8 → Nat) (V : List UInt8 → Value) (h : DkAt w G bd bm d B V) (s : List UInt8) (hs : s.length ≤ 1000000) :
    Calls Tryz.prog 96 #[.pointer (some ⟨bd, 0, none⟩), .string ⟨s.toArray⟩] w fun e w' => e = .returned (.tuple #[if d.found s = 0 then .pointer (some ⟨B s, 0, none⟩) else .pointer none, .int .i64 (d.found s)]) ∧ w = w' := by
  obtain ⟨c0, c1, c2, c3, c4⟩ := h.cells
  have HL := Lib.hid (h.look s hs)
  have HA := Lib.hid (dkasked_any w G bd bm d B V h s)
  clear h
  by_cases h0 : d.asked s = 0
  · rw [h0] at HA
    cases hg : getB d.files s with
    | none =>
      have hf : d.found s = 6 := by unfold Dk.found; rw [if_neg (by simp [h0]), hg]; rfl
      have hl := HL.out
      rw [show ptrOf d B s = .pointer none by unfold ptrOf; rw [hg]; rfl, hg] at hl
      rw [hf]
      go_enter Tryz.func96, Tryz.ntmps96
      go_wp2_with fail
      refine HA.out.mono ?_
      rintro e w1 ⟨rfl, rfl⟩
      go_wp2
      go_ret2
      exact ⟨rfl, rfl⟩
    | some f =>
      have hf : d.found s = 0 := by unfold Dk.found; rw [if_neg (by simp [h0]), hg]; rfl
      have hl := HL.out
      rw [show ptrOf d B s = .pointer (some ⟨B s, 0, none⟩) by unfold ptrOf; rw [hg]; rfl, hg] at hl
      rw [hf]
      go_enter Tryz.func96, Tryz.ntmps96
      go_wp2_with fail
      refine HA.out.mono ?_
      rintro e w1 ⟨rfl, rfl⟩
      go_wp2
      go_ret2
      exact ⟨rfl, rfl⟩
  · have hf : d.found s = d.asked s := by unfold Dk.found; rw [if_pos h0]
    have HF := Lib.hid hf
    rw [hf, if_neg h0]
    go_enter Tryz.func96, Tryz.ntmps96
    go_wp2_with fail
    refine HA.out.mono ?_
    rintro e w1 ⟨rfl, rfl⟩
    go_wp2
    go_ret2
    exact ⟨rfl, rfl⟩
set_option maxRecDepth 100000 in
theorem dkfull_any (w : World) (G : Nat → Prop) (bd bm : Nat) (d : Dk) (B : List UInt8 → Nat) (V : List UInt8 → Value) (h : DkAt w G bd bm d B V) (ho : d.Ok) (s : List UInt8) (hs : s.length ≤ 1000000) (m : Int) (hm : -1000000000 ≤ m ∧ m ≤ 1000000000) :
    Calls Tryz.prog 101 #[.pointer (some ⟨bd, 0, none⟩), .string ⟨s.toArray⟩, .int .i64 m] w fun e w' => e = .returned (.bool (d.fullB s m)) ∧ w = w' := by
  obtain ⟨c0, c1, c2, c3, c4⟩ := h.cells
  have HL := Lib.hid (h.look s hs)
  have hlen : ∀ ty, (Builtin.len_ #[95] ty #[.map (some bm)]).run Tryz.prog w = .ok (.int .i64 (d.files.length : Int)) w := fun ty => by
    rw [h.map.len 95 _ Tryz.underlying95 ty]; simp
  have hu0 := ho.used0
  have hu1 := ho.max
  have hn0 := ho.num
  have HFB := Lib.hid (show d.fullB s m = (decide (4194304 < d.used + m) || ((getB d.files s).isNone && decide (4096 ≤ d.files.length))) from rfl)
  clear h ho
  have hl := HL.out
  by_cases h1 : 4194304 < d.used + m
  · have HV := Lib.hid (show d.fullB s m = true by rw [HFB.out, decide_eq_true h1]; rfl)
    generalize (getB d.files s).isSome = there at hl
    generalize ptrOf d B s = pp at hl
    go_enter Tryz.func101, Tryz.ntmps101
    go_wp2
    go_ret
    exact ⟨ret_bool HV.out.symm, rfl⟩
  · cases hg : getB d.files s with
    | some f =>
      have HV := Lib.hid (show d.fullB s m = false by rw [HFB.out, decide_eq_false h1, hg]; rfl)
      rw [hg] at hl
      generalize ptrOf d B s = pp at hl
      clear hg
      go_enter Tryz.func101, Tryz.ntmps101
      go_wp2
      go_ret
      exact ⟨ret_bool HV.out.symm, rfl⟩
    | none =>
      have HV := Lib.hid (show d.fullB s m = decide ((4096 : Int) ≤ d.files.length) by rw [HFB.out, decide_eq_false h1, hg]; simp; omega)
      rw [hg] at hl
      generalize ptrOf d B s = pp at hl
      clear hg
      by_cases h2 : (4096 : Int) ≤ d.files.length
      · rw [decide_eq_true h2] at HV
        go_enter Tryz.func101, Tryz.ntmps101
        go_wp2
        go_ret
        exact ⟨ret_bool HV.out.symm, rfl⟩
      · rw [decide_eq_false h2] at HV
        go_enter Tryz.func101, Tryz.ntmps101
        go_wp2
        go_ret
        exact ⟨ret_bool HV.out.symm, rfl⟩
end Go.Proofs.YtgbagjpokpchpaaGreatDoor
namespace Go.Proofs.YtgbagjpokpchpaaGreatDoor
open Go.RowKit Go.Maps Go.Sort

theorem rowUp_same {α : Type} {a b : Row α} (ha : RowUp a) (hb : RowUp b) (h : ∀ p, p ∈ a ↔ p ∈ b) : a = b := by
  have key : ∀ m : Row α, RowUp m → m.Nodup := fun m hm => hm.imp fun {x y} hxy e => by rw [e, bb_irrefl] at hxy; cases hxy
  refine List.Perm.eq_of_pairwise (le := fun (x y : List UInt8 × α) => bytesBefore x.1 y.1 = true) (fun x y _ _ h1 h2 => ?_) ha hb ((List.perm_ext_iff_of_nodup (key a ha) (key b hb)).2 h)
  have := bb_trans h1 h2
  rw [bb_irrefl] at this; cases this
theorem RowUp.mapv {α β : Type} {m : Row α} (h : RowUp m) (f : List UInt8 → β) : RowUp (m.map fun p => (p.1, f p.1)) := List.pairwise_map.2 h
section
variable {w w' : World} {G : Nat → Prop} {bd bm : Nat} {d : Dk} {B : List UInt8 → Nat} {V : List UInt8 → Value}
/-- a map to places does not turn if a file that is there is put -/
theorem map_put_here {m : Row Fl} (h : RowUp m) {s : List UInt8} {f : Fl} (f' : Fl) (hf : getB m s = some f) (g : List UInt8 → Value) : (putB s f' m).map (fun p => (p.1, g p.1)) = m.map fun p => (p.1, g p.1) := by
  refine rowUp_same ((putB_rising h s f').mapv g) (h.mapv g) fun p => ?_
  simp only [List.mem_map]
  constructor
  · rintro ⟨q, hq, rfl⟩
    rcases putB_mem.1 hq with rfl | ⟨hq, _⟩
    · exact ⟨_, getB_mem hf, rfl⟩
    · exact ⟨q, hq, rfl⟩
  · rintro ⟨q, hq, rfl⟩
    by_cases e : q.1 = s
    · exact ⟨(s, f'), putB_mem.2 (.inl rfl), by rw [← e]⟩
    · exact ⟨q, putB_mem.2 (.inr ⟨hq, e⟩), rfl⟩
theorem map_put_new {m : Row Fl} (h : RowUp m) (s : List UInt8) (f : Fl) (g g' : List UInt8 → Value) (hg : ∀ t, t ≠ s → g' t = g t) : (putB s f m).map (fun p => (p.1, g' p.1)) = putB s (g' s) (m.map fun p => (p.1, g p.1)) := by
  refine rowUp_same ((putB_rising h s f).mapv g') (putB_rising (h.mapv g) _ _) fun p => ?_
  rw [putB_mem]
  simp only [List.mem_map]
  constructor
  · rintro ⟨q, hq, rfl⟩
    rcases putB_mem.1 hq with rfl | ⟨hq, hne⟩
    · exact .inl rfl
    · exact .inr ⟨⟨q, hq, by rw [hg _ hne]⟩, hne⟩
  · rintro (rfl | ⟨⟨q, hq, rfl⟩, hne⟩)
    · exact ⟨(s, f), putB_mem.2 (.inl rfl), rfl⟩
    · exact ⟨q, putB_mem.2 (.inr ⟨hq, hne⟩), by rw [hg _ hne]⟩
theorem DkAt.set (h : DkAt w G bd bm d B V) (s : List UInt8) (f' : Fl) (v' : Value) (bf : Nat) (d' : Dk) (hd : d'.files = putB s f' d.files) (hblk : w'.heap[bd]? = some (dkObj bm d'))
    (hmap : MapS w' bm ((putB s f' d.files).map fun p => (p.1, .pointer (some ⟨(fun t => if t = s then bf else B t) p.1, 0, none⟩))))
    (hfl : w'.heap[bf]? = some (flObj v' f')) (hown : OwnB w' 0 v' f'.data) (hsz : w.heap.size ≤ w'.heap.size)
    (hk : ∀ b, G b → b ≠ bd → b ≠ bm → (∀ x, getB d.files s = some x → b ≠ B s ∧ (V s).ownBlock ≠ some b) → w'.heap[b]? = w.heap[b]?)
    (hbf : (∃ x, getB d.files s = some x ∧ bf = B s) ∨ w.heap.size ≤ bf)
    (hv : ∀ b, v'.ownBlock = some b → (∃ x, getB d.files s = some x ∧ (V s).ownBlock = some b) ∨ (w.heap.size ≤ b ∧ b ≠ bf)) :
    DkAt w' (fun b => G b ∨ b = bf ∨ v'.ownBlock = some b) bd bm d' (fun t => if t = s then bf else B t) (fun t => if t = s then v' else V t) := by
  have hbl : ∀ p ∈ d.files, B p.1 < w.heap.size := fun p hp => h.lt _ (h.gB p hp)
  have hvl : ∀ p ∈ d.files, ∀ b, (V p.1).ownBlock = some b → b < w.heap.size := fun p hp b hb => h.lt _ (h.gV p hp b hb)
  have hdl := h.lt _ h.gd
  have hml := h.lt _ h.gm
  -- the place of another file is no part of this one
  have oB : ∀ p ∈ d.files, p.1 ≠ s → B p.1 ≠ bf ∧ ∀ b, v'.ownBlock = some b → B p.1 ≠ b := fun p hp hne => by
    have := hbl p hp
    refine ⟨?_, fun b hb => ?_⟩
    · rcases hbf with ⟨x, hx, rfl⟩ | hbf
      · exact h.apB p hp _ (getB_mem hx) hne
      · omega
    · rcases hv b hb with ⟨x, hx, e⟩ | ⟨e, _⟩
      · exact Ne.symm ((h.nV _ (getB_mem hx) b e).2.2 p hp)
      · omega
  have oV : ∀ p ∈ d.files, p.1 ≠ s → ∀ b, (V p.1).ownBlock = some b → b ≠ bf ∧ v'.ownBlock ≠ some b := fun p hp hne b hb => by
    have := hvl p hp b hb
    refine ⟨?_, fun hb' => ?_⟩
    · rcases hbf with ⟨x, hx, rfl⟩ | hbf
      · exact (h.nV p hp b hb).2.2 _ (getB_mem hx)
      · omega
    · rcases hv b hb' with ⟨x, hx, e⟩ | ⟨e, _⟩
      · exact h.apV p hp _ (getB_mem hx) hne b hb e
      · omega
  have kB : ∀ p ∈ d.files, p.1 ≠ s → w'.heap[B p.1]? = w.heap[B p.1]? := fun p hp hne => hk _ (h.gB p hp) (h.nB p hp).1 (h.nB p hp).2 fun x hx => ⟨h.apB p hp _ (getB_mem hx) hne, fun e => (h.nV _ (getB_mem hx) _ e).2.2 p hp rfl⟩
  have kV : ∀ p ∈ d.files, p.1 ≠ s → ∀ b, (V p.1).ownBlock = some b → w'.heap[b]? = w.heap[b]? := fun p hp hne b hb => hk _ (h.gV p hp b hb) (h.nV p hp b hb).1 (h.nV p hp b hb).2.1 fun x hx => ⟨(h.nV p hp b hb).2.2 _ (getB_mem hx), fun e => h.apV p hp _ (getB_mem hx) hne b hb e⟩
  have bfn : bf ≠ bd ∧ bf ≠ bm := by
    rcases hbf with ⟨x, hx, rfl⟩ | hbf
    · exact h.nB _ (getB_mem hx)
    · exact ⟨by omega, by omega⟩
  have vn : ∀ b, v'.ownBlock = some b → b ≠ bd ∧ b ≠ bm ∧ b ≠ bf := fun b hb => by
    rcases hv b hb with ⟨x, hx, e⟩ | ⟨e, e'⟩
    · have := h.nV _ (getB_mem hx) b e
      refine ⟨this.1, this.2.1, ?_⟩
      rcases hbf with ⟨x', hx', rfl⟩ | hbf
      · exact this.2.2 _ (getB_mem hx')
      · have := hvl _ (getB_mem hx) b e; omega
    · exact ⟨by omega, by omega, e'⟩
  refine ⟨hblk, by rw [hd]; exact hmap, ?_, ?_, ?_, ?_, .inl h.gd, .inl h.gm, ?_, ?_, ?_, hd ▸ putB_rising h.up _ _, h.nm, ?_, ?_⟩
  · rw [hd]; intro p hp
    rcases putB_mem.1 hp with rfl | ⟨hp, hne⟩
    · simpa using hfl
    · simpa [hne] using (kB p hp hne).trans (h.fl p hp)
  · rw [hd]; intro p hp
    rcases putB_mem.1 hp with rfl | ⟨hp, hne⟩
    · simpa using hown
    · simpa [hne] using (h.own p hp).keepB (kV p hp hne)
  · rw [hd]; intro p hp q hq hpq
    rcases putB_mem.1 hp with rfl | ⟨hp, hne⟩ <;> rcases putB_mem.1 hq with rfl | ⟨hq, hne'⟩
    · exact absurd rfl hpq
    · simpa [hne'] using (oB q hq hne').1.symm
    · simpa [hne] using (oB p hp hne).1
    · simpa [hne, hne'] using h.apB p hp q hq hpq
  · rw [hd]; intro p hp q hq hpq b hb
    rcases putB_mem.1 hp with rfl | ⟨hp, hne⟩ <;> rcases putB_mem.1 hq with rfl | ⟨hq, hne'⟩
    · exact absurd rfl hpq
    · simp only [hne', if_true, if_false] at hb ⊢; exact fun e => (oV q hq hne' b e).2 hb
    · simp only [hne, if_true, if_false] at hb ⊢; exact (oV p hp hne b hb).2
    · simp only [hne, hne', if_false] at hb ⊢; exact h.apV p hp q hq hpq b hb
  · rw [hd]; intro p hp
    rcases putB_mem.1 hp with rfl | ⟨hp, hne⟩
    · simp
    · simp only [hne, if_false]; exact .inl (h.gB p hp)
  · rw [hd]; intro p hp b hb
    rcases putB_mem.1 hp with rfl | ⟨hp, hne⟩
    · simp only [if_true] at hb; exact .inr (.inr hb)
    · simp only [hne, if_false] at hb; exact .inl (h.gV p hp b hb)
  · rintro b (hb | rfl | hb)
    · exact Nat.lt_of_lt_of_le (h.lt b hb) hsz
    · exact (Array.getElem?_eq_some_iff.1 hfl).1
    · exact (World.ownsRow.lt hown b hb).2
  · rw [hd]; intro p hp
    rcases putB_mem.1 hp with rfl | ⟨hp, hne⟩
    · simpa using bfn
    · simpa [hne] using h.nB p hp
  · rw [hd]; intro p hp b hb
    rcases putB_mem.1 hp with rfl | ⟨hp, hne⟩
    · simp only [if_true] at hb
      refine ⟨(vn b hb).1, (vn b hb).2.1, fun q hq => ?_⟩
      rcases putB_mem.1 hq with rfl | ⟨hq, hne'⟩
      · simpa using (vn b hb).2.2
      · simpa [hne'] using ((oB q hq hne').2 b hb).symm
    · simp only [hne, if_false] at hb
      refine ⟨(h.nV p hp b hb).1, (h.nV p hp b hb).2.1, fun q hq => ?_⟩
      rcases putB_mem.1 hq with rfl | ⟨hq, hne'⟩
      · simpa using (oV p hp hne b hb).1
      · simpa [hne'] using (h.nV p hp b hb).2.2 q hq
end
/-- what file leaves: a file that wasn't there is there -/
def Dk.made (d : Dk) (s : List UInt8) : Dk := d.put s (d.file s)
def FilePost (w : World) (G : Nat → Prop) (bd bm : Nat) (d : Dk) (s : List UInt8) (e : Ending) (w' : World) : Prop :=
  ∃ G' B' V' f, e = .returned (.pointer (some ⟨B' s, 0, none⟩)) ∧ DkAt w' G' bd bm (d.made s) B' V' ∧ getB (d.made s).files s = some f ∧ f = d.file s ∧ (∀ b, G' b → G b ∨ w.heap.size ≤ b) ∧ Keep G w w'
set_option maxRecDepth 100000 in
theorem dkfile_any (w : World) (G : Nat → Prop) (bd bm : Nat) (d : Dk) (B : List UInt8 → Nat) (V : List UInt8 → Value) (h : DkAt w G bd bm d B V) (ho : d.Ok) (s : List UInt8) (hs : s.length ≤ 1000000) :
    Calls Tryz.prog 103 #[.pointer (some ⟨bd, 0, none⟩), .string ⟨s.toArray⟩] w (FilePost w G bd bm d s) := by
  obtain ⟨c0, c1, c2, c3, c4⟩ := h.cells
  have hl := h.look s hs
  have hn0 := ho.num
  have HH := Lib.hid h; have HO := Lib.hid ho
  have hdl := h.lt _ h.gd
  have hml := h.lt _ h.gm
  cases hg : getB d.files s with
  | some f =>
    have HR := Lib.hid (show FilePost w G bd bm d s (.returned (.pointer (some ⟨B s, 0, none⟩))) w by
      have e : d.made s = d := by
        unfold Dk.made Dk.put Dk.file
        rw [hg]
        have : putB s f d.files = d.files := rowUp_same (putB_rising h.up _ _) h.up fun p => by
          rw [putB_mem]
          constructor
          · rintro (rfl | h)
            · exact getB_mem hg
            · exact h.1
          · intro hp
            by_cases e : p.1 = s
            · left; exact h.up.key hp (getB_mem hg) e
            · exact .inr ⟨hp, e⟩
        simp only [Option.getD_some, this]
      exact ⟨G, B, V, f, rfl, by rw [e]; exact h, by rw [e]; exact hg, by unfold Dk.file; rw [hg]; rfl, fun _ h => .inl h, Keep.refl _ _⟩)
    rw [show ptrOf d B s = .pointer (some ⟨B s, 0, none⟩) by unfold ptrOf; rw [hg]; rfl, hg] at hl
    clear h hg ho
    go_enter Tryz.func103, Tryz.ntmps103
    go_wp2
    go_ret
    exact HR.out
  | none =>
    rw [show ptrOf d B s = .pointer none by unfold ptrOf; rw [hg]; rfl, hg] at hl
    have HG := Lib.hid hg
    clear h hg ho
    go_enter Tryz.func103, Tryz.ntmps103
    go_wp2_with (at_mapUpdate; refine wpList_mapS_put rfl _ _ _ _ _ rfl Tryz.underlying95 bm _ rfl (HH.out.map.block ?c1) ?c2 s rfl ?c3 _ rfl ?_)
    case c1 => exact heap_alloc_old _ _ hml
    case c2 => simp; unfold maxLen; omega
    case c3 => unfold maxLen; omega
    intro w1 hm1 hg1
    have HR := Lib.hid (show FilePost w G bd bm d s (.returned (.pointer (some ⟨w.heap.size, 0, none⟩))) w1 by
      have hfn : d.file s = Fl.none := by unfold Dk.file; rw [HG.out]; rfl
      have hs1 : w.heap.size + 1 ≤ w1.heap.size := by have := hg1.size; simpa using this
      have hk1 : ∀ b, b < w.heap.size → b ≠ bm → w1.heap[b]? = w.heap[b]? := fun b hb hne => (hg1.block b (by simp; omega) (fun e => hne (by simpa using e))).trans (heap_alloc_old _ _ hb)
      have hnb : w1.heap[w.heap.size]? = some (flObj (.slice none 0 0) Fl.none) := (hg1.block _ (by simp) (fun e => absurd (show w.heap.size = bm by simpa using e) (by omega))).trans (heap_alloc_new w _)
      have key := HH.out.set (w' := w1) s Fl.none (.slice none 0 0) w.heap.size (d.made s) (by unfold Dk.made; rw [hfn]; rfl) ((hk1 bd hdl HH.out.nm).trans HH.out.blk)
        (by
          have := map_put_new HH.out.up s Fl.none (fun t => .pointer (some ⟨B t, 0, none⟩)) (fun t => .pointer (some ⟨if t = s then w.heap.size else B t, 0, none⟩)) (fun t ht => by simp [ht])
          rw [this]; simpa using hm1)
        hnb (OwnB.nil _ _) (by omega) (fun b hb _ h2 _ => hk1 b (HH.out.lt b hb) h2) (.inr (Nat.le_refl _)) (fun b hb => by cases hb)
      refine ⟨_, _, _, Fl.none, ?_, key, ?_, hfn.symm, ?_, ?_⟩
      · simp
      · unfold Dk.made; rw [hfn]; exact getB_put_same _ _ _
      · rintro b (hb | rfl | hb)
        · exact .inl hb
        · exact .inr (Nat.le_refl _)
        · cases hb
      · exact ((Keep.refl G w).alloc _).trans (Keep.of_grown (F := fun b => b = bm) hg1 (fun k e => by simpa using e.symm)) (fun b _ e => e ▸ HH.out.gm))
    clear hm1 hg1
    go_wp2
    go_ret
    exact HR.out
end Go.Proofs.YtgbagjpokpchpaaGreatDoor
namespace Go.Proofs.YtgbagjpokpchpaaGreatDoor
open Go.RowKit Go.Maps Go.Sort

theorem putB_putB {α : Type} {m : Row α} (h : RowUp m) (k : List UInt8) (u v : α) : putB k v (putB k u m) = putB k v m := by
  refine rowUp_same (putB_rising (putB_rising h _ _) _ _) (putB_rising h _ _) fun p => ?_
  simp only [putB_mem]
  constructor
  · rintro (h | ⟨(rfl | h), hn⟩)
    · exact .inl h
    · exact absurd rfl hn
    · exact .inr h
  · rintro (h | h)
    · exact .inl h
    · exact .inr ⟨.inr h, h.2⟩
/-- bytes that lie outside of a disk stay -/
theorem Byt.keepG {w w' : World} {G : Nat → Prop} {A : Option Addr} {n c : Nat} {l : List UInt8} (h : Byt w w.heap.size A n c l) (hA : ∀ b off, A = some ⟨b, off, none⟩ → ¬ G b) (hk : Keep G w w') : Byt w' w'.heap.size A n c l := by
  refine ⟨h.len, h.cap, h.max, fun hn => ?_⟩
  obtain ⟨b, off, e, hb, hc⟩ := h.cell hn
  have := hk.size
  exact ⟨b, off, e, by omega, fun i hi => (hk.cell (p := ⟨b, off + i, none⟩) hb (hA b off e)).trans (hc i hi)⟩
def DkPost (w : World) (G : Nat → Prop) (bd : Nat) (d' : Dk) (er : Int) (e : Ending) (w' : World) : Prop := e = .returned (.int .i64 er) ∧ DkD w G bd d' w'
theorem Dk.append_no {d : Dk} {s b : List UInt8} (h : d.asked s ≠ 0) : d.append s b = d ∧ d.appendE s b = d.asked s := by unfold Dk.append Dk.appendE; rw [if_pos h, if_pos h]; exact ⟨rfl, rfl⟩
theorem Dk.append_full {d : Dk} {s b : List UInt8} (h : d.asked s = 0) (hf : d.fullB s b.length = true) : d.append s b = d ∧ d.appendE s b = 5 := by unfold Dk.append Dk.appendE; simp [h, hf]
def Dk.added (d : Dk) (s b : List UInt8) : Dk := { d.put s { d.file s with data := (d.file s).data ++ b } with used := d.used + b.length }
theorem Dk.append_yes {d : Dk} {s b : List UInt8} (h : d.asked s = 0) (hf : d.fullB s b.length = false) : d.append s b = (d.added s b).step ∧ d.appendE s b = if (d.added s b).stepB then 0 else 8 := by unfold Dk.append Dk.appendE; simp only [h, hf, ne_eq, not_true_eq_false, if_false, Bool.false_eq_true]; exact ⟨rfl, rfl⟩
theorem DkAt.filecells {w : World} {G : Nat → Prop} {bd bm : Nat} {d : Dk} {B : List UInt8 → Nat} {V : List UInt8 → Value} (h : DkAt w G bd bm d B V) {s : List UInt8} {f : Fl} (hf : getB d.files s = some f) :
    w.cell? ⟨B s, 0, none⟩ = some (V s) ∧ w.cell? ⟨B s, 1, none⟩ = some (.int .i64 f.lasts) ∧ w.cell? ⟨B s, 2, none⟩ = some (.bool f.stays) := by
  have key : ∀ o, w.cell? ⟨B s, o, none⟩ = _ := fun o => cell_of_row w (B s) o _ _ (0, 0) (h.fl _ (getB_mem hf))
  exact ⟨(key 0).trans rfl, (key 1).trans rfl, (key 2).trans rfl⟩
set_option maxRecDepth 100000 in
set_option maxHeartbeats 1000000 in
theorem dkapp_any (w : World) (G : Nat → Prop) (bd : Nat) (d : Dk) (h : DkIn w G bd d) (s : List UInt8) (hs : s.length ≤ 1000000) (A : Option Addr) (n c : Nat) (b : List UInt8) (hb : Byt w w.heap.size A n c b) (hA : ∀ b off, A = some ⟨b, off, none⟩ → ¬ G b) (hn : n ≤ 1000000) :
    Calls Tryz.prog 68 #[.pointer (some ⟨bd, 0, none⟩), .string ⟨s.toArray⟩, .slice A n c] w (DkPost w G bd (d.append s b) (d.appendE s b)) := by
  have HI := Lib.hid h
  obtain ⟨ho, bm, B, V, h⟩ := h
  have HH := Lib.hid h; have HO := Lib.hid ho; have HB := Lib.hid hb; have HA := Lib.hid hA
  have hbl : b.length = n := hb.len
  have hu0 := ho.used0
  have hu1 := ho.max
  clear h ho hb hA
  by_cases h0 : d.asked s = 0
  · have hca := dkasked_any w G bd bm d B V HH.out s
    rw [h0] at hca
    have HCA := Lib.hid hca; clear hca
    have hcf := dkfull_any w G bd bm d B V HH.out HO.out s hs n (by omega)
    cases hf : d.fullB s n
    · rw [hf] at hcf
      have HCF := Lib.hid hcf; clear hcf
      have hE := Dk.append_yes (b := b) h0 (by rw [hbl]; exact hf)
      have HE := Lib.hid hE; clear hE
      have hfn := Dk.full_no hf
      have HFN := Lib.hid hfn.2
      have hfm := hfn.1
      clear hfn
      have HZ := Lib.hid h0; have HF := Lib.hid hf
      clear h0 hf
      go_enter Tryz.func68, Tryz.ntmps68
      go_wp2_with fail
      refine HCA.out.mono ?_
      rintro e w0 ⟨rfl, rfl⟩
      go_wp2_with fail
      refine HCF.out.mono ?_
      rintro e w0 ⟨rfl, rfl⟩
      go_wp2_with fail
      refine (dkfile_any w G bd bm d B V HH.out HO.out s hs).mono ?_
      rintro e w1 ⟨G1, B1, V1, f, rfl, hd1, hf1, hff, hG1, hk1⟩
      have HD1 := Lib.hid hd1; have HF1 := Lib.hid hf1; have HFF := Lib.hid hff; have HG1 := Lib.hid hG1; have HK1 := Lib.hid hk1
      have HB1 := Lib.hid (HB.out.keepG HA.out hk1)
      obtain ⟨x0, x1, x2⟩ := hd1.filecells hf1
      have hs1 := hk1.size
      have HOW := Lib.hid (hd1.own _ (getB_mem hf1))
      have hdl : f.data.length ≤ 4194304 := by rw [hff]; have := HO.out.file_len s; omega
      clear hd1 hf1 hff hG1 hk1 x1 x2
      go_wp2_with (at_builtin; refine wpList_app8 rfl (.tmp 27) (.tmp 28) rfl 0 _ f.data rfl HOW.out w1.heap.size _ _ _ b rfl HB1.out ?c3 (Nat.zero_le _) ?_)
      case c3 => omega
      intro v2 w2 ho2 hg2 hv2
      have hne : B1 s ≠ bd := (HD1.out.nB _ (getB_mem HF1.out)).1
      have hV : ∀ k, (V1 s).ownBlock = some k → k ≠ bd ∧ k ≠ bm ∧ k ≠ B1 s := fun k hk => by
        have := HD1.out.nV _ (getB_mem HF1.out) k hk
        exact ⟨this.1, this.2.1, this.2.2 _ (getB_mem HF1.out)⟩
      have hbs : B1 s < w1.heap.size := HD1.out.lt _ (HD1.out.gB _ (getB_mem HF1.out))
      have hbdl : bd < w1.heap.size := HD1.out.lt _ HD1.out.gd
      have hbml : bm < w1.heap.size := HD1.out.lt _ HD1.out.gm
      have hs2 : w1.heap.size ≤ w2.heap.size := hg2.size
      have k2 : ∀ k, k < w1.heap.size → (V1 s).ownBlock ≠ some k → w2.heap[k]? = w1.heap[k]? := fun k hk hn => hg2.block k hk (fun e => hn e.symm)
      have y0 : w2.heap[B1 s]? = some (flObj (V1 s) f) := (k2 _ hbs (fun e => (hV _ e).2.2 rfl)).trans (HD1.out.fl _ (getB_mem HF1.out))
      have y1 : w2.heap[bd]? = some (dkObj bm (d.made s)) := (k2 _ hbdl (fun e => (hV _ e).1 rfl)).trans HD1.out.blk
      have z0 : w2.cell? ⟨B1 s, 0, none⟩ = some (V1 s) := (cell_of_row w2 (B1 s) 0 _ _ (0, 0) y0).trans rfl
      have z0f : w2.frozen? ⟨B1 s, 0, none⟩ = false := frozen_of_row w2 (B1 s) 0 _ _ y0
      have z1 : w2.cell? ⟨bd, 1, none⟩ = some (.int .i64 d.used) := (cell_of_row w2 bd 1 _ _ (0, 0) y1).trans rfl
      have z1f : w2.frozen? ⟨bd, 1, none⟩ = false := frozen_of_row w2 bd 1 _ _ y1
      have HD4 := Lib.hid (show ∃ G4 B4 V4, DkAt ((w2.setCell ⟨B1 s, 0, none⟩ v2).setCell ⟨bd, 1, none⟩ (.int .i64 (d.used + n))) G4 bd bm (d.added s b) B4 V4 ∧ (∀ k, G4 k → G1 k ∨ w1.heap.size ≤ k) by
        have hmade : (d.made s).files = putB s (d.file s) d.files := rfl
        have y0' : ((w2.setCell ⟨B1 s, 0, none⟩ v2).setCell ⟨bd, 1, none⟩ (.int .i64 (d.used + n))).heap[B1 s]? = some (flObj v2 { f with data := f.data ++ b }) := by
          rw [Below.heap_setCell _ _ _ _ hne, heap_set_row y0]; rfl
        have y1' : ((w2.setCell ⟨B1 s, 0, none⟩ v2).setCell ⟨bd, 1, none⟩ (.int .i64 (d.used + n))).heap[bd]? = some (dkObj bm (d.added s b)) := by
          rw [heap_set_row ((Below.heap_setCell w2 ⟨B1 s, 0, none⟩ v2 bd (Ne.symm hne)).trans y1)]; simp [Dk.added, Dk.put, Dk.made, hbl]
        have kk : ∀ k, k ≠ bd → k ≠ B1 s → ((w2.setCell ⟨B1 s, 0, none⟩ v2).setCell ⟨bd, 1, none⟩ (.int .i64 (d.used + n))).heap[k]? = w2.heap[k]? := fun k h1 h2 => by
          rw [Below.heap_setCell _ _ _ _ h1, Below.heap_setCell _ _ _ _ h2]
        have hvB : ∀ k, v2.ownBlock = some k → k ≠ bd ∧ k ≠ B1 s := fun k hk => by
          rcases hv2 with e | e
          · have := hV k (e ▸ hk); exact ⟨this.1, this.2.2⟩
          · rw [e] at hk; injection hk with hk; exact ⟨by omega, by omega⟩
        refine ⟨_, _, _, HD1.out.set (w' := (w2.setCell ⟨B1 s, 0, none⟩ v2).setCell ⟨bd, 1, none⟩ (.int .i64 (d.used + n))) s { f with data := f.data ++ b } v2 (B1 s) (d.added s b) ?_ y1' ?_ y0' ?_ ?_ ?_ (.inl ⟨f, HF1.out, rfl⟩) ?_, ?_⟩
        · rw [hmade, putB_putB HH.out.up, HFF.out]; rfl
        · have e := map_put_here HD1.out.up { f with data := f.data ++ b } HF1.out (fun t => (.pointer (some ⟨if t = s then B1 s else B1 t, 0, none⟩)))
          rw [e]
          have e2 : (fun p : List UInt8 × Fl => (p.1, Value.pointer (some ⟨if p.1 = s then B1 s else B1 p.1, 0, none⟩))) = fun p => (p.1, .pointer (some ⟨B1 p.1, 0, none⟩)) := by
            funext p; split
            · next h => rw [h]
            · rfl
          rw [e2]
          exact HD1.out.map.block ((kk bm HD1.out.nm.symm (HD1.out.nB _ (getB_mem HF1.out)).2.symm).trans (k2 bm hbml (fun e => (hV _ e).2.1 rfl)))
        · exact ho2.keepB fun k hk => kk k (hvB k hk).1 (hvB k hk).2
        · simpa [World.setCell] using hs2
        · intro k hk h1 h2 h3
          exact (kk k h1 (h3 f HF1.out).1).trans (k2 k (HD1.out.lt k hk) (h3 f HF1.out).2)
        · intro k hk
          rcases hv2 with e | e
          · exact .inl ⟨f, HF1.out, e ▸ hk⟩
          · rw [e] at hk; injection hk with hk; exact .inr ⟨by omega, by omega⟩
        · rintro k (hk | rfl | hk)
          · exact .inl hk
          · exact .inl (HD1.out.gB _ (getB_mem HF1.out))
          · rcases hv2 with e | e
            · exact .inl (HD1.out.gV _ (getB_mem HF1.out) k (e ▸ hk))
            · rw [e] at hk; injection hk with hk; exact .inr (by omega))
      have HK4 := Lib.hid (show Keep G w ((w2.setCell ⟨B1 s, 0, none⟩ v2).setCell ⟨bd, 1, none⟩ (.int .i64 (d.used + n))) by
        have hin : ∀ k, k < w.heap.size → G1 k → G k := fun k hk hg => (HG1.out k hg).elim id (fun h => by omega)
        refine (HK1.out.trans (Keep.of_grown (F := G1) hg2 (fun k e => HD1.out.gV _ (getB_mem HF1.out) k e)) hin).setCell (p := ⟨B1 s, 0, none⟩) (fun h => hin _ h (HD1.out.gB _ (getB_mem HF1.out))) _ |>.setCell (p := ⟨bd, 1, none⟩) (fun h => hin _ h HD1.out.gd) _)
      obtain ⟨A2, c2, e2⟩ := ho2.form
      clear x0 ho2 hg2 hv2 hV hbs hbdl hbml k2 y0 y1
      generalize (f.data ++ b).length = n2 at e2
      subst e2
      go_wp2_with fail
      obtain ⟨G4, B4, V4, hd4, hG4⟩ := HD4.out
      have HD5 := Lib.hid hd4; have HG4 := Lib.hid hG4
      have hsz4 := HK4.out.size
      clear hd4 hG4 HD4 z0 z0f z1 z1f
      generalize ((w2.setCell ⟨B1 s, 0, none⟩ (.slice A2 n2 c2)).setCell ⟨bd, 1, none⟩ (.int .i64 (d.used + n))) = w4 at *
      have hoa : (d.added s b).Ok := by
        refine HO.out.put s _ _ ?_ (by rw [hbl]; exact hfm) HFN.out ?_
        · show d.used + (b.length : Int) = d.used - (d.file s).data.length + (((d.file s).data ++ b).length : Nat); simp; omega
        · have := HO.out.file_las s; simp; omega
      have HOA := Lib.hid hoa
      have hfu := And.intro hoa.fuse0 hoa.fuse1
      clear hoa
      refine (dkstep_any w4 G4 bd bm (d.added s b) B4 V4 HD5.out hfu).mono ?_
      rintro e w5 ⟨rfl, hd5, hk5, hs5⟩
      have HR := Lib.hid (show DkD w G bd (d.append s b) w5 from by
        rw [HE.out.1]
        refine ⟨G4, ⟨HOA.out.step, bm, B4, V4, hd5⟩, fun k hk => ?_, HK4.out.trans hk5 (fun k _ e => e ▸ HH.out.gd)⟩
        rcases HG4.out k hk with h | h
        · exact HG1.out k h
        · exact .inr (by omega))
      have HEE := Lib.hid HE.out.2
      clear hd5 hk5 hs5 hfu
      cases hst : (d.added s b).stepB
      · rw [hst] at HEE
        go_wp2
        go_ret
        exact ⟨ret_int HEE.out.symm, HR.out⟩
      · rw [hst] at HEE
        go_wp2
        go_ret
        exact ⟨ret_int HEE.out.symm, HR.out⟩
    · rw [hf] at hcf
      have HCF := Lib.hid hcf; clear hcf
      have hE := Dk.append_full (b := b) h0 (by rw [hbl]; exact hf)
      have HR := Lib.hid (show DkPost w G bd (d.append s b) (d.appendE s b) (.returned (.int .i64 5)) w from ⟨by rw [hE.2], by rw [hE.1]; exact DkD.refl HI.out⟩)
      clear hE h0 hf
      go_enter Tryz.func68, Tryz.ntmps68
      go_wp2_with fail
      refine HCA.out.mono ?_
      rintro e w0 ⟨rfl, rfl⟩
      go_wp2_with fail
      refine HCF.out.mono ?_
      rintro e w0 ⟨rfl, rfl⟩
      go_wp2
      go_ret
      exact HR.out
  · have HCA := Lib.hid (dkasked_any w G bd bm d B V HH.out s)
    have hE := Dk.append_no (b := b) h0
    have HR := Lib.hid (show DkPost w G bd (d.append s b) (d.appendE s b) (.returned (.int .i64 (d.asked s))) w from ⟨by rw [hE.2], by rw [hE.1]; exact DkD.refl HI.out⟩)
    clear hE
    generalize d.asked s = q at *
    go_enter Tryz.func68, Tryz.ntmps68
    go_wp2_with fail
    refine HCA.out.mono ?_
    rintro e w0 ⟨rfl, rfl⟩
    go_wp2
    go_ret
    exact HR.out
end Go.Proofs.YtgbagjpokpchpaaGreatDoor
namespace Go.Proofs.YtgbagjpokpchpaaGreatDoor
open Go.RowKit Go.Maps Go.Sort

set_option maxRecDepth 100000 in
set_option maxHeartbeats 1000000 in
theorem dksync_any (w : World) (G : Nat → Prop) (bd : Nat) (d : Dk) (h : DkIn w G bd d) (s : List UInt8) (hs : s.length ≤ 1000000) :
    Calls Tryz.prog 59 #[.pointer (some ⟨bd, 0, none⟩), .string ⟨s.toArray⟩] w (DkPost w G bd (d.sync s) (d.syncE s)) := by
  have HI := Lib.hid h
  obtain ⟨ho, bm, B, V, h⟩ := h
  have HH := Lib.hid h; have HO := Lib.hid ho
  have hcf := dkfound_any w G bd bm d B V h s hs
  have hfu := And.intro ho.fuse0 ho.fuse1
  clear h ho
  by_cases h0 : d.found s = 0
  · rw [if_pos h0, h0] at hcf
    have HCF := Lib.hid hcf; clear hcf
    have hfz := Dk.found_zero h0
    obtain ⟨f, hf⟩ := Option.isSome_iff_exists.1 hfz.2
    have hff : d.file s = f := by unfold Dk.file; rw [hf]; rfl
    have hE : d.sync s = (if d.stepB then d.step.put s { f with lasts := f.data.length, stays := true } else d.step) ∧ d.syncE s = if d.stepB then 0 else 8 := by
      unfold Dk.sync Dk.syncE
      simp only [h0, hff, ne_eq, not_true_eq_false, if_false, and_self]
    have HE := Lib.hid hE; have HF := Lib.hid hf
    have hdl : f.data.length ≤ 4194304 := by have := HO.out.file_len s; have := HO.out.max; rw [hff] at *; omega
    clear hE hf h0 hfz hff
    go_enter Tryz.func59, Tryz.ntmps59
    go_wp2_with fail
    refine HCF.out.mono ?_
    rintro e w0 ⟨rfl, rfl⟩
    go_wp2_with fail
    refine (dkstep_any w G bd bm d B V HH.out hfu).mono ?_
    rintro e w1 ⟨rfl, hd1, hk1, hs1⟩
    have HD1 := Lib.hid hd1; have HK1 := Lib.hid hk1
    have hf1 : getB d.step.files s = some f := by rw [d.step_files.1]; exact HF.out
    have HF1 := Lib.hid hf1
    obtain ⟨x0, x1, x2⟩ := hd1.filecells hf1
    have x1f : w1.frozen? ⟨B s, 1, none⟩ = false := frozen_of_row w1 (B s) 1 _ _ (hd1.fl _ (getB_mem hf1))
    have x2f : w1.frozen? ⟨B s, 2, none⟩ = false := frozen_of_row w1 (B s) 2 _ _ (hd1.fl _ (getB_mem hf1))
    clear hf1 hd1 hk1
    cases hst : d.stepB
    · have HR := Lib.hid (show DkPost w G bd (d.sync s) (d.syncE s) (.returned (.int .i64 8)) w1 from by
        rw [HE.out.1, HE.out.2, hst]
        exact ⟨rfl, G, ⟨HO.out.step, bm, B, V, HD1.out⟩, fun _ h => .inl h, HK1.out.mono (fun b _ e => e ▸ HH.out.gd)⟩)
      clear x0 x1 x2 x1f x2f hst
      go_wp2
      go_ret
      exact HR.out
    · have HOW := Lib.hid (HD1.out.own _ (getB_mem HF1.out))
      obtain ⟨A1, c1, e1⟩ := HOW.out.form
      replace e1 : V s = .slice A1 f.data.length c1 := e1
      have HR := Lib.hid (show DkPost w G bd (d.sync s) (d.syncE s) (.returned (.int .i64 0)) ((w1.setCell ⟨B s, 1, none⟩ (.int .i64 f.data.length)).setCell ⟨B s, 2, none⟩ (.bool true)) from by
        have hso := HO.out.sync s
        rw [HE.out.1, HE.out.2, hst]
        rw [HE.out.1, hst] at hso
        have hfl := HD1.out.fl _ (getB_mem HF1.out)
        have hB := HD1.out.nB _ (getB_mem HF1.out)
        have kk : ∀ k, k ≠ B s → ((w1.setCell ⟨B s, 1, none⟩ (.int .i64 f.data.length)).setCell ⟨B s, 2, none⟩ (.bool true)).heap[k]? = w1.heap[k]? := fun k h1 => by
          rw [Below.heap_setCell _ _ _ _ h1, Below.heap_setCell _ _ _ _ h1]
        have e := map_put_here HD1.out.up { f with lasts := f.data.length, stays := true } HF1.out (fun t => (.pointer (some ⟨if t = s then B s else B t, 0, none⟩)))
        have e2 : (fun p : List UInt8 × Fl => (p.1, Value.pointer (some ⟨if p.1 = s then B s else B p.1, 0, none⟩))) = fun p => (p.1, .pointer (some ⟨B p.1, 0, none⟩)) := by
          funext p; split
          · next h => rw [h]
          · rfl
        have key := HD1.out.set (w' := (w1.setCell ⟨B s, 1, none⟩ (.int .i64 f.data.length)).setCell ⟨B s, 2, none⟩ (.bool true)) s { f with lasts := f.data.length, stays := true } (V s) (B s) (d.step.put s { f with lasts := f.data.length, stays := true }) rfl ((kk bd hB.1.symm).trans HD1.out.blk)
          (by rw [e, e2]; exact HD1.out.map.block (kk bm hB.2.symm)) (by rw [heap_set_row (heap_set_row hfl)]; rfl)
          (HOW.out.keepB fun k hk => kk k ((HD1.out.nV _ (getB_mem HF1.out) k hk).2.2 _ (getB_mem HF1.out))) (by simp [World.setCell]) (fun k _ _ _ h3 => kk k (h3 f HF1.out).1) (.inl ⟨f, HF1.out, rfl⟩) (fun k hk => .inl ⟨f, HF1.out, hk⟩)
        refine ⟨rfl, _, ⟨hso, bm, _, _, key⟩, ?_, ?_⟩
        · rintro k (hk | rfl | hk)
          · exact .inl hk
          · exact .inl (HD1.out.gB _ (getB_mem HF1.out))
          · exact .inl (HD1.out.gV _ (getB_mem HF1.out) k hk)
        · exact ((HK1.out.mono (fun b _ e => e ▸ HH.out.gd)).setCell (p := ⟨B s, 1, none⟩) (fun _ => HD1.out.gB _ (getB_mem HF1.out)) _).setCell (p := ⟨B s, 2, none⟩) (fun _ => HD1.out.gB _ (getB_mem HF1.out)) _)
      rw [e1] at x0
      clear hst e1
      go_wp2
      go_ret
      exact HR.out
  · rw [if_neg h0] at hcf
    have HCF := Lib.hid hcf; clear hcf
    have hE : d.sync s = d ∧ d.syncE s = d.found s := by unfold Dk.sync Dk.syncE; rw [if_pos h0, if_pos h0]; exact ⟨rfl, rfl⟩
    have HR := Lib.hid (show DkPost w G bd (d.sync s) (d.syncE s) (.returned (.int .i64 (d.found s))) w from ⟨by rw [hE.2], by rw [hE.1]; exact DkD.refl HI.out⟩)
    clear hE
    generalize d.found s = q at *
    go_enter Tryz.func59, Tryz.ntmps59
    go_wp2_with fail
    refine HCF.out.mono ?_
    rintro e w0 ⟨rfl, rfl⟩
    go_wp2
    go_ret
    exact HR.out
end Go.Proofs.YtgbagjpokpchpaaGreatDoor
