/-
  Layer 5: a journal in memory; file.
  Layer 3: what frame.Seal gives.
  Layer 5: a journal's file, fail, sync; an entry's seal.
  Layer 5: a journal's fail, sync.
-/
import Derived.Test.YtgbagjpokpchpaaGreatDoorFJlPlain
import Derived.Test.YtgbagjpokpchpaaGreatDoorFDk6
import Derived.Test.YtgbagjpokpchpaaGreatDoorFPplB
import Derived.Test.YtgbagjpokpchpaaGreatDoorFFrmWalk
import Derived.Test.YtgbagjpokpchpaaGreatDoorFBytes
import Derived.Test.YtgbagjpokpchpaaGreatDoorFEvEnc2
import Derived.Deep.DeepCutAuto
import Derived.StillTailTactics
import Derived.Deep.RegionHeld3
namespace Go.Proofs.YtgbagjpokpchpaaGreatDoor
open Go.RowKit Go.Maps Go.Sort

def Ev.zero : Ev := ⟨[], 0, 0, 0, [], [], 0, []⟩
/-- an entry's cells: an event, whether it is erased -/
def entC : Option Ev → List Value
  | none => Ev.zero.cells ++ [.bool true]
  | some e => e.cells ++ [.bool false]
def entE (x : Option Ev) : Ev := x.getD Ev.zero
def entCells (es : List (Option Ev)) : List Value := es.flatMap entC
theorem entC_eq (x : Option Ev) : entC x = (entE x).cells ++ [.bool x.isNone] := by cases x <;> rfl
theorem entC_length (x : Option Ev) : (entC x).length = 9 := by cases x <;> rfl
theorem entCells_length (es : List (Option Ev)) : (entCells es).length = es.length * 9 := by
  induction es with
  | nil => rfl
  | cons e es ih => simp only [entCells, List.flatMap_cons, List.length_append, List.length_cons, entC_length] at *; rw [ih]; omega
theorem entCells_append (a b : List (Option Ev)) : entCells (a ++ b) = entCells a ++ entCells b := by simp [entCells]
theorem entCells_one (es : List (Option Ev)) (x : Option Ev) : entCells (es ++ [x]) = entCells es ++ entC x := by simp [entCells]
theorem entCells_get (es : List (Option Ev)) (k j : Nat) (hk : k < es.length) (hj : j < 9) : (entCells es)[k * 9 + j]? = (entC es[k])[j]? := by
  induction es generalizing k with
  | nil => simp at hk
  | cons e es ih =>
    have hc := entC_length e
    simp only [entCells, List.flatMap_cons]
    cases k with
    | zero => rw [Nat.zero_mul, Nat.zero_add, List.getElem?_append_left (by omega)]; rfl
    | succ k =>
      rw [List.getElem?_append_right (by omega), hc, show (k + 1) * 9 + j - 9 = k * 9 + j by omega]
      exact ih k (by simpa using hk)
theorem entC_one (x : Option Ev) : ∀ u ∈ entC x, u.oneCell' = true := by
  intro u hu
  rw [entC_eq] at hu
  rcases List.mem_append.1 hu with h | h
  · exact cells_one _ u h
  · simp at h; subst h; rfl
abbrev entAgg (x : Option Ev) : Value := .agg #[.string ⟨(entE x).src.toArray⟩, .int .i64 (entE x).num, .int .i64 (entE x).at_, .int .i64 (entE x).kind, .string ⟨(entE x).per.toArray⟩, .string ⟨(entE x).item.toArray⟩, .int .i64 (entE x).val, .string ⟨(entE x).text.toArray⟩, .bool x.isNone]
theorem ent_info : (Tryz.prog.info? 81).map (fun i => (i.zero, i.size, i.bytes)) = some (some (.agg #[.string ByteArray.empty, .int .i64 0, .int .i64 0, .int .i64 0, .string ByteArray.empty, .string ByteArray.empty, .int .i64 0, .string ByteArray.empty, .bool false]), 9, 104) := by kernel_rfl
/-- a row of entries -/
def OwnJ (w : World) (base : Nat) (v : Value) (es : List (Option Ev)) : Prop := w.ownsRow base 81 9 v es.length (entCells es)
abbrev jlObj (bd : Nat) (v : Value) (j : Jl) : Obj := .cells #[.pointer (some ⟨bd, 0, none⟩), .string ⟨j.name.toArray⟩, .int .i64 j.per, .int .i64 j.files, v, .int .i64 j.lasts, .int .i64 j.stuck] 77
/-- numbers of a journal that are right -/
structure Jl.Ok (j : Jl) : Prop where
  per1 : 1 ≤ j.per
  per2 : j.per ≤ 4096
  nm : j.name.length ≤ 24
  num : j.es.length ≤ 100000
  fl : j.files ≤ j.es.length + 1
  las : j.lasts ≤ j.es.length
  may : ∀ e, some e ∈ j.es → mayB e = true
/-- block bj is a journal, bd its disk; the disk's blocks are in G, the journal's own ones in F -/
structure JlAt (w : World) (G F : Nat → Prop) (bj bd : Nat) (v : Value) (j : Jl) : Prop where
  dk : DkIn w G bd j.dk
  blk : w.heap[bj]? = some (jlObj bd v j)
  own : OwnJ w 0 v j.es
  fj : F bj
  fv : ∀ b, v.ownBlock = some b → F b ∧ b ≠ bj
  ap : ∀ b, F b → ¬ G b
  lt : ∀ b, F b → b < w.heap.size
def JlIn (w : World) (G F : Nat → Prop) (bj bd : Nat) (j : Jl) : Prop := j.Ok ∧ ∃ v, JlAt w G F bj bd v j
/-- a deed at a journal -/
def JlD (w : World) (G F : Nat → Prop) (bj bd : Nat) (j' : Jl) (w' : World) : Prop := ∃ G' F', JlIn w' G' F' bj bd j' ∧ (∀ b, G' b → G b ∨ w.heap.size ≤ b) ∧ (∀ b, F' b → F b ∨ w.heap.size ≤ b) ∧ Keep (fun b => G b ∨ F b) w w'
section
variable {w w' : World} {G F : Nat → Prop} {bj bd : Nat} {v : Value} {j : Jl}
theorem OwnJ.keepB {w w' : World} {base : Nat} {v : Value} {l : List (Option Ev)} (h : OwnJ w base v l) (hb : ∀ b, v.ownBlock = some b → w'.heap[b]? = w.heap[b]?) : OwnJ w' base v l := by
  refine ⟨h.1, ?_⟩
  rcases h.2 with ⟨e, hl⟩ | ⟨g, cap, cur, e, hb', hg, hr⟩
  · exact .inl ⟨e, hl⟩
  · exact .inr ⟨g, cap, cur, e, hb', (hb g (by rw [e]; rfl)).trans hg, hr⟩
theorem JlAt.keep (h : JlAt w G F bj bd v j) (hsz : w.heap.size ≤ w'.heap.size) (hk : ∀ b, G b ∨ F b → w'.heap[b]? = w.heap[b]?) : JlAt w' G F bj bd v j :=
  ⟨h.dk.keep hsz (fun b hb => hk b (.inl hb)), (hk _ (.inr h.fj)).trans h.blk, h.own.keepB fun b hb => hk b (.inr (h.fv b hb).1), h.fj, h.fv, h.ap, fun b hb => Nat.lt_of_lt_of_le (h.lt b hb) hsz⟩
theorem JlAt.up (h : JlAt w G F bj bd v j) (hb : Below w.heap.size w w') : JlAt w' G F bj bd v j := h.keep hb.size fun b hg => hb.block b (hg.elim (h.dk.lt b) (h.lt b))
theorem JlIn.up (h : JlIn w G F bj bd j) (hb : Below w.heap.size w w') : JlIn w' G F bj bd j := ⟨h.1, h.2.choose, h.2.choose_spec.up hb⟩
theorem JlIn.keep (h : JlIn w G F bj bd j) (hsz : w.heap.size ≤ w'.heap.size) (hk : ∀ b, G b ∨ F b → w'.heap[b]? = w.heap[b]?) : JlIn w' G F bj bd j := ⟨h.1, h.2.choose, h.2.choose_spec.keep hsz hk⟩
theorem JlIn.dk (h : JlIn w G F bj bd j) : DkIn w G bd j.dk := h.2.choose_spec.dk
theorem JlIn.lt (h : JlIn w G F bj bd j) : ∀ b, G b ∨ F b → b < w.heap.size := fun b hb => hb.elim (h.dk.lt b) (h.2.choose_spec.lt b)
theorem JlD.refl (h : JlIn w G F bj bd j) : JlD w G F bj bd j w := ⟨G, F, h, fun _ h => .inl h, fun _ h => .inl h, Keep.refl _ _⟩
theorem JlD.trans {w2 : World} {j2 : Jl} (h : JlD w G F bj bd j w') (h2 : ∀ G' F', JlIn w' G' F' bj bd j → JlD w' G' F' bj bd j2 w2) : JlD w G F bj bd j2 w2 := by
  obtain ⟨G1, F1, hi, hG, hF, hk⟩ := h
  obtain ⟨G2, F2, hi2, hG2, hF2, hk2⟩ := h2 G1 F1 hi
  have hs := hk.size
  refine ⟨G2, F2, hi2, fun b hb => ?_, fun b hb => ?_, hk.trans hk2 (fun b hb hg => ?_)⟩
  · rcases hG2 b hb with h | h
    · exact hG b h
    · right; omega
  · rcases hF2 b hb with h | h
    · exact hF b h
    · right; omega
  · rcases hg with h | h
    · rcases hG b h with h | h
      · exact .inl h
      · omega
    · rcases hF b h with h | h
      · exact .inr h
      · omega
theorem JlAt.cells (h : JlAt w G F bj bd v j) : w.cell? ⟨bj, 0, none⟩ = some (.pointer (some ⟨bd, 0, none⟩)) ∧ w.cell? ⟨bj, 1, none⟩ = some (.string ⟨j.name.toArray⟩) ∧ w.cell? ⟨bj, 2, none⟩ = some (.int .i64 j.per) ∧ w.cell? ⟨bj, 3, none⟩ = some (.int .i64 j.files) ∧ w.cell? ⟨bj, 4, none⟩ = some v ∧ w.cell? ⟨bj, 5, none⟩ = some (.int .i64 j.lasts) ∧ w.cell? ⟨bj, 6, none⟩ = some (.int .i64 j.stuck) := by
  have key : ∀ o, w.cell? ⟨bj, o, none⟩ = _ := fun o => cell_of_row w bj o _ _ (0, 0) h.blk
  exact ⟨(key 0).trans rfl, (key 1).trans rfl, (key 2).trans rfl, (key 3).trans rfl, (key 4).trans rfl, (key 5).trans rfl, (key 6).trans rfl⟩
theorem JlAt.frozen (h : JlAt w G F bj bd v j) (o : Nat) : w.frozen? ⟨bj, o, none⟩ = false := frozen_of_row w bj o _ _ h.blk
/-- the journal's head is written anew, its disk did a deed -/
theorem JlAt.head {G' : Nat → Prop} {j' : Jl} (h : JlAt w G F bj bd v j) (hd : DkIn w' G' bd j'.dk) (hG : ∀ b, G' b → G b ∨ w.heap.size ≤ b) (hb : w'.heap[bj]? = some (jlObj bd v j')) (he : j'.es = j.es)
    (hsz : w.heap.size ≤ w'.heap.size) (hk : ∀ b, F b → b ≠ bj → w'.heap[b]? = w.heap[b]?) : JlAt w' G' F bj bd v j' :=
  ⟨hd, hb, he ▸ h.own.keepB fun b hb => hk b (h.fv b hb).1 (h.fv b hb).2, h.fj, h.fv, fun b hb hg => (hG b hg).elim (h.ap b hb) (fun hs => by have := h.lt b hb; omega), fun b hb => Nat.lt_of_lt_of_le (h.lt b hb) hsz⟩
end
end Go.Proofs.YtgbagjpokpchpaaGreatDoor
namespace Go.Proofs.YtgbagjpokpchpaaGreatDoor
open Go.RowKit

theorem seal_long (w : World) (A : Option Addr) (n c : Nat) (hn : 65536 < n) (hm : n ≤ maxLen) :
    Calls Tryz.prog 110 #[.slice A n c] w fun e w' => e = .returned (.tuple #[.slice none 0 0, .int .i64 9]) ∧ w = w' := by
  unfold maxLen at hm
  go_enter Tryz.func110, Tryz.ntmps110
  go_wp2
  go_ret2
  exact ⟨rfl, rfl⟩

def SealPost (w : World) (l : List UInt8) (e : Ending) (w' : World) : Prop :=
  ∃ v, e = .returned (.tuple #[v, .int .i64 0]) ∧ OwnB w' w.heap.size v (Frm.sealB l) ∧ Below w.heap.size w w'

set_option maxRecDepth 100000 in
set_option maxHeartbeats 1000000 in
theorem seal_any (w : World) (A : Option Addr) (n c : Nat) (l : List UInt8) (h : Byt w w.heap.size A n c l) (hn : n ≤ 65536) :
    Calls Tryz.prog 110 #[.slice A n c] w (SealPost w l) := by
  have HH := Lib.hid h; clear h
  obtain ⟨i0, hi, hz0, hz1, hz2⟩ := info_parts u8_info
  go_enter Tryz.func110, Tryz.ntmps110
  go_wp2_with (at_make; refine wpList_make_own _ rfl _ _ 83 rfl w.heap.size 5 i0 (.int .u8 0) 1 Tryz.underlying83 hi hz0 hz1 _ _ _ (6 + n + 4) rfl rfl ?c1 ?c2 ?c3 (Nat.le_refl _) ?_)
  case c1 => omega
  case c2 => rw [hz2]; omega
  case c3 => unfold maxLen; omega
  intro w1 hown1 hg1
  have hsz : w.heap.size + 1 ≤ w1.heap.size := (hown1.lt _ rfl).2
  have HO1 := Lib.hid hown1; clear hown1
  have HG1 := Lib.hid hg1; clear hg1
  clear hi hz0 hz1 hz2
  go_wp2_with (at_builtin; refine wpList_app8 rfl (.tmp 26) (.tmp 36) rfl w.heap.size _ [] rfl ?c1 (w1.heap.size + 1) _ _ _ (Frm.be3 n ++ (Frm.be3 n).map (255 - ·)) rfl ?c2 ?c3 ?c4 ?_)
  case c1 => exact OwnB.alloc (l := []) HO1.out _
  case c2 => exact Byt.new w1 _ _ _ (by simp [Frm.be3, Frm.u8_toNat, Frm.sub255]; omega) 6 rfl (by unfold maxLen; omega)
  case c3 => simp
  case c4 => simp; omega
  intro v2 w2 hown2 hg2 _
  have hb1 : Below w.heap.size w w1 := Below.grown (Below.refl _ _) HG1.out (Nat.le_refl _) (by simp)
  have hb2 : Below w.heap.size w w2 := Below.grown (hb1.alloc (by omega) _) hg2 (by simp; omega) (by intro k hk; simp [Value.ownBlock] at hk; omega)
  have HO2 := Lib.hid hown2; clear hown2 hg2
  have hs2 := hb2.size
  go_wp2_with (at_builtin; refine wpList_app8 rfl (.tmp 38) (.tmp 39) rfl w.heap.size _ _ rfl HO2.out w.heap.size _ _ _ l rfl (HH.out.below hb2) ?c3 hs2 ?_)
  case c3 => simp [Frm.be3]; omega
  intro v3 w3 hown3 hg3 _
  have hb3 : Below w.heap.size w w3 := Below.grown hb2 hg3 hs2 HO2.out.lt
  have hs3 := hb3.size
  have hf : Frm.be3 n ++ ((Frm.be3 n).map (255 - ·) ++ l) = Frm.front l := by unfold Frm.front; rw [HH.out.len, List.append_assoc]
  rw [hf] at hown3
  obtain ⟨A3, c3, hv3⟩ := hown3.form
  have hl3 : (Frm.front l).length = n + 6 := by rw [Frm.front_length, HH.out.len]
  rw [hl3] at hv3
  rw [hv3] at hown3 ⊢
  have HO3 := Lib.hid hown3
  clear hown3 hg3 hf hl3 hv3 HO2 hs2
  have hlt := Frm.asum_lt (Frm.front l)
  have hfl := Frm.front_length l
  have hll := HH.out.len
  have HFL := Lib.hid hfl
  have HLL := Lib.hid hll
  clear hfl hll
  go_wp2_with fail
  refine (sum_any w3 _ A3 (n + 6) c3 (Frm.front l) HO3.out.byt (by omega)).mono ?_
  rintro e w' ⟨rfl, rfl⟩
  generalize hs : Frm.asum (Frm.front l) = s at *
  have HS := Lib.hid hs; clear hs
  go_wp2_with (at_builtin; refine wpList_app8 rfl (.tmp 43) (.tmp 55) rfl w.heap.size _ (Frm.front l) rfl ?c1 (w3.heap.size + 1) _ _ _ (Frm.be4 s) rfl ?c2 ?c3 ?c4 ?_)
  case c1 => exact OwnB.alloc HO3.out _
  case c2 => exact Byt.new w3 _ _ _ (by simp [Frm.be4, Frm.u8_toNat]; omega) 4 rfl (by unfold maxLen; omega)
  case c3 => rw [HFL.out, HLL.out]; omega
  case c4 => simp; omega
  intro v4 w4 hown4 hg4 _
  have hb4 : Below w.heap.size w w4 := Below.grown (hb3.alloc hs3 _) hg4 (by simp; omega) HO3.out.lt
  clear hg4
  go_wp2
  go_ret2
  refine ⟨v4, rfl, ?_, hb4⟩
  unfold Frm.sealB
  rw [HS.out]
  exact hown4
end Go.Proofs.YtgbagjpokpchpaaGreatDoor
namespace Go.Proofs.YtgbagjpokpchpaaGreatDoor
open Go.RowKit Go.Maps Go.Sort

theorem OwnB.up {w w' : World} {base : Nat} {v : Value} {l : List UInt8} (h : OwnB w base v l) (hb : Below w.heap.size w w') : OwnB w' base v l := h.below hb (Nat.le_refl _)
def FilePostJ (w : World) (s : List UInt8) (e : Ending) (w' : World) : Prop := e = .returned (.string ⟨s.toArray⟩) ∧ ∃ q, w' = w.drewN q
set_option maxRecDepth 100000 in
theorem jlfile_any (w : World) (bj : Nat) (s : List UInt8) (hc : w.cell? ⟨bj, 1, none⟩ = some (.string ⟨s.toArray⟩)) (hs : s.length ≤ 1000000) (k : Nat) (hk : k < 100) :
    Calls Tryz.prog 56 #[.pointer (some ⟨bj, 0, none⟩), .int .i64 k] w (FilePostJ w (segF s k)) := by
  have HS := Lib.hid (show (⟨s.toArray⟩ : ByteArray) ++ ⟨#[46]⟩ ++ ⟨(Lib.decDigits k).toArray⟩ = ⟨(segF s k).toArray⟩ by
    have e : (⟨#[46]⟩ : ByteArray) = ⟨[(46 : UInt8)].toArray⟩ := rfl
    rw [e, str_app, str_app]; simp [segF])
  have t1 : ¬ 9223372036854775807 < s.length + 1 := by omega
  have hd2 := (digits_two hk).2
  have t2 : ¬ 9223372036854775807 < s.length + 1 + (Lib.decDigits k).length := by omega
  go_enter Tryz.func56, Tryz.ntmps56
  go_wp2
  go_still_tail 8, (by kernel_rfl)
  still_call (Tryz.strconv_Itoa_small k hk _)
  repeat still_step
  refine wpStill_nil ?_
  change wpList _ _ _ _ _ (w.drewN 1)
  go_wp2
  go_ret
  exact ⟨congrArg (fun b => Ending.returned (.string b)) HS.out, 1, rfl⟩
abbrev entObj (x : Option Ev) : Obj := .cells #[.string ⟨(entE x).src.toArray⟩, .int .i64 (entE x).num, .int .i64 (entE x).at_, .int .i64 (entE x).kind, .string ⟨(entE x).per.toArray⟩, .string ⟨(entE x).item.toArray⟩, .int .i64 (entE x).val, .string ⟨(entE x).text.toArray⟩, .bool x.isNone] 81
/-- an entry lies at a block's head -/
def EntIn (w : World) (b : Nat) (x : Option Ev) : Prop :=
  w.cell? ⟨b, 0, none⟩ = some (.string ⟨(entE x).src.toArray⟩) ∧ w.cell? ⟨b, 1, none⟩ = some (.int .i64 (entE x).num) ∧ w.cell? ⟨b, 2, none⟩ = some (.int .i64 (entE x).at_) ∧ w.cell? ⟨b, 3, none⟩ = some (.int .i64 (entE x).kind) ∧
  w.cell? ⟨b, 4, none⟩ = some (.string ⟨(entE x).per.toArray⟩) ∧ w.cell? ⟨b, 5, none⟩ = some (.string ⟨(entE x).item.toArray⟩) ∧ w.cell? ⟨b, 6, none⟩ = some (.int .i64 (entE x).val) ∧ w.cell? ⟨b, 7, none⟩ = some (.string ⟨(entE x).text.toArray⟩) ∧ w.cell? ⟨b, 8, none⟩ = some (.bool x.isNone)
theorem EntIn.new (w : World) (x : Option Ev) : EntIn (w.alloc (entObj x)) w.heap.size x := by
  have key : ∀ o, (w.alloc (entObj x)).cell? ⟨w.heap.size, o, none⟩ = _ := fun o => cell_of_row _ w.heap.size o _ _ (0, 0) (heap_alloc_new w (entObj x))
  exact ⟨(key 0).trans rfl, (key 1).trans rfl, (key 2).trans rfl, (key 3).trans rfl, (key 4).trans rfl, (key 5).trans rfl, (key 6).trans rfl, (key 7).trans rfl, (key 8).trans rfl⟩
theorem EntIn.keepB {w w' : World} {b : Nat} {x : Option Ev} (h : EntIn w b x) (hb : w'.heap[b]? = w.heap[b]?) : EntIn w' b x := by
  obtain ⟨h0, h1, h2, h3, h4, h5, h6, h7, h8⟩ := h
  have key : ∀ (o : Nat) u, w.cell? ⟨b, o, none⟩ = some u → w'.cell? ⟨b, o, none⟩ = some u := fun o u hu => (World.cell?_of_block (w := w) (a := ⟨b, o, none⟩) hb).trans hu
  exact ⟨key _ _ h0, key _ _ h1, key _ _ h2, key _ _ h3, key _ _ h4, key _ _ h5, key _ _ h6, key _ _ h7, key _ _ h8⟩
def SealP (w : World) (l : List UInt8) (e : Ending) (w' : World) : Prop := ∃ v, e = .returned v ∧ OwnB w' w.heap.size v l ∧ Below w.heap.size w w'
set_option maxRecDepth 100000 in
set_option maxHeartbeats 2000000 in
theorem jseal_any (w : World) (x : Option Ev) (hx : ∀ e, x = some e → mayB e = true) (hmx : MaxAt w) : Calls Tryz.prog 69 #[entAgg x] w (SealP w (sealE x)) := by
  have HMX := Lib.hid hmx; clear hmx
  have hb0 : Below w.heap.size w (w.alloc (entObj x)) := (Below.refl _ _).alloc (Nat.le_refl _) _
  obtain ⟨f0, f1, f2, f3, f4, f5, f6, f7, f8⟩ := EntIn.new w x
  have HX := Lib.hid hx
  have HB0 := Lib.hid hb0
  clear hx hb0
  cases hxn : x.isNone
  · obtain ⟨e, rfl⟩ : ∃ e, x = some e := by cases x with
      | none => simp at hxn
      | some e => exact ⟨e, rfl⟩
    have hm := HX.out e rfl
    have HE := Lib.hid (show Frm.sealB (encE e) = sealE (some e) from rfl)
    have hel := (mayB_fit hm).len
    have HEN := Lib.hid (evenc_any (w.alloc (entObj (some e))) e hm (HMX.out.up HB0.out))
    have hagg : e.agg = .agg #[.string ⟨e.src.toArray⟩, .int .i64 e.num, .int .i64 e.at_, .int .i64 e.kind, .string ⟨e.per.toArray⟩, .string ⟨e.item.toArray⟩, .int .i64 e.val, .string ⟨e.text.toArray⟩] := rfl
    rw [hagg] at HEN
    simp only [entE, Option.getD_some] at *
    rw [hxn] at f8
    clear hagg hm HX
    go_enter Tryz.func69, Tryz.ntmps69
    go_wp2_with fail
    refine HEN.out.mono ?_
    rintro r w1 ⟨v1, rfl, ho1, hb1⟩
    have hbw1 : Below w.heap.size w w1 := HB0.out.trans (hb1.mono HB0.out.size)
    obtain ⟨A1, c1, hv1⟩ := ho1.form
    subst hv1
    have hby := ho1.byt
    have HBY := Lib.hid hby
    clear f0 f1 f2 f3 f4 f5 f6 f7 f8 hby ho1 hb1 HEN
    go_wp2_with fail
    with_reducible refine (seal_any w1 A1 _ c1 (encE e) HBY.out (by omega)).mono ?_
    rintro r w2 ⟨v2, rfl, ho2, hb2⟩
    have HR := Lib.hid (show SealP w (sealE (some e)) (.returned v2) w2 from ⟨v2, rfl, by rw [← HE.out]; exact ho2.base_le hbw1.size, hbw1.trans (hb2.mono hbw1.size)⟩)
    clear ho2 hb2
    go_wp2
    go_ret
    exact HR.out
  · obtain rfl : x = none := by cases x with
      | none => rfl
      | some e => simp at hxn
    have HE := Lib.hid (show Frm.sealB [] = sealE none from rfl)
    rw [hxn] at f8
    go_enter Tryz.func69, Tryz.ntmps69
    clear f0 f1 f2 f3 f4 f5 f6 f7
    go_wp2_with fail
    refine (seal_any (w.alloc (entObj none)) none 0 0 [] (Byt.nil _ _ _ _ (by unfold maxLen; omega)) (by omega)).mono ?_
    rintro r w2 ⟨v2, rfl, ho2, hb2⟩
    have HR := Lib.hid (show SealP w (sealE none) (.returned v2) w2 from ⟨v2, rfl, by rw [← HE.out]; exact ho2.base_le HB0.out.size, HB0.out.trans (hb2.mono HB0.out.size)⟩)
    clear ho2 hb2
    go_wp2
    go_ret
    exact HR.out
end Go.Proofs.YtgbagjpokpchpaaGreatDoor
namespace Go.Proofs.YtgbagjpokpchpaaGreatDoor
open Go.RowKit Go.Maps Go.Sort

section
variable {w w' : World} {G F : Nat → Prop} {bj bd : Nat} {v : Value} {j : Jl}
theorem JlAt.ng (h : JlAt w G F bj bd v j) : ¬ G bj := h.ap _ h.fj
/-- the disk did a deed -/
theorem JlAt.disk {d' : Dk} (h : JlAt w G F bj bd v j) (hd : DkD w G bd d' w') : ∃ G', JlAt w' G' F bj bd v { j with dk := d' } ∧ (∀ b, G' b → G b ∨ w.heap.size ≤ b) ∧ Keep G w w' := by
  obtain ⟨G', hi, hG, hk⟩ := hd
  have hlt := h.lt
  refine ⟨G', h.head hi hG ?_ rfl hk.size (fun b hb _ => hk.block b (hlt b hb) (h.ap b hb)), hG, hk⟩
  exact (hk.block bj (hlt _ h.fj) h.ng).trans h.blk
/-- a cell of the journal's own is written -/
theorem JlAt.setc {o : Nat} {u : Value} {j' : Jl} (h : JlAt w G F bj bd v j) (hd : j'.dk = j.dk) (he : j'.es = j.es) (hb : (w.setCell ⟨bj, o, none⟩ u).heap[bj]? = some (jlObj bd v j')) : JlAt (w.setCell ⟨bj, o, none⟩ u) G F bj bd v j' := by
  have hk : ∀ b, b ≠ bj → (w.setCell ⟨bj, o, none⟩ u).heap[b]? = w.heap[b]? := fun b hb => Below.heap_setCell _ _ _ _ hb
  exact h.head (hd ▸ h.dk.keep (by simp [World.setCell]) (fun b hb => hk b (fun e => h.ng (e ▸ hb)))) (fun b hb => .inl hb) hb he (by simp [World.setCell]) (fun b _ hne => hk b hne)
end
def JlPost (w : World) (G F : Nat → Prop) (bj bd : Nat) (j' : Jl) (er : Int) (e : Ending) (w' : World) : Prop := e = .returned (.int .i64 er) ∧ JlD w G F bj bd j' w'
theorem jlfail_any (w : World) (bj : Nat) (u : Value) (hc : w.cell? ⟨bj, 6, none⟩ = some u) (hf : w.frozen? ⟨bj, 6, none⟩ = false) (er : Int) :
    Calls Tryz.prog 70 #[.pointer (some ⟨bj, 0, none⟩), .int .i64 er] w fun e w' => e = .returned (.int .i64 er) ∧ w' = w.setCell ⟨bj, 6, none⟩ (.int .i64 er) := by
  go_enter Tryz.func70, Tryz.ntmps70
  go_wp2
  go_ret
  exact ⟨rfl, rfl⟩
set_option maxRecDepth 100000 in
set_option maxHeartbeats 2000000 in
theorem jlsync_any (w : World) (G F : Nat → Prop) (bj bd : Nat) (j : Jl) (h : JlIn w G F bj bd j) (hn : j.files ≤ 99) :
    Calls Tryz.prog 67 #[.pointer (some ⟨bj, 0, none⟩)] w (JlPost w G F bj bd j.sync j.syncE) := by
  have HI := Lib.hid h
  obtain ⟨ho, v, h⟩ := h
  obtain ⟨c0, c1, c2, c3, c4, c5, c6⟩ := h.cells
  have HH := Lib.hid h; have HO := Lib.hid ho
  have hnm := ho.nm
  clear h ho c2 c4 c5 c6
  by_cases h0 : j.files = 0
  · have HR := Lib.hid (show JlPost w G F bj bd j.sync j.syncE (.returned (.int .i64 0)) w from by
      have e1 : j.sync = j := by unfold Jl.sync; rw [if_pos h0]
      have e2 : j.syncE = 0 := by unfold Jl.syncE; rw [if_pos h0]
      rw [e1, e2]; exact ⟨rfl, JlD.refl HI.out⟩)
    rw [h0] at c3
    go_enter Tryz.func67, Tryz.ntmps67
    go_wp2
    go_ret
    exact HR.out
  · obtain ⟨m, hm⟩ : ∃ m, j.files = m + 1 := ⟨j.files - 1, by omega⟩
    have hlast : j.last = segF j.name m := by unfold Jl.last; rw [hm]; rfl
    have HS := Lib.hid (show j.sync = (if j.dk.syncE (segF j.name m) ≠ 0 then { j with dk := j.dk.sync (segF j.name m), stuck := j.dk.syncE (segF j.name m) } else { j with dk := j.dk.sync (segF j.name m), lasts := j.es.length }) by unfold Jl.sync; rw [if_neg h0, hlast])
    have HE := Lib.hid (show j.syncE = j.dk.syncE (segF j.name m) by unfold Jl.syncE; rw [if_neg h0, hlast])
    have hm2 : m < 100 := by omega
    have hsl := (segF_len j.name hm2).2
    rw [show ((j.files : Nat) : Int) = (m : Int) + 1 by omega] at c3
    clear hlast h0 hn
    have t1 : ((m : Int) + 1 == 0) = false := by simp; omega
    have HDS := Lib.hid (show ∀ q, Calls Tryz.prog 59 #[.pointer (some ⟨bd, 0, none⟩), .string ⟨(segF j.name m).toArray⟩] (w.drewN q) (DkPost (w.drewN q) G bd (j.dk.sync (segF j.name m)) (j.dk.syncE (segF j.name m))) from fun q => dksync_any (w.drewN q) G bd j.dk (HH.out.dk.up (below_drewN (Below.refl _ _) q)) _ (by omega))
    have HJ := Lib.hid (show ∀ q w3, DkD (w.drewN q) G bd (j.dk.sync (segF j.name m)) w3 → ∃ G', JlAt w3 G' F bj bd v { j with dk := j.dk.sync (segF j.name m) } ∧ (∀ b, G' b → G b ∨ w.heap.size ≤ b) ∧ Keep G w w3 from fun q w3 hd => by
      obtain ⟨G', a, b, c⟩ := (HH.out.up (below_drewN (Below.refl _ _) q)).disk hd
      exact ⟨G', a, b, ⟨c.os, c.tape, c.output, c.size, c.block⟩⟩)
    have HSS := Lib.hid (show ∀ q w3, DkD (w.drewN q) G bd (j.dk.sync (segF j.name m)) w3 → w3.cell? ⟨bj, 0, none⟩ = some (.pointer (some ⟨bd, 0, none⟩)) ∧ w3.cell? ⟨bj, 3, none⟩ = some (.int .i64 ((m : Int) + 1)) from fun q w3 hd => by
      obtain ⟨G', a, _, _⟩ := HJ.out q w3 hd
      have hc := a.cells
      have e : ((j.files : Nat) : Int) = (m : Int) + 1 := by omega
      exact ⟨hc.1, by rw [← e]; exact hc.2.2.2.1⟩)
    clear hm
    have HFL := Lib.hid (show ∀ W, W.cell? ⟨bj, 1, none⟩ = some (.string ⟨j.name.toArray⟩) → Calls Tryz.prog 56 #[.pointer (some ⟨bj, 0, none⟩), .int .i64 (IntKind.i64.wrap (m : Int))] W (FilePostJ W (segF j.name m)) from fun W hW => by rw [show IntKind.i64.wrap (m : Int) = (m : Int) by rw [IntKind.wrap_i64]; omega]; exact jlfile_any W bj j.name hW (by omega) m hm2)
    go_enter Tryz.func67, Tryz.ntmps67
    go_wp2
    go_region_held3 (fun W => W.cell? ⟨bj, 0, none⟩ = some (.pointer (some ⟨bd, 0, none⟩)) ∧ W.cell? ⟨bj, 3, none⟩ = some (.int .i64 ((m : Int) + 1))) (first | assumption | go_keep) (first
      | (go_at_call 56; (with_reducible refine (HFL.out _ ?_).mono ?_); (first | assumption | exact c1);  rintro r9 w2 ⟨rfl, q, rfl⟩)
      | (go_at_call 59; (with_reducible refine (HDS.out _).mono ?_); rintro r9 w3 ⟨rfl, hd3⟩; have hS := HSS.out _ _ hd3; have HD3 := Lib.hid hd3; clear hd3))
    obtain ⟨G3, hj3, hG3, hk3⟩ := HJ.out _ _ HD3.out
    have HJ3 := Lib.hid hj3; have HG3 := Lib.hid hG3; have HK3 := Lib.hid hk3
    obtain ⟨d0, d1, d2, d3, d4, d5, d6⟩ := hj3.cells
    have d5f := hj3.frozen 5
    have d6f := hj3.frozen 6
    obtain ⟨A, cp, hv⟩ := ownsRow_form hj3.own
    clear hj3 hG3 hk3 HD3 HDS HFL HJ HSS hS c0 c1 c3 t1
    by_cases hE0 : j.dk.syncE (segF j.name m) = 0
    · have HR := Lib.hid (show JlPost w G F bj bd j.sync j.syncE (.returned (.int .i64 0)) (w3.setCell ⟨bj, 5, none⟩ (.int .i64 j.es.length)) from by
        rw [HS.out, HE.out, hE0, if_neg (by simp)]
        refine ⟨rfl, G3, F, ⟨?_, v, HJ3.out.setc rfl rfl ?_⟩, HG3.out, fun _ h => .inl h, (HK3.out.mono (fun b _ h => .inl h)).setCell (p := ⟨bj, 5, none⟩) (fun _ => .inr HH.out.fj) _⟩
        · exact ⟨HO.out.per1, HO.out.per2, HO.out.nm, HO.out.num, HO.out.fl, Nat.le_refl _, HO.out.may⟩
        · rw [heap_set_row HJ3.out.blk]; rfl)
      rw [hv] at d4
      rw [hE0]
      clear d0 d1 d2 d3 d6 d6f hE0 hv
      go_wp2
      go_ret
      exact HR.out
    · have HR := Lib.hid (show JlPost w G F bj bd j.sync j.syncE (.returned (.int .i64 (j.dk.syncE (segF j.name m)))) (w3.setCell ⟨bj, 6, none⟩ (.int .i64 (j.dk.syncE (segF j.name m)))) from by
        rw [HS.out, HE.out, if_pos hE0]
        refine ⟨rfl, G3, F, ⟨?_, v, HJ3.out.setc rfl rfl ?_⟩, HG3.out, fun _ h => .inl h, (HK3.out.mono (fun b _ h => .inl h)).setCell (p := ⟨bj, 6, none⟩) (fun _ => .inr HH.out.fj) _⟩
        · exact ⟨HO.out.per1, HO.out.per2, HO.out.nm, HO.out.num, HO.out.fl, HO.out.las, HO.out.may⟩
        · rw [heap_set_row HJ3.out.blk]; rfl)
      clear d0 d1 d2 d3 d4 d5 d5f hv
      generalize j.dk.syncE (segF j.name m) = er at *
      go_wp2_with fail
      with_reducible refine (jlfail_any w3 bj _ d6 d6f er).mono ?_
      rintro r w4 ⟨rfl, rfl⟩
      go_wp2
      go_ret
      exact HR.out
end Go.Proofs.YtgbagjpokpchpaaGreatDoor
