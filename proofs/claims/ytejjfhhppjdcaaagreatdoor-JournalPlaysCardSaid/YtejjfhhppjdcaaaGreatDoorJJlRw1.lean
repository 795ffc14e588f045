/-
  Layer 5, plain: entries are erased, segment by segment.
  Layer 4: Replace.
  copy at elements of several cells, into a row that is known whole.
  Layer 5: Rewrite's closure: which entries go.
-/
import Derived.Test.YtejjfhhppjdcaaaGreatDoorJDInv
import Derived.Test.YtejjfhhppjdcaaaGreatDoorJDk6
import Derived.Test.YtejjfhhppjdcaaaGreatDoorJMapS
import Derived.Laws.CopyOwn
import Derived.Laws.NewBlocks
import Derived.Test.YtejjfhhppjdcaaaGreatDoorJJlRd
import Derived.Deep.DeepCutAuto
namespace Go.Proofs.YtejjfhhppjdcaaaGreatDoor
open Go.RowKit Go.Maps Go.Sort

/-- an entry behind an erasing -/
def erE (kb : Ev → Bool) : Option Ev → Option Ev
  | none => none
  | some e => if kb e then some e else none
def goesB (kb : Ev → Bool) : Option Ev → Bool
  | none => false
  | some e => !kb e
def cntE (kb : Ev → Bool) (l : List (Option Ev)) : Nat := (l.filter (goesB kb)).length
theorem erE_stays {kb : Ev → Bool} {x : Option Ev} (h : goesB kb x = false) : erE kb x = x := by
  cases x with
  | none => rfl
  | some e => simp only [goesB, Bool.not_eq_false'] at h; simp [erE, h]
theorem erE_goes {kb : Ev → Bool} {x : Option Ev} (h : goesB kb x = true) : erE kb x = none := by
  cases x with
  | none => simp [goesB] at h
  | some e => simp only [goesB, Bool.not_eq_true'] at h; simp [erE, h]
theorem cntE_snoc (kb : Ev → Bool) (l : List (Option Ev)) (x : Option Ev) : cntE kb (l ++ [x]) = cntE kb l + (if goesB kb x then 1 else 0) := by
  unfold cntE; rw [List.filter_append, List.length_append]
  cases h : goesB kb x <;> simp [h]
theorem cntE_zero {kb : Ev → Bool} {l : List (Option Ev)} (h : cntE kb l = 0) : l.map (erE kb) = l := by
  unfold cntE at h
  have h2 := List.eq_nil_of_length_eq_zero h
  rw [List.filter_eq_nil_iff] at h2
  have : ∀ x ∈ l, erE kb x = x := fun x hx => erE_stays (by simpa using h2 x hx)
  exact (List.map_congr_left this).trans (List.map_id _)
/-- segment k is erased in a row of entries -/
def erSeg (kb : Ev → Bool) (per k : Nat) (l : List (Option Ev)) : List (Option Ev) := l.take (k * per) ++ (segL per k l).map (erE kb) ++ l.drop ((k + 1) * per)
theorem erSeg_length (kb : Ev → Bool) (per k : Nat) (l : List (Option Ev)) : (erSeg kb per k l).length = l.length := by
  unfold erSeg
  simp only [List.length_append, List.length_take, List.length_map, segL_length, List.length_drop, Nat.succ_mul]
  omega
theorem erSeg_seg (kb : Ev → Bool) (per k : Nat) (l : List (Option Ev)) (h : k * per ≤ l.length) : segL per k (erSeg kb per k l) = (segL per k l).map (erE kb) := by
  have h1 : (l.take (k * per)).length = k * per := by rw [List.length_take]; omega
  have e : segL per k (erSeg kb per k l) = ((segL per k l).map (erE kb) ++ l.drop ((k + 1) * per)).take per := by
    unfold erSeg
    show List.take per (List.drop (k * per) _) = _
    rw [List.append_assoc, List.drop_append_of_le_length (by omega), List.drop_eq_nil_of_le (by omega), List.nil_append]
  rw [e]
  by_cases h2 : (k + 1) * per ≤ l.length
  · have h3 : ((segL per k l).map (erE kb)).length = per := by rw [List.length_map, segL_length]; rw [Nat.succ_mul] at h2; omega
    rw [List.take_append_of_le_length (by omega), List.take_of_length_le (by omega)]
  · rw [List.drop_eq_nil_of_le (by omega), List.append_nil, List.take_of_length_le (by rw [List.length_map]; exact segL_le _ _ _)]
theorem erSeg_other (kb : Ev → Bool) (per k i : Nat) (l : List (Option Ev)) (h : k * per ≤ l.length) (hi : i ≠ k) : segL per i (erSeg kb per k l) = segL per i l := by
  have hl := erSeg_length kb per k l
  rcases Nat.lt_or_ge i k with h1 | h1
  · have h2 : (i + 1) * per ≤ k * per := Nat.mul_le_mul_right _ h1
    have e : erSeg kb per k l = l.take (k * per) ++ ((segL per k l).map (erE kb) ++ l.drop ((k + 1) * per)) := by unfold erSeg; rw [List.append_assoc]
    rw [e, segL_append _ _ (by rw [List.length_take]; omega), segL_take _ h2]
  · have h2 : (k + 1) * per ≤ i * per := Nat.mul_le_mul_right _ (by omega)
    have h3 : (erSeg kb per k l).drop (i * per) = l.drop (i * per) := by
      by_cases h4 : (k + 1) * per ≤ l.length
      · have h5 : (l.take (k * per) ++ (segL per k l).map (erE kb)).length = (k + 1) * per := by
          rw [List.length_append, List.length_take, List.length_map, segL_length]; rw [Nat.succ_mul] at *; omega
        unfold erSeg
        rw [show i * per = (k + 1) * per + (i * per - (k + 1) * per) by omega, ← List.drop_drop, ← List.drop_drop, List.drop_left' h5]
      · rw [List.drop_eq_nil_of_le (by omega), List.drop_eq_nil_of_le (by omega)]
    unfold segL; rw [h3]
/-- one segment is written anew -/
def Jl.rew1 (j : Jl) (kb : Ev → Bool) (k : Nat) : Jl :=
  if cntE kb (segL j.per k j.es) = 0 then j
  else if j.dk.replaceE (segF j.name k) (bytesL ((segL j.per k j.es).map (erE kb))) ≠ 0 then { j with dk := j.dk.replace (segF j.name k) (bytesL ((segL j.per k j.es).map (erE kb))), stuck := j.dk.replaceE (segF j.name k) (bytesL ((segL j.per k j.es).map (erE kb))) }
  else { j with dk := j.dk.replace (segF j.name k) (bytesL ((segL j.per k j.es).map (erE kb))), es := erSeg kb j.per k j.es, lasts := if k + 1 = j.files then j.es.length else j.lasts }
def Jl.rew1E (j : Jl) (kb : Ev → Bool) (k : Nat) : Int :=
  if cntE kb (segL j.per k j.es) = 0 then 0 else j.dk.replaceE (segF j.name k) (bytesL ((segL j.per k j.es).map (erE kb)))
def Jl.rew1N (j : Jl) (kb : Ev → Bool) (k : Nat) : Nat := if j.rew1E kb k ≠ 0 then 0 else cntE kb (segL j.per k j.es)
theorem Jl.rew1_same (j : Jl) (kb : Ev → Bool) (k : Nat) : (j.rew1 kb k).name = j.name ∧ (j.rew1 kb k).per = j.per ∧ (j.rew1 kb k).files = j.files ∧ (j.rew1 kb k).es.length = j.es.length := by
  unfold Jl.rew1
  split
  · exact ⟨rfl, rfl, rfl, rfl⟩
  · split
    · exact ⟨rfl, rfl, rfl, rfl⟩
    · exact ⟨rfl, rfl, rfl, erSeg_length _ _ _ _⟩
/-- from a segment on, as many as there are -/
def Jl.rewF (kb : Ev → Bool) : Nat → Jl → Nat → Nat → Jl × Nat × Int
  | 0, j, _, all => (j, all, 0)
  | f + 1, j, k, all => if j.rew1E kb k ≠ 0 then (j.rew1 kb k, all, j.rew1E kb k) else Jl.rewF kb f (j.rew1 kb k) (k + 1) (all + cntE kb (segL j.per k j.es))
/-- Rewrite: the journal, how many are erased, what is wrong -/
def Jl.rewr (j : Jl) (kb : Ev → Bool) : Jl × Nat × Int := if j.stuck ≠ 0 then (j, 0, j.stuck) else Jl.rewF kb (nseg j.es.length j.per) j 0 0
end Go.Proofs.YtejjfhhppjdcaaaGreatDoor
namespace Go.Proofs.YtejjfhhppjdcaaaGreatDoor
open Go.RowKit Go.Maps Go.Sort

theorem Dk.repl_no {d : Dk} {s b : List UInt8} (h : d.asked s ≠ 0) : d.replace s b = d ∧ d.replaceE s b = d.asked s := by unfold Dk.replace Dk.replaceE; rw [if_pos h, if_pos h]; exact ⟨rfl, rfl⟩
theorem Dk.repl_full {d : Dk} {s b : List UInt8} (h : d.asked s = 0) (hf : d.fullB s (b.length - (d.file s).data.length) = true) : d.replace s b = d ∧ d.replaceE s b = 5 := by unfold Dk.replace Dk.replaceE; simp [h, hf]
theorem Dk.repl_yes {d : Dk} {s b : List UInt8} (h : d.asked s = 0) (hf : d.fullB s (b.length - (d.file s).data.length) = false) : d.replace s b = (if d.stepB then { d.step.put s ⟨b, b.length, true⟩ with used := d.used + (b.length - (d.file s).data.length) } else d.step) ∧ d.replaceE s b = if d.stepB then 0 else 8 := by
  unfold Dk.replace Dk.replaceE; simp only [h, hf, ne_eq, not_true_eq_false, if_false, Bool.false_eq_true]; exact ⟨trivial, trivial⟩
set_option maxRecDepth 100000 in
set_option maxHeartbeats 2000000 in
theorem dkrepl_any (w : World) (G : Nat → Prop) (bd : Nat) (d : Dk) (h : DkIn w G bd d) (s : List UInt8) (hs : s.length ≤ 1000000) (A : Option Addr) (n c : Nat) (b : List UInt8) (hb : Byt w w.heap.size A n c b) (hA : ∀ b off, A = some ⟨b, off, none⟩ → ¬ G b) (hn : n ≤ 1000000) :
    Calls Tryz.prog 30 #[.pointer (some ⟨bd, 0, none⟩), .string ⟨s.toArray⟩, .slice A n c] w (DkPost w G bd (d.replace s b) (d.replaceE s b)) := by
  have HI := Lib.hid h
  obtain ⟨ho, bm, B, V, h⟩ := h
  have HH := Lib.hid h; have HO := Lib.hid ho; have HB := Lib.hid hb; have HA := Lib.hid hA
  have hbl : b.length = n := hb.len
  have hu0 := ho.used0
  have hu1 := ho.max
  have c0 := h.cells.1
  have HL := Lib.hid (h.look s hs)
  have hfu := And.intro ho.fuse0 ho.fuse1
  have hfl := ho.file_len s
  clear h ho hb hA
  by_cases h0 : d.asked s = 0
  · have hca := dkasked_any w G bd bm d B V HH.out s
    rw [h0] at hca
    have HCA := Lib.hid hca; clear hca
    obtain ⟨old, hold⟩ : ∃ old : Nat, old = (d.file s).data.length := ⟨_, rfl⟩
    have hcf := dkfull_any w G bd bm d B V HH.out HO.out s hs ((n : Int) - old) (by omega)
    have HZ := Lib.hid h0
    -- the file's length
    have hpre : ∀ (Q : World → Prop), True := fun _ => trivial
    clear hpre h0
    rw [← hold] at hfl
    have HOL := Lib.hid hold
    have hfd : (getB d.files s = none ∧ old = 0) ∨ (∃ f, getB d.files s = some f ∧ f.data.length = old) := by
      cases hg : getB d.files s with
      | none => exact .inl ⟨rfl, by rw [hold]; unfold Dk.file; rw [hg]; rfl⟩
      | some f => exact .inr ⟨f, rfl, by rw [hold]; unfold Dk.file; rw [hg]; rfl⟩
    clear hold
    have hw1 : wrap64 ((n : Int) - old) = (n : Int) - old := by unfold wrap64; omega
    go_enter Tryz.func30, Tryz.ntmps30
    go_wp2_with fail
    refine HCA.out.mono ?_
    rintro e w0 ⟨rfl, rfl⟩
    have hl := HL.out
    rcases hfd with ⟨hg, ho0⟩ | ⟨f, hg, hfo⟩
    case' inl =>
      rw [show ptrOf d B s = .pointer none by unfold ptrOf; rw [hg]; rfl, hg] at hl
      clear hg
      go_wp2_with fail
    case' inr =>
      rw [show ptrOf d B s = .pointer (some ⟨B s, 0, none⟩) by unfold ptrOf; rw [hg]; rfl, hg] at hl
      obtain ⟨x0, x1, x2⟩ := HH.out.filecells hg
      obtain ⟨Av, cv, hv⟩ := (HH.out.own _ (getB_mem hg)).form
      replace hv : V s = .slice Av f.data.length cv := hv
      rw [hv, hfo] at x0
      clear hg x1 x2 hv hfo
      go_wp2_with fail
      clear x0
    case' inl =>
      have hcf' : Calls Tryz.prog 75 #[.pointer (some ⟨bd, 0, none⟩), .string ⟨s.toArray⟩, .int .i64 (n : Int)] w fun e w' => e = .returned (.bool (d.fullB s ((n : Int) - old))) ∧ w = w' := by
        rw [show (Value.int .i64 (n : Int)) = .int .i64 ((n : Int) - old) by rw [ho0]; simp]; exact hcf
      with_reducible refine hcf'.mono ?_
      clear hcf'
    case' inr => with_reducible refine hcf.mono ?_
    all_goals
      clear hcf
      rintro e w0 ⟨rfl, rfl⟩
      have hfE : ∀ q, d.fullB s ((n : Int) - old) = q → d.fullB s (b.length - (d.file s).data.length) = q := fun q h => by rw [hbl, ← HOL.out]; exact h
      have HFE := Lib.hid hfE
      clear hfE hl c0
      cases hf : d.fullB s ((n : Int) - old)
      case true =>
        have hE := Dk.repl_full (b := b) HZ.out (HFE.out _ hf)
        have HR := Lib.hid (show DkPost w G bd (d.replace s b) (d.replaceE s b) (.returned (.int .i64 5)) w from ⟨by rw [hE.2], by rw [hE.1]; exact DkD.refl HI.out⟩)
        clear hE hf
        go_wp2
        go_ret
        exact HR.out
      have HE := Lib.hid (Dk.repl_yes (b := b) HZ.out (HFE.out _ hf))
      have HFN := Lib.hid (Dk.full_no hf)
      clear hf
      go_wp2_with fail
      with_reducible refine (dkstep_any w G bd bm d B V HH.out hfu).mono ?_
      rintro e w1 ⟨rfl, hd1, hk1, hs1⟩
      have HD1 := Lib.hid hd1; have HK1 := Lib.hid hk1; have HS1 := Lib.hid hs1
      clear hd1 hk1 hs1 hfu
      cases hst : d.stepB
      case false =>
        have HR := Lib.hid (show DkPost w G bd (d.replace s b) (d.replaceE s b) (.returned (.int .i64 8)) w1 from by
          have := HE.out
          rw [hst] at this
          rw [this.1, this.2]
          exact ⟨rfl, G, ⟨HO.out.step, bm, B, V, HD1.out⟩, fun _ h => .inl h, HK1.out.mono (fun b _ e => e ▸ HH.out.gd)⟩)
        clear hst
        go_wp2
        go_ret
        exact HR.out
      have HE2 := Lib.hid (show d.replace s b = { d.step.put s ⟨b, b.length, true⟩ with used := d.used + (b.length - (d.file s).data.length) } ∧ d.replaceE s b = 0 from by
        have := HE.out
        rw [hst] at this; exact this)
      clear hst
      go_wp2_with fail
      with_reducible refine (dkfile_any w1 G bd bm d.step B V HD1.out HO.out.step s hs).mono ?_
      rintro e w2 ⟨G2, B2, V2, f2, rfl, hd2, hf2, hff2, hG2, hk2⟩
      have HD2 := Lib.hid hd2; have HF2 := Lib.hid hf2; have HG2 := Lib.hid hG2
      have HK2 := Lib.hid (show Keep G w w2 from (HK1.out.mono (fun b _ e => e ▸ HH.out.gd)).trans hk2 (fun _ _ h => h))
      have HB2 := Lib.hid (HB.out.keepG HA.out HK2.out)
      have hsz2 := HK2.out.size
      have hs12 := hk2.size
      clear hd2 hf2 hff2 hG2 hk2
      go_wp2_with (at_builtin; refine wpList_app8 rfl (.tmp 47) (.tmp 48) rfl w2.heap.size _ [] rfl ?c1 w2.heap.size _ _ _ b rfl ?c2 ?c3 ?c4 ?_)
      case c1 => exact World.ownsRow_lit w2 #[] 0 (Nat.le_refl _) (by simp [maxLen]) rfl
      case c2 => exact HB2.out.alloc (Nat.le_refl _) _
      case c3 => simp; omega
      case c4 => simp
      intro v3 w3 ho3 hg3 hv3
      have hs3 : w2.heap.size + 1 ≤ w3.heap.size := by have := hg3.size; simpa using this
      have hk3 : ∀ k, k < w2.heap.size → w3.heap[k]? = w2.heap[k]? := fun k hk => (hg3.block k (by simp; omega) (by simp [Value.ownBlock]; omega)).trans (heap_alloc_old _ _ hk)
      have hbs : B2 s < w2.heap.size := HD2.out.lt _ (HD2.out.gB _ (getB_mem HF2.out))
      have hbd : bd < w2.heap.size := HD2.out.lt _ HD2.out.gd
      have hne : B2 s ≠ bd ∧ B2 s ≠ bm := HD2.out.nB _ (getB_mem HF2.out)
      have hv3n : ∀ k, v3.ownBlock = some k → w2.heap.size ≤ k := fun k hk => ho3.lt k hk
      have y0 : w3.heap[B2 s]? = some (flObj (V2 s) f2) := (hk3 _ hbs).trans (HD2.out.fl _ (getB_mem HF2.out))
      have y1 : w3.heap[bd]? = some (dkObj bm (d.step.made s)) := (hk3 _ hbd).trans HD2.out.blk
      have z0 : w3.cell? ⟨B2 s, 0, none⟩ = some (V2 s) := (cell_of_row w3 (B2 s) 0 _ _ (0, 0) y0).trans rfl
      have z1 : w3.cell? ⟨B2 s, 1, none⟩ = some (.int .i64 f2.lasts) := (cell_of_row w3 (B2 s) 1 _ _ (0, 0) y0).trans rfl
      have z2 : w3.cell? ⟨B2 s, 2, none⟩ = some (.bool f2.stays) := (cell_of_row w3 (B2 s) 2 _ _ (0, 0) y0).trans rfl
      have z3 : w3.cell? ⟨bd, 1, none⟩ = some (.int .i64 d.used) := by
        have := (cell_of_row w3 bd 1 _ _ (0, 0) y1)
        rw [this]; show some (Value.int .i64 d.step.used) = _; rw [d.step_files.2]
      have zf : ∀ o, w3.frozen? ⟨B2 s, o, none⟩ = false := fun o => frozen_of_row w3 (B2 s) o _ _ y0
      have zd : w3.frozen? ⟨bd, 1, none⟩ = false := frozen_of_row w3 bd 1 _ _ y1
      have zf0 := zf 0
      have zf1 := zf 1
      have zf2 := zf 2
      have HFIN := Lib.hid (show ∀ u : Int, u = d.used + ((n : Int) - old) → DkPost w G bd (d.replace s b) (d.replaceE s b) (.returned (.int .i64 0)) ((((w3.setCell ⟨B2 s, 0, none⟩ v3).setCell ⟨B2 s, 1, none⟩ (.int .i64 n)).setCell ⟨B2 s, 2, none⟩ (.bool true)).setCell ⟨bd, 1, none⟩ (.int .i64 u)) from fun u hu => by
        rw [HE2.out.1, HE2.out.2]
        have hmade : (d.step.made s).files = putB s (d.step.file s) d.step.files := rfl
        generalize hW : (((w3.setCell ⟨B2 s, 0, none⟩ v3).setCell ⟨B2 s, 1, none⟩ (.int .i64 n)).setCell ⟨B2 s, 2, none⟩ (.bool true)).setCell ⟨bd, 1, none⟩ (.int .i64 u) = W
        have kk : ∀ k, k ≠ bd → k ≠ B2 s → W.heap[k]? = w3.heap[k]? := fun k h1 h2 => by
          rw [← hW, Below.heap_setCell _ _ _ _ h1, Below.heap_setCell _ _ _ _ h2, Below.heap_setCell _ _ _ _ h2, Below.heap_setCell _ _ _ _ h2]
        have hWs : W.heap.size = w3.heap.size := by rw [← hW]; simp [World.setCell]
        have y0' : W.heap[B2 s]? = some (flObj v3 ⟨b, b.length, true⟩) := by
          rw [← hW, Below.heap_setCell _ _ _ _ hne.1, heap_set_row (heap_set_row (heap_set_row y0)), hbl]; rfl
        have y1' : W.heap[bd]? = some (dkObj bm { d.step.put s ⟨b, b.length, true⟩ with used := d.used + (b.length - (d.file s).data.length) }) := by
          have y1'' : (((w3.setCell ⟨B2 s, 0, none⟩ v3).setCell ⟨B2 s, 1, none⟩ (.int .i64 n)).setCell ⟨B2 s, 2, none⟩ (.bool true)).heap[bd]? = some (dkObj bm (d.step.made s)) := by
            rw [Below.heap_setCell _ _ _ _ (Ne.symm hne.1), Below.heap_setCell _ _ _ _ (Ne.symm hne.1), Below.heap_setCell _ _ _ _ (Ne.symm hne.1)]; exact y1
          rw [← hW, heap_set_row y1'', hu, hbl, ← HOL.out]; rfl
        have hOk : ({ d.step.put s ⟨b, b.length, true⟩ with used := d.used + (b.length - (d.file s).data.length) } : Dk).Ok := by
          have h1 := HFN.out
          refine HO.out.step.put s ⟨b, b.length, true⟩ _ ?_ (by rw [hbl, ← HOL.out]; exact h1.1) (by rw [d.step_files.1]; exact h1.2) ⟨by simp, by simp⟩
          unfold Dk.file; rw [d.step_files.1, d.step_files.2]; simp; omega
        refine ⟨rfl, _, ⟨hOk, bm, _, _, HD2.out.set (w' := W) s ⟨b, b.length, true⟩ v3 (B2 s) _ ?_ y1' ?_ y0' ?_ ?_ ?_ (.inl ⟨f2, HF2.out, rfl⟩) ?_⟩, ?_, ?_⟩
        · rw [hmade, putB_putB HO.out.step.up]; rfl
        · have e := map_put_here HD2.out.up ⟨b, b.length, true⟩ HF2.out (fun t => (.pointer (some ⟨if t = s then B2 s else B2 t, 0, none⟩)))
          rw [e]
          have e2 : (fun p : List UInt8 × Fl => (p.1, Value.pointer (some ⟨if p.1 = s then B2 s else B2 p.1, 0, none⟩))) = fun p => (p.1, .pointer (some ⟨B2 p.1, 0, none⟩)) := by
            funext p; split
            · next h => rw [h]
            · rfl
          rw [e2]
          exact HD2.out.map.block ((kk bm HD2.out.nm.symm hne.2.symm).trans (hk3 bm (HD2.out.lt _ HD2.out.gm)))
        · exact (ho3.base_le (Nat.zero_le _)).keepB fun k hk => kk k (by have := hv3n k hk; omega) (by have := hv3n k hk; omega)
        · rw [hWs]; omega
        · intro k hk h1 h2 h3
          exact (kk k h1 (h3 f2 HF2.out).1).trans (hk3 k (HD2.out.lt k hk))
        · intro k hk
          have := hv3n k hk
          exact .inr ⟨this, by omega⟩
        · rintro k (hk | rfl | hk)
          · exact (HG2.out k hk).imp id (fun h => by have := HS1.out; omega)
          · exact (HG2.out _ (HD2.out.gB _ (getB_mem HF2.out))).imp id (fun h => by have := HS1.out; have h' : w1.heap.size ≤ B2 s := h; omega)
          · have := hv3n k hk; right; omega
        · have hin : ∀ k, k < w.heap.size → G2 k → G k := fun k hk hg => (HG2.out k hg).elim id (fun h => by have := HS1.out; omega)
          have hk4 : Keep G w w3 := ((HK2.out.alloc _).trans (Keep.of_grown (F := fun k => k = w2.heap.size) hg3 (fun k e => by simp [Value.ownBlock] at e; exact e.symm)) (fun k hk e => by omega))
          rw [← hW]
          exact ((((hk4.setCell (p := ⟨B2 s, 0, none⟩) (fun h => hin _ h (HD2.out.gB _ (getB_mem HF2.out))) _).setCell (p := ⟨B2 s, 1, none⟩) (fun h => hin _ h (HD2.out.gB _ (getB_mem HF2.out))) _).setCell (p := ⟨B2 s, 2, none⟩) (fun h => hin _ h (HD2.out.gB _ (getB_mem HF2.out))) _).setCell (p := ⟨bd, 1, none⟩) (fun h => hin _ h HD2.out.gd) _))
      obtain ⟨A3, c3, e3⟩ := ho3.form
      have hne' : bd ≠ B2 s := Ne.symm hne.1
      clear ho3 hg3 hv3 hk3 hbs hbd hne hv3n y0 y1 zf HB2
      generalize b.length = n3 at e3
      subst e3
      have hw2 : wrap64 (d.used + ((n : Int) - old)) = d.used + ((n : Int) - old) := by unfold wrap64; omega
      have hw3 : wrap64 (d.used + (n : Int)) = d.used + (n : Int) := by unfold wrap64; omega
      go_wp2
      go_ret
      exact HFIN.out _ (by first | rfl | omega)
  · have HCA := Lib.hid (dkasked_any w G bd bm d B V HH.out s)
    have hE := Dk.repl_no (b := b) h0
    have HR := Lib.hid (show DkPost w G bd (d.replace s b) (d.replaceE s b) (.returned (.int .i64 (d.asked s))) w from ⟨by rw [hE.2], by rw [hE.1]; exact DkD.refl HI.out⟩)
    clear hE
    generalize d.asked s = q at *
    go_enter Tryz.func30, Tryz.ntmps30
    go_wp2_with fail
    refine HCA.out.mono ?_
    rintro e w0 ⟨rfl, rfl⟩
    go_wp2
    go_ret
    exact HR.out
end Go.Proofs.YtejjfhhppjdcaaaGreatDoor
namespace Go.Proofs.YtejjfhhppjdcaaaGreatDoor
open Go.RowKit

section
variable {P : Program}
theorem run_copy_k (w : World) (dT sT ty elem : TypeId) (size g o dLen dCap : Nat) (a : Addr) (sLen sCap : Nat) (cur : Array Value) (t : TypeId) (cs : List Value) (m : Nat)
    (hu : P.underlying dT = some (.slice elem)) (hs : (P.info? elem).map (·.size) = some size)
    (hg : w.heap[g]? = some (.cells cur t (0, 0))) (hm : m = Nat.min sLen dLen) (hn : cs.length = m * size)
    (hsrc : ∀ j v, cs[j]? = some v → w.cell? (a.add j) = some v) (hfit : o + cs.length ≤ cur.size) (h1 : ∀ v ∈ cs, v.oneCell' = true) :
    (Builtin.copy_ #[dT, sT] ty #[.slice (some ⟨g, o, none⟩) dLen dCap, .slice (some a) sLen sCap]).run P w =
      .ok (goInt m) (w.setRow g (cur.toList.take o ++ cs ++ cur.toList.drop (o + cs.length)).toArray) := by
  have hl := run_loadCells_list (P := P) w a cs hsrc
  have hst := run_storeCells_at P g o t cs 0 cur w hg (by simpa using hfit) h1
  rw [hn] at hl
  cases hq : P.info? elem with
  | none => simp [hq] at hs
  | some i =>
    have hi : i.size = size := by simpa [hq] using hs
    simp [Builtin.copy_, run_underlying hu, Builtin.lenOf, Builtin.firstCells, sizeOf, typeInfo, hq, hi, ← hm, hl, hst]

/-- what a copy leaves -/
structure Spliced (w w' : World) (g o : Nat) (cur : Array Value) (t : TypeId) (cs : List Value) : Prop where
  row : w'.heap[g]? = some (.cells (cur.toList.take o ++ cs ++ cur.toList.drop (o + cs.length)).toArray t (0, 0))
  size : w'.heap.size = w.heap.size
  grown : w.grownBy w' (some g)

theorem spliced_setRow (w : World) (g o : Nat) (cur : Array Value) (t : TypeId) (cs : List Value) (hg : w.heap[g]? = some (.cells cur t (0, 0))) :
    Spliced w (w.setRow g (cur.toList.take o ++ cs ++ cur.toList.drop (o + cs.length)).toArray) g o cur t cs :=
  ⟨setRow_heap w g cur _ t (0, 0) hg, by simp [World.setRow], ⟨rfl, rfl, rfl, by simp [World.setRow], fun k _ hk => setRow_other w g k _ (fun e => hk (by rw [e]))⟩⟩

theorem wpList_copy_k {w : World} {ops : Array Oper} {rest : List Oper} {o : Oper} {a : Act} {Q : Exit → Act → World → Prop} (hgd : o.guard = none) (d s : Operand) (dT sT : TypeId)
    (ho : o.op = .call { callee := .builtin .copy, args := #[d, s], argTypes := #[dT, sT] }) (elem : TypeId) (size : Nat) (hu : P.underlying dT = some (.slice elem)) (hsz : (P.info? elem).map (·.size) = some size)
    (g off dLen dCap : Nat) (ad : Addr) (sLen sCap : Nat) (hd : a.eval d = .slice (some ⟨g, off, none⟩) dLen dCap) (hs : a.eval s = .slice (some ad) sLen sCap)
    (cur : Array Value) (t : TypeId) (hg : w.heap[g]? = some (.cells cur t (0, 0))) (cs : List Value) (m : Nat) (hm : m = Nat.min sLen dLen) (hn : cs.length = m * size)
    (hsrc : ∀ j v, cs[j]? = some v → w.cell? (ad.add j) = some v) (hfit : off + cs.length ≤ cur.size) (h1 : ∀ v ∈ cs, v.oneCell' = true)
    (h : ∀ w', Spliced w w' g off cur t cs → wpList P ops Q rest (a.put o.dst (goInt m)) w') : wpList P ops Q (o :: rest) a w := by
  refine wpList_plain hgd fun K hK => ?_
  have hrun := run_copy_k (P := P) w dT sT o.type elem size g off dLen dCap ad sLen sCap cur t cs m hu hsz hg hm hn hsrc hfit h1
  unfold Oper.wp
  simp [execOp, ho, resolve, invoke, builtin, hd, hs, hrun, Result.andThen]
  have := spliced_setRow w g off cur t cs hg
  refine hK _ _ (h _ ?_)
  simpa using this

theorem step_copy_k {ops : Array Oper} {o : Oper} {a : Act} {w : World} {K : Act → World → Prop} {Q : Exit → Act → World → Prop} {E : Prop} (hgd : o.guard = none) (d s : Operand) (dT sT : TypeId)
    (ho : o.op = .call { callee := .builtin .copy, args := #[d, s], argTypes := #[dT, sT] }) (elem : TypeId) (size : Nat) (hu : P.underlying dT = some (.slice elem)) (hsz : (P.info? elem).map (·.size) = some size)
    (g off dLen dCap : Nat) (ad : Addr) (sLen sCap : Nat) (hd : a.eval d = .slice (some ⟨g, off, none⟩) dLen dCap) (hs : a.eval s = .slice (some ad) sLen sCap)
    (cur : Array Value) (t : TypeId) (hg : w.heap[g]? = some (.cells cur t (0, 0))) (cs : List Value) (m : Nat) (hm : m = Nat.min sLen dLen) (hn : cs.length = m * size)
    (hsrc : ∀ j v, cs[j]? = some v → w.cell? (ad.add j) = some v) (hfit : off + cs.length ≤ cur.size) (h1 : ∀ v ∈ cs, v.oneCell' = true)
    (h : ∀ w', Spliced w w' g off cur t cs → K (a.put o.dst (goInt m)) w') :
    if Region.wanted o (yielded ops a.tmps) = true then Oper.wp P o a w K Q else E := by
  have hw : Region.wanted o (yielded ops a.tmps) = true := by simp [Region.wanted, hgd]
  rw [if_pos hw]
  have hrun := run_copy_k (P := P) w dT sT o.type elem size g off dLen dCap ad sLen sCap cur t cs m hu hsz hg hm hn hsrc hfit h1
  unfold Oper.wp
  simp [execOp, ho, resolve, invoke, builtin, hd, hs, hrun, Result.andThen]
  have := spliced_setRow w g off cur t cs hg
  refine h _ ?_
  simpa using this
end
end Go.Proofs.YtejjfhhppjdcaaaGreatDoor
namespace Go.Proofs.YtejjfhhppjdcaaaGreatDoor
open Go.RowKit Go.Maps Go.Sort

/-- a closure that tells which events stay; I tells what it was asked of, and that its blocks are in H -/
structure Asker (F : Nat) (caps : Array Value) (kb : Ev → Bool) (I : List Ev → (Nat → Prop) → World → Prop) : Prop where
  enter : ∀ (args : Array Value) (w : World), (callFunc F args).run Tryz.prog w = .ok (.enter F args) w
  ask : ∀ (W : World) (aq : List Ev) (H : Nat → Prop) (e : Ev), aq.length ≤ 1000 → I aq H W → mayB e = true → Calls Tryz.prog F (#[e.agg] ++ caps) W fun r W' => r = .returned (.bool (kb e)) ∧ ∃ H', I (aq ++ [e]) H' W' ∧ (∀ b, H' b → H b ∨ W.heap.size ≤ b) ∧ Keep H W W'
  keep : ∀ aq H W W', I aq H W → W.heap.size ≤ W'.heap.size → (∀ b, H b → W'.heap[b]? = W.heap[b]?) → I aq H W'
  lt : ∀ aq H W, I aq H W → ∀ b, H b → b < W.heap.size
/-- a journal beside such a closure -/
structure Rw (I : List Ev → (Nat → Prop) → World → Prop) (fv : Value) (G F H : Nat → Prop) (bj bd bt : Nat) (v : Value) (j : Jl) (aq : List Ev) (W : World) : Prop where
  jl : JlAt W G F bj bd v j
  i : I aq H W
  c : W.cell? ⟨bt, 0, none⟩ = some fv
  mx : MaxAt W
  hg : ∀ b, H b → ¬ (G b ∨ F b)
  tg : ¬ (G bt ∨ F bt ∨ H bt)
  ml : ¬ (G 1 ∨ F 1 ∨ H 1)
section
variable {I : List Ev → (Nat → Prop) → World → Prop} {fv : Value} {kb : Ev → Bool} {f : Nat} {caps : Array Value} {G F H : Nat → Prop} {bj bd bt : Nat} {v : Value} {j : Jl} {aq : List Ev} {W W' : World}
theorem Rw.blt (h : Rw I fv G F H bj bd bt v j aq W) : bt < W.heap.size := World.block_lt_of_cell? W ⟨bt, 0, none⟩ h.c
theorem Rw.up (hk : Asker f caps kb I) (h : Rw I fv G F H bj bd bt v j aq W) (hb : Below W.heap.size W W') : Rw I fv G F H bj bd bt v j aq W' :=
  ⟨h.jl.up hb, hk.keep _ _ _ _ h.i hb.size fun b hh => hb.block b (hk.lt _ _ _ h.i b hh), (hb.cell (p := ⟨bt, 0, none⟩) h.blt).trans h.c, h.mx.up hb, h.hg, h.tg, h.ml⟩
theorem MaxAt.kp {F : Nat → Prop} {w w' : World} (h : MaxAt w) (hk : Keep F w w') (hn : ¬ F 1) : MaxAt w' := by
  obtain ⟨m, hm⟩ := h; exact ⟨m, (hk.cell (p := ⟨1, 0, none⟩) (MaxAt.lt ⟨m, hm⟩) hn).trans hm⟩
/-- the closure was asked -/
theorem Rw.asked {H' : Nat → Prop} {aq' : List Ev} (h : Rw I fv G F H bj bd bt v j aq W) (hi : I aq' H' W') (hH : ∀ b, H' b → H b ∨ W.heap.size ≤ b) (hk : Keep H W W') : Rw I fv G F H' bj bd bt v j aq' W' := by
  have hjl : ∀ b, G b ∨ F b → b < W.heap.size := fun b hb => hb.elim (h.jl.dk.lt b) (h.jl.lt b)
  refine ⟨h.jl.keep hk.size fun b hb => hk.block b (hjl b hb) (fun hh => h.hg b hh hb), hi, (hk.cell (p := ⟨bt, 0, none⟩) h.blt (fun hh => h.tg (.inr (.inr hh)))).trans h.c, h.mx.kp hk (fun hh => h.ml (.inr (.inr hh))), fun b hb hg => ?_, fun hb => ?_, fun hb => ?_⟩
  · rcases hH b hb with hh | hh
    · exact h.hg b hh hg
    · have := hjl b hg; omega
  · rcases hb with hb | hb | hb
    · exact h.tg (.inl hb)
    · exact h.tg (.inr (.inl hb))
    · rcases hH _ hb with hh | hh
      · exact h.tg (.inr (.inr hh))
      · have := h.blt; omega
  · rcases hb with hb | hb | hb
    · exact h.ml (.inl hb)
    · exact h.ml (.inr (.inl hb))
    · rcases hH _ hb with hh | hh
      · exact h.ml (.inr (.inr hh))
      · have := h.mx.lt; omega
def GoesPost (I : List Ev → (Nat → Prop) → World → Prop) (fv : Value) (G F H : Nat → Prop) (bj bd bt : Nat) (v : Value) (j : Jl) (aq : List Ev) (W : World) (b : Bool) (r : Ending) (W' : World) : Prop :=
  r = .returned (.bool b) ∧ ∃ H', Rw I fv G F H' bj bd bt v j aq W' ∧ (∀ b, H' b → H b ∨ W.heap.size ≤ b) ∧ Keep H W W'
set_option maxRecDepth 100000 in
set_option maxHeartbeats 2000000 in
theorem goes_any (hk : Asker f caps kb I) (hfv : fv = .func (.func f) #[] caps) (h : Rw I fv G F H bj bd bt v j aq W) (haq : aq.length ≤ 1000) (x : Option Ev) (hx : ∀ e, x = some e → mayB e = true) :
    Calls Tryz.prog 81 #[entAgg x, .pointer (some ⟨bt, 0, none⟩)] W (GoesPost I fv G F H bj bd bt v j (aq ++ x.toList) W (goesB kb x)) := by
  have hb0 : Below W.heap.size W (W.alloc (entObj x)) := (Below.refl _ _).alloc (Nat.le_refl _) _
  have HB0 := Lib.hid hb0
  have h1 := h.up hk hb0
  have H1 := Lib.hid h1
  obtain ⟨f0, f1, f2, f3, f4, f5, f6, f7, f8⟩ := EntIn.new W x
  have ct := h1.c
  rw [hfv] at ct
  have hcall := hk.enter
  have HAS := Lib.hid hk.ask
  have HAQ := Lib.hid haq
  have HX := Lib.hid hx
  have HH := Lib.hid h
  have hagg : ∀ e : Ev, e.agg = .agg #[.string ⟨e.src.toArray⟩, .int .i64 e.num, .int .i64 e.at_, .int .i64 e.kind, .string ⟨e.per.toArray⟩, .string ⟨e.item.toArray⟩, .int .i64 e.val, .string ⟨e.text.toArray⟩] := fun _ => rfl
  have HAG := Lib.hid hagg
  have hsz : W.heap.size ≤ (W.alloc (entObj x)).heap.size := HB0.out.size
  clear h h1 hx hb0 hk hagg haq
  go_enter Tryz.func81, Tryz.ntmps81
  go_upto_region 1 with fail
  generalize W.alloc (entObj x) = w1 at *
  cases x with
  | none =>
    have HR := Lib.hid (show GoesPost I fv G F H bj bd bt v j (aq ++ (none : Option Ev).toList) W (goesB kb none) (.returned (.bool false)) w1 from ⟨rfl, H, by rw [Option.toList_none, List.append_nil]; exact H1.out, fun _ h => .inl h, Keep.of_below HB0.out⟩)
    simp only [Option.isNone_none] at f8
    clear f0 f1 f2 f3 f4 f5 f6 f7
    go_wp2
    go_ret
    exact HR.out
  | some e =>
    simp only [entE, Option.getD_some, Option.isNone_some] at f0 f1 f2 f3 f4 f5 f6 f7 f8
    have HC := Lib.hid (HAS.out w1 aq H e HAQ.out H1.out.i (HX.out e rfl))
    rw [HAG.out] at HC
    have HFIN := Lib.hid (show ∀ W' H', I (aq ++ [e]) H' W' → (∀ b, H' b → H b ∨ w1.heap.size ≤ b) → Keep H w1 W' → GoesPost I fv G F H bj bd bt v j (aq ++ (some e).toList) W (goesB kb (some e)) (.returned (.bool (!kb e))) W' from fun W' H' hi hH hkp => by
      refine ⟨rfl, H', H1.out.asked hi hH hkp, fun b hb => (hH b hb).imp id (fun h => by omega), (Keep.of_below HB0.out).trans hkp (fun _ _ h => h)⟩)
    go_wp2_with fail
    with_reducible refine HC.out.mono ?_
    rintro r w2 ⟨rfl, H', hi, hH, hkp⟩
    have HR := Lib.hid (HFIN.out w2 H' hi hH hkp)
    clear hi hH hkp f0 f1 f2 f3 f4 f5 f6 f7 f8 ct hcall
    generalize kb e = q at *
    go_wp2
    go_ret
    exact HR.out
end
end Go.Proofs.YtejjfhhppjdcaaaGreatDoor
