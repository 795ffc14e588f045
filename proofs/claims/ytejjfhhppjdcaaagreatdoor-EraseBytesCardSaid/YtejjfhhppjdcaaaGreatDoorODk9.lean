/-
  Layer 4: Replace.
  Layer 4, plain: what a crash leaves of a disk.
  Layer 4: a file is taken away.
-/
import Derived.Test.YtejjfhhppjdcaaaGreatDoorODk6
import Derived.Test.YtejjfhhppjdcaaaGreatDoorODkOk
import Derived.Maps.OwnSet
namespace Go.Proofs.YtejjfhhppjdcaaaGreatDoor
open Go.RowKit Go.Maps Go.Sort

theorem Dk.repl_no {d : Dk} {s b : List UInt8} (h : d.asked s ≠ 0) : d.replace s b = d ∧ d.replaceE s b = d.asked s := by unfold Dk.replace Dk.replaceE; rw [if_pos h, if_pos h]; exact ⟨rfl, rfl⟩
theorem Dk.repl_full {d : Dk} {s b : List UInt8} (h : d.asked s = 0) (hf : d.fullB s (b.length - (d.file s).data.length) = true) : d.replace s b = d ∧ d.replaceE s b = 5 := by unfold Dk.replace Dk.replaceE; simp [h, hf]
theorem Dk.repl_yes {d : Dk} {s b : List UInt8} (h : d.asked s = 0) (hf : d.fullB s (b.length - (d.file s).data.length) = false) : d.replace s b = (if d.stepB then { d.step.put s ⟨b, b.length, true⟩ with used := d.used + (b.length - (d.file s).data.length) } else d.step) ∧ d.replaceE s b = if d.stepB then 0 else 8 := by
  unfold Dk.replace Dk.replaceE; simp only [h, hf, ne_eq, not_true_eq_false, if_false, Bool.false_eq_true]; exact ⟨trivial, trivial⟩
set_option maxRecDepth 100000 in
set_option maxHeartbeats 2000000 in
theorem dkrepl_any (w : World) (G : Nat → Prop) (bd : Nat) (d : Dk) (h : DkIn w G bd d) (s : List UInt8) (hs : s.length ≤ 1000000) (A : Option Addr) (n c : Nat) (b : List UInt8) (hb : Byt w w.heap.size A n c b) (hA : ∀ b off, A = some ⟨b, off, none⟩ → ¬ G b) (hn : n ≤ 1000000) :
    Calls Tryz.prog 30 #[.pointer (some ⟨bd, 0, none⟩), .string ⟨s.toArray⟩, .slice A n c] w (DkPost w G bd (d.replace s b) (d.replaceE s b)) := by
  have HI := Lib.hid h
  obtain ⟨ho, bm, B, V, h⟩ := h
  have HH := Lib.hid h; have HO := Lib.hid ho; have HB := Lib.hid hb; have HA := Lib.hid hA
  have hbl : b.length = n := hb.len
  have hu0 := ho.used0
  have hu1 := ho.max
  have c0 := h.cells.1
  have HL := Lib.hid (h.look s hs)
  have hfu := And.intro ho.fuse0 ho.fuse1
  have hfl := ho.file_len s
  clear h ho hb hA
  by_cases h0 : d.asked s = 0
  · have hca := dkasked_any w G bd bm d B V HH.out s
    rw [h0] at hca
    have HCA := Lib.hid hca; clear hca
    obtain ⟨old, hold⟩ : ∃ old : Nat, old = (d.file s).data.length := ⟨_, rfl⟩
    have hcf := dkfull_any w G bd bm d B V HH.out HO.out s hs ((n : Int) - old) (by omega)
    have HZ := Lib.hid h0
    -- the file's length
    have hpre : ∀ (Q : World → Prop), True := fun _ => trivial
    clear hpre h0
    rw [← hold] at hfl
    have HOL := Lib.hid hold
    have hfd : (getB d.files s = none ∧ old = 0) ∨ (∃ f, getB d.files s = some f ∧ f.data.length = old) := by
      cases hg : getB d.files s with
      | none => exact .inl ⟨rfl, by rw [hold]; unfold Dk.file; rw [hg]; rfl⟩
      | some f => exact .inr ⟨f, rfl, by rw [hold]; unfold Dk.file; rw [hg]; rfl⟩
    clear hold
    have hw1 : wrap64 ((n : Int) - old) = (n : Int) - old := by unfold wrap64; omega
    go_enter Tryz.func30, Tryz.ntmps30
    go_wp2_with fail
    refine HCA.out.mono ?_
    rintro e w0 ⟨rfl, rfl⟩
    have hl := HL.out
    rcases hfd with ⟨hg, ho0⟩ | ⟨f, hg, hfo⟩
    case' inl =>
      rw [show ptrOf d B s = .pointer none by unfold ptrOf; rw [hg]; rfl, hg] at hl
      clear hg
      go_wp2_with fail
    case' inr =>
      rw [show ptrOf d B s = .pointer (some ⟨B s, 0, none⟩) by unfold ptrOf; rw [hg]; rfl, hg] at hl
      obtain ⟨x0, x1, x2⟩ := HH.out.filecells hg
      obtain ⟨Av, cv, hv⟩ := (HH.out.own _ (getB_mem hg)).form
      replace hv : V s = .slice Av f.data.length cv := hv
      rw [hv, hfo] at x0
      clear hg x1 x2 hv hfo
      go_wp2_with fail
      clear x0
    case' inl =>
      have hcf' : Calls Tryz.prog 75 #[.pointer (some ⟨bd, 0, none⟩), .string ⟨s.toArray⟩, .int .i64 (n : Int)] w fun e w' => e = .returned (.bool (d.fullB s ((n : Int) - old))) ∧ w = w' := by
        rw [show (Value.int .i64 (n : Int)) = .int .i64 ((n : Int) - old) by rw [ho0]; simp]; exact hcf
      with_reducible refine hcf'.mono ?_
      clear hcf'
    case' inr => with_reducible refine hcf.mono ?_
    all_goals
      clear hcf
      rintro e w0 ⟨rfl, rfl⟩
      have hfE : ∀ q, d.fullB s ((n : Int) - old) = q → d.fullB s (b.length - (d.file s).data.length) = q := fun q h => by rw [hbl, ← HOL.out]; exact h
      have HFE := Lib.hid hfE
      clear hfE hl c0
      cases hf : d.fullB s ((n : Int) - old)
      case true =>
        have hE := Dk.repl_full (b := b) HZ.out (HFE.out _ hf)
        have HR := Lib.hid (show DkPost w G bd (d.replace s b) (d.replaceE s b) (.returned (.int .i64 5)) w from ⟨by rw [hE.2], by rw [hE.1]; exact DkD.refl HI.out⟩)
        clear hE hf
        go_wp2
        go_ret
        exact HR.out
      have HE := Lib.hid (Dk.repl_yes (b := b) HZ.out (HFE.out _ hf))
      have HFN := Lib.hid (Dk.full_no hf)
      clear hf
      go_wp2_with fail
      with_reducible refine (dkstep_any w G bd bm d B V HH.out hfu).mono ?_
      rintro e w1 ⟨rfl, hd1, hk1, hs1⟩
      have HD1 := Lib.hid hd1; have HK1 := Lib.hid hk1; have HS1 := Lib.hid hs1
      clear hd1 hk1 hs1 hfu
      cases hst : d.stepB
      case false =>
        have HR := Lib.hid (show DkPost w G bd (d.replace s b) (d.replaceE s b) (.returned (.int .i64 8)) w1 from by
          have := HE.out
          rw [hst] at this
          rw [this.1, this.2]
          exact ⟨rfl, G, ⟨HO.out.step, bm, B, V, HD1.out⟩, fun _ h => .inl h, HK1.out.mono (fun b _ e => e ▸ HH.out.gd)⟩)
        clear hst
        go_wp2
        go_ret
        exact HR.out
      have HE2 := Lib.hid (show d.replace s b = { d.step.put s ⟨b, b.length, true⟩ with used := d.used + (b.length - (d.file s).data.length) } ∧ d.replaceE s b = 0 from by
        have := HE.out
        rw [hst] at this; exact this)
      clear hst
      go_wp2_with fail
      with_reducible refine (dkfile_any w1 G bd bm d.step B V HD1.out HO.out.step s hs).mono ?_
      rintro e w2 ⟨G2, B2, V2, f2, rfl, hd2, hf2, hff2, hG2, hk2⟩
      have HD2 := Lib.hid hd2; have HF2 := Lib.hid hf2; have HG2 := Lib.hid hG2
      have HK2 := Lib.hid (show Keep G w w2 from (HK1.out.mono (fun b _ e => e ▸ HH.out.gd)).trans hk2 (fun _ _ h => h))
      have HB2 := Lib.hid (HB.out.keepG HA.out HK2.out)
      have hsz2 := HK2.out.size
      have hs12 := hk2.size
      clear hd2 hf2 hff2 hG2 hk2
      go_wp2_with (at_builtin; refine wpList_app8 rfl (.tmp 47) (.tmp 48) rfl w2.heap.size _ [] rfl ?c1 w2.heap.size _ _ _ b rfl ?c2 ?c3 ?c4 ?_)
      case c1 => exact World.ownsRow_lit w2 #[] 0 (Nat.le_refl _) (by simp [maxLen]) rfl
      case c2 => exact HB2.out.alloc (Nat.le_refl _) _
      case c3 => simp; omega
      case c4 => simp
      intro v3 w3 ho3 hg3 hv3
      have hs3 : w2.heap.size + 1 ≤ w3.heap.size := by have := hg3.size; simpa using this
      have hk3 : ∀ k, k < w2.heap.size → w3.heap[k]? = w2.heap[k]? := fun k hk => (hg3.block k (by simp; omega) (by simp [Value.ownBlock]; omega)).trans (heap_alloc_old _ _ hk)
      have hbs : B2 s < w2.heap.size := HD2.out.lt _ (HD2.out.gB _ (getB_mem HF2.out))
      have hbd : bd < w2.heap.size := HD2.out.lt _ HD2.out.gd
      have hne : B2 s ≠ bd ∧ B2 s ≠ bm := HD2.out.nB _ (getB_mem HF2.out)
      have hv3n : ∀ k, v3.ownBlock = some k → w2.heap.size ≤ k := fun k hk => ho3.lt k hk
      have y0 : w3.heap[B2 s]? = some (flObj (V2 s) f2) := (hk3 _ hbs).trans (HD2.out.fl _ (getB_mem HF2.out))
      have y1 : w3.heap[bd]? = some (dkObj bm (d.step.made s)) := (hk3 _ hbd).trans HD2.out.blk
      have z0 : w3.cell? ⟨B2 s, 0, none⟩ = some (V2 s) := (cell_of_row w3 (B2 s) 0 _ _ (0, 0) y0).trans rfl
      have z1 : w3.cell? ⟨B2 s, 1, none⟩ = some (.int .i64 f2.lasts) := (cell_of_row w3 (B2 s) 1 _ _ (0, 0) y0).trans rfl
      have z2 : w3.cell? ⟨B2 s, 2, none⟩ = some (.bool f2.stays) := (cell_of_row w3 (B2 s) 2 _ _ (0, 0) y0).trans rfl
      have z3 : w3.cell? ⟨bd, 1, none⟩ = some (.int .i64 d.used) := by
        have := (cell_of_row w3 bd 1 _ _ (0, 0) y1)
        rw [this]; show some (Value.int .i64 d.step.used) = _; rw [d.step_files.2]
      have zf : ∀ o, w3.frozen? ⟨B2 s, o, none⟩ = false := fun o => frozen_of_row w3 (B2 s) o _ _ y0
      have zd : w3.frozen? ⟨bd, 1, none⟩ = false := frozen_of_row w3 bd 1 _ _ y1
      have zf0 := zf 0
      have zf1 := zf 1
      have zf2 := zf 2
      have HFIN := Lib.hid (show ∀ u : Int, u = d.used + ((n : Int) - old) → DkPost w G bd (d.replace s b) (d.replaceE s b) (.returned (.int .i64 0)) ((((w3.setCell ⟨B2 s, 0, none⟩ v3).setCell ⟨B2 s, 1, none⟩ (.int .i64 n)).setCell ⟨B2 s, 2, none⟩ (.bool true)).setCell ⟨bd, 1, none⟩ (.int .i64 u)) from fun u hu => by
        rw [HE2.out.1, HE2.out.2]
        have hmade : (d.step.made s).files = putB s (d.step.file s) d.step.files := rfl
        generalize hW : (((w3.setCell ⟨B2 s, 0, none⟩ v3).setCell ⟨B2 s, 1, none⟩ (.int .i64 n)).setCell ⟨B2 s, 2, none⟩ (.bool true)).setCell ⟨bd, 1, none⟩ (.int .i64 u) = W
        have kk : ∀ k, k ≠ bd → k ≠ B2 s → W.heap[k]? = w3.heap[k]? := fun k h1 h2 => by
          rw [← hW, Below.heap_setCell _ _ _ _ h1, Below.heap_setCell _ _ _ _ h2, Below.heap_setCell _ _ _ _ h2, Below.heap_setCell _ _ _ _ h2]
        have hWs : W.heap.size = w3.heap.size := by rw [← hW]; simp [World.setCell]
        have y0' : W.heap[B2 s]? = some (flObj v3 ⟨b, b.length, true⟩) := by
          rw [← hW, Below.heap_setCell _ _ _ _ hne.1, heap_set_row (heap_set_row (heap_set_row y0)), hbl]; rfl
        have y1' : W.heap[bd]? = some (dkObj bm { d.step.put s ⟨b, b.length, true⟩ with used := d.used + (b.length - (d.file s).data.length) }) := by
          have y1'' : (((w3.setCell ⟨B2 s, 0, none⟩ v3).setCell ⟨B2 s, 1, none⟩ (.int .i64 n)).setCell ⟨B2 s, 2, none⟩ (.bool true)).heap[bd]? = some (dkObj bm (d.step.made s)) := by
            rw [Below.heap_setCell _ _ _ _ (Ne.symm hne.1), Below.heap_setCell _ _ _ _ (Ne.symm hne.1), Below.heap_setCell _ _ _ _ (Ne.symm hne.1)]; exact y1
          rw [← hW, heap_set_row y1'', hu, hbl, ← HOL.out]; rfl
        have hOk : ({ d.step.put s ⟨b, b.length, true⟩ with used := d.used + (b.length - (d.file s).data.length) } : Dk).Ok := by
          have h1 := HFN.out
          refine HO.out.step.put s ⟨b, b.length, true⟩ _ ?_ (by rw [hbl, ← HOL.out]; exact h1.1) (by rw [d.step_files.1]; exact h1.2) ⟨by simp, by simp⟩
          unfold Dk.file; rw [d.step_files.1, d.step_files.2]; simp; omega
        refine ⟨rfl, _, ⟨hOk, bm, _, _, HD2.out.set (w' := W) s ⟨b, b.length, true⟩ v3 (B2 s) _ ?_ y1' ?_ y0' ?_ ?_ ?_ (.inl ⟨f2, HF2.out, rfl⟩) ?_⟩, ?_, ?_⟩
        · rw [hmade, putB_putB HO.out.step.up]; rfl
        · have e := map_put_here HD2.out.up ⟨b, b.length, true⟩ HF2.out (fun t => (.pointer (some ⟨if t = s then B2 s else B2 t, 0, none⟩)))
          rw [e]
          have e2 : (fun p : List UInt8 × Fl => (p.1, Value.pointer (some ⟨if p.1 = s then B2 s else B2 p.1, 0, none⟩))) = fun p => (p.1, .pointer (some ⟨B2 p.1, 0, none⟩)) := by
            funext p; split
            · next h => rw [h]
            · rfl
          rw [e2]
          exact HD2.out.map.block ((kk bm HD2.out.nm.symm hne.2.symm).trans (hk3 bm (HD2.out.lt _ HD2.out.gm)))
        · exact (ho3.base_le (Nat.zero_le _)).keepB fun k hk => kk k (by have := hv3n k hk; omega) (by have := hv3n k hk; omega)
        · rw [hWs]; omega
        · intro k hk h1 h2 h3
          exact (kk k h1 (h3 f2 HF2.out).1).trans (hk3 k (HD2.out.lt k hk))
        · intro k hk
          have := hv3n k hk
          exact .inr ⟨this, by omega⟩
        · rintro k (hk | rfl | hk)
          · exact (HG2.out k hk).imp id (fun h => by have := HS1.out; omega)
          · exact (HG2.out _ (HD2.out.gB _ (getB_mem HF2.out))).imp id (fun h => by have := HS1.out; have h' : w1.heap.size ≤ B2 s := h; omega)
          · have := hv3n k hk; right; omega
        · have hin : ∀ k, k < w.heap.size → G2 k → G k := fun k hk hg => (HG2.out k hg).elim id (fun h => by have := HS1.out; omega)
          have hk4 : Keep G w w3 := ((HK2.out.alloc _).trans (Keep.of_grown (F := fun k => k = w2.heap.size) hg3 (fun k e => by simp [Value.ownBlock] at e; exact e.symm)) (fun k hk e => by omega))
          rw [← hW]
          exact ((((hk4.setCell (p := ⟨B2 s, 0, none⟩) (fun h => hin _ h (HD2.out.gB _ (getB_mem HF2.out))) _).setCell (p := ⟨B2 s, 1, none⟩) (fun h => hin _ h (HD2.out.gB _ (getB_mem HF2.out))) _).setCell (p := ⟨B2 s, 2, none⟩) (fun h => hin _ h (HD2.out.gB _ (getB_mem HF2.out))) _).setCell (p := ⟨bd, 1, none⟩) (fun h => hin _ h HD2.out.gd) _))
      obtain ⟨A3, c3, e3⟩ := ho3.form
      have hne' : bd ≠ B2 s := Ne.symm hne.1
      clear ho3 hg3 hv3 hk3 hbs hbd hne hv3n y0 y1 zf HB2
      generalize b.length = n3 at e3
      subst e3
      have hw2 : wrap64 (d.used + ((n : Int) - old)) = d.used + ((n : Int) - old) := by unfold wrap64; omega
      have hw3 : wrap64 (d.used + (n : Int)) = d.used + (n : Int) := by unfold wrap64; omega
      go_wp2
      go_ret
      exact HFIN.out _ (by first | rfl | omega)
  · have HCA := Lib.hid (dkasked_any w G bd bm d B V HH.out s)
    have hE := Dk.repl_no (b := b) h0
    have HR := Lib.hid (show DkPost w G bd (d.replace s b) (d.replaceE s b) (.returned (.int .i64 (d.asked s))) w from ⟨by rw [hE.2], by rw [hE.1]; exact DkD.refl HI.out⟩)
    clear hE
    generalize d.asked s = q at *
    go_enter Tryz.func30, Tryz.ntmps30
    go_wp2_with fail
    refine HCA.out.mono ?_
    rintro e w0 ⟨rfl, rfl⟩
    go_wp2
    go_ret
    exact HR.out
end Go.Proofs.YtejjfhhppjdcaaaGreatDoor
namespace Go.Proofs.YtejjfhhppjdcaaaGreatDoor
open Go.RowKit Go.Maps Go.Sort

/-- how many bytes of a file are left -/
def Fl.kept (f : Fl) (k : Int) : Int := f.lasts + min (max k 0) (f.data.length - f.lasts)
def Fl.crash (f : Fl) (k : Int) : Fl := ⟨f.data.take (f.kept k).toNat, f.kept k, true⟩
def Fl.gone (f : Fl) (k : Int) : Bool := !f.stays && f.kept k == 0
def crash1 (p : List UInt8 × Fl) (k : Int) : Row Fl := if p.2.gone k then [] else [(p.1, p.2.crash k)]
def crashR : Row Fl → List Int → Row Fl
  | [], _ => []
  | p :: m, ks => crash1 p (ks.headD 0) ++ crashR m ks.tail
def Dk.crash (d : Dk) (ks : List Int) : Dk := ⟨crashR d.files ks, total (crashR d.files ks), false, 0, false⟩
/-- which number is a file's -/
def kOf : Row Fl → List Int → List UInt8 → Int
  | [], _, _ => 0
  | p :: m, ks, s => if p.1 = s then ks.headD 0 else kOf m ks.tail s
theorem Fl.kept_le {f : Fl} (h : 0 ≤ f.lasts ∧ f.lasts ≤ f.data.length) (k : Int) : f.lasts ≤ f.kept k ∧ f.kept k ≤ f.data.length := by
  unfold Fl.kept; omega
theorem Fl.crash_len {f : Fl} (h : 0 ≤ f.lasts ∧ f.lasts ≤ f.data.length) (k : Int) : ((f.crash k).data.length : Int) = f.kept k := by
  have := f.kept_le h k
  show ((f.data.take (f.kept k).toNat).length : Int) = _
  rw [List.length_take]; omega
theorem crashR_append : ∀ (a b : Row Fl) (ks : List Int), crashR (a ++ b) ks = crashR a ks ++ crashR b (ks.drop a.length)
  | [], b, ks => by simp [crashR]
  | p :: a, b, ks => by
    simp only [List.cons_append, crashR, crashR_append a b ks.tail, List.length_cons, List.append_assoc]
    cases ks <;> simp
theorem crash1_mem {p q : List UInt8 × Fl} {k : Int} (h : q ∈ crash1 p k) : q = (p.1, p.2.crash k) ∧ p.2.gone k = false := by
  unfold crash1 at h
  split at h
  · simp at h
  · next h' => simp at h; exact ⟨h, by simpa using h'⟩
theorem crashR_mem : ∀ {m : Row Fl} {ks : List Int} {p : List UInt8 × Fl}, p ∈ crashR m ks → ∃ q ∈ m, ∃ k, p = (q.1, q.2.crash k)
  | y :: r, ks, p, h => by
    unfold crashR at h
    rcases List.mem_append.1 h with h | h
    · exact ⟨y, by simp, _, (crash1_mem h).1⟩
    · obtain ⟨q, hq, k, e⟩ := crashR_mem h
      exact ⟨q, by simp [hq], k, e⟩
theorem crashR_up : ∀ {m : Row Fl} (ks : List Int), RowUp m → RowUp (crashR m ks)
  | [], _, _ => by simp [crashR, RowUp]
  | y :: r, ks, h => by
    obtain ⟨h1, h2⟩ := List.pairwise_cons.1 h
    unfold crashR
    refine List.pairwise_append.2 ⟨?_, crashR_up _ h2, fun p hp q hq => ?_⟩
    · unfold crash1; split <;> simp
    · obtain ⟨q', hq', k, e⟩ := crashR_mem hq
      rw [(crash1_mem hp).1, e]; exact h1 q' hq'
theorem crashR_len : ∀ (m : Row Fl) (ks : List Int), (crashR m ks).length ≤ m.length
  | [], _ => by simp [crashR]
  | y :: r, ks => by
    unfold crashR
    have := crashR_len r ks.tail
    simp only [List.length_append, List.length_cons]
    have h2 : (crash1 y (ks.headD 0)).length ≤ 1 := by unfold crash1; split <;> simp
    omega
theorem total_append : ∀ a b : Row Fl, total (a ++ b) = total a + total b
  | [], b => by simp [total]
  | p :: a, b => by simp only [List.cons_append, total, total_append a b]; omega
theorem total_crash1 {p : List UInt8 × Fl} (h : 0 ≤ p.2.lasts ∧ p.2.lasts ≤ p.2.data.length) (k : Int) : total (crash1 p k) = p.2.kept k := by
  unfold crash1
  split
  · next h' =>
    unfold Fl.gone at h'
    simp at h'
    simp [total, h'.2]
  · simp only [total]; rw [Fl.crash_len h]; omega
theorem total_crash : ∀ {m : Row Fl} (ks : List Int), (∀ p ∈ m, 0 ≤ p.2.lasts ∧ p.2.lasts ≤ p.2.data.length) → total (crashR m ks) ≤ total m
  | [], _, _ => by simp [crashR]
  | y :: r, ks, h => by
    have ih := total_crash ks.tail (m := r) (fun p hp => h p (by simp [hp]))
    unfold crashR
    rw [total_append, total_crash1 (h y (by simp))]
    have := (y.2.kept_le (h y (by simp)) (ks.headD 0)).2
    show _ ≤ (y.2.data.length : Int) + total r
    omega
theorem Dk.Ok.crash {d : Dk} (h : d.Ok) (ks : List Int) : (d.crash ks).Ok := by
  refine ⟨crashR_up ks h.up, rfl, ?_, Int.le_refl _, by show (0 : Int) ≤ 1000; omega, Nat.le_trans (crashR_len _ _) h.num, fun p hp => ?_⟩
  · have := total_crash ks h.las
    have h2 := h.max
    rw [h.used] at h2
    show total (crashR d.files ks) ≤ 4194304
    omega
  · obtain ⟨q, hq, k, rfl⟩ := crashR_mem hp
    have h1 := h.las q hq
    have h2 := q.2.kept_le h1 k
    have h3 := Fl.crash_len h1 k
    refine ⟨?_, ?_⟩
    · show 0 ≤ q.2.kept k; omega
    · show q.2.kept k ≤ ((q.2.crash k).data.length : Int); omega
theorem getB_cons {α : Type} (p : List UInt8 × α) (m : Row α) (s : List UInt8) : getB (p :: m) s = if p.1 = s then some p.2 else getB m s := by
  unfold getB
  rw [List.find?_cons]
  by_cases e : p.1 = s
  · simp [e]
  · rw [if_neg e, show (p.1 == s) = false by simpa using e]
theorem getB_none_of {α : Type} {m : Row α} {s : List UInt8} (h : ∀ p ∈ m, p.1 ≠ s) : getB m s = none := by
  cases hg : getB m s with
  | none => rfl
  | some f => exact absurd rfl (h _ (getB_mem hg))
theorem getB_crash : ∀ {m : Row Fl} (ks : List Int) (s : List UInt8), RowUp m → getB (crashR m ks) s = (getB m s).bind fun f => if f.gone (kOf m ks s) then none else some (f.crash (kOf m ks s))
  | [], _, _, _ => by simp [crashR, getB]
  | y :: r, ks, s, h => by
    obtain ⟨h1, h2⟩ := List.pairwise_cons.1 h
    have ih := getB_crash ks.tail s h2
    have hne : ∀ q ∈ r, q.1 ≠ y.1 := fun q hq e => by have := h1 q hq; rw [e, bb_irrefl] at this; cases this
    unfold crashR kOf
    rw [getB_cons]
    by_cases e : y.1 = s
    · rw [if_pos e, if_pos e]
      unfold crash1
      by_cases hg : y.2.gone (ks.headD 0) = true
      · rw [if_pos hg]
        simp only [List.nil_append, Option.bind_some, if_pos hg]
        refine getB_none_of fun p hp => ?_
        obtain ⟨q, hq, k, rfl⟩ := crashR_mem hp
        rw [← e]; exact hne q hq
      · rw [if_neg hg]
        simp only [List.cons_append, List.nil_append, Option.bind_some, if_neg hg]
        rw [getB_cons, if_pos e]
    · rw [if_neg e, if_neg e]
      rw [← ih]
      unfold crash1
      split
      · rfl
      · simp only [List.cons_append, List.nil_append]
        rw [getB_cons, if_neg e]
/-- a row of one number, as long as the files are -/
theorem kOf_same (k : Int) : ∀ (m : Row Fl) (n : Nat) (s : List UInt8), m.length ≤ n → (∃ p ∈ m, p.1 = s) → kOf m (List.replicate n k) s = k
  | [], _, _, _, h => by obtain ⟨p, hp, _⟩ := h; simp at hp
  | y :: r, n, s, hn, h => by
    obtain ⟨n', rfl⟩ : ∃ n', n = n' + 1 := ⟨n - 1, by simp at hn; omega⟩
    unfold kOf
    by_cases e : y.1 = s
    · rw [if_pos e]; simp [List.replicate_succ]
    · rw [if_neg e]
      obtain ⟨p, hp, hps⟩ := h
      rcases List.mem_cons.1 hp with rfl | hp
      · exact absurd hps e
      · have := kOf_same k r n' s (by simp at hn; omega) ⟨p, hp, hps⟩
        simpa [List.replicate_succ] using this
/-- files that last whole, and stay, are left as they are -/
theorem crashR_still : ∀ {m : Row Fl} (ks : List Int), (∀ p ∈ m, p.2.lasts = p.2.data.length ∧ p.2.stays = true) → crashR m ks = m
  | [], _, _ => rfl
  | y :: r, ks, h => by
    have ih := crashR_still ks.tail (m := r) (fun p hp => h p (by simp [hp]))
    obtain ⟨h1, h2⟩ := h y (by simp)
    unfold crashR
    rw [ih]
    have hk : y.2.kept (ks.headD 0) = y.2.data.length := by unfold Fl.kept; omega
    unfold crash1 Fl.gone Fl.crash
    rw [hk, h2]
    obtain ⟨n, ⟨dt, l, st⟩⟩ := y
    simp only at h1 h2
    subst h2
    simp [h1]
end Go.Proofs.YtejjfhhppjdcaaaGreatDoor
namespace Go.Proofs.YtejjfhhppjdcaaaGreatDoor
open Go.RowKit Go.Maps Go.Sort

def delB {α : Type} (k : List UInt8) (m : Row α) : Row α := m.filter fun p => !(p.1 == k)
theorem delB_mem {α : Type} {k : List UInt8} {m : Row α} {p : List UInt8 × α} : p ∈ delB k m ↔ p ∈ m ∧ p.1 ≠ k := by
  unfold delB; rw [List.mem_filter]; simp
theorem delB_map {α β : Type} (k : List UInt8) (f : List UInt8 × α → β) (m : Row α) : (delB k m).map (fun p => (p.1, f p)) = delB k (m.map fun p => (p.1, f p)) := by
  unfold delB; rw [List.filter_map]; rfl
theorem mapD_del (m : Row Value) (k : List UInt8) : (mapD m).del (.string k) = mapD (delB k m) := by
  unfold mapD DataW.del delB
  simp only
  rw [List.filter_map]
  rfl
theorem wpList_mapS_del {ops : Array Oper} {rest : List Oper} {o : Oper} {a : Act} {Q : Exit → Act → World → Prop} {w : World} (hg : o.guard = none) (m x : Operand) (t : TypeId) (hop : o.op = Op.call { callee := Callee.builtin Builtin.delete, args := #[m, x], argTypes := #[t, 9] })
    (e : TypeId) (ht : Tryz.prog.underlying t = some (.map 9 e)) (b : Nat) (M : Row Value) (hm : a.eval m = .map (some b)) (hown : MapS w b M) (k : List UInt8) (hx : a.eval x = .string ⟨k.toArray⟩) (hk : k.length ≤ maxLen)
    (h : ∀ w', MapS w' b (delB k M) → w.grownBy w' (some b) → wpList Tryz.prog ops Q rest (a.put o.dst (.tuple #[])) w') : wpList Tryz.prog ops Q (o :: rest) a w := by
  refine wpList_delete_own w hg m x t 9 hop e keyS ht raw b M.length (mapD M) hm hown _ (.string k) hx (key_str k hk) fun w' h1 h2 => ?_
  rw [mapD_del] at h1
  exact h w' (MapS.of h1) h2.grown
section
variable {w w' : World} {G : Nat → Prop} {bd bm : Nat} {d : Dk} {B : List UInt8 → Nat} {V : List UInt8 → Value}
theorem RowUp.del {α : Type} {m : Row α} (h : RowUp m) (k : List UInt8) : RowUp (delB k m) := h.filter _
theorem DkAt.del (h : DkAt w G bd bm d B V) (s : List UInt8) (d' : Dk) (hd : d'.files = delB s d.files) (hblk : w'.heap[bd]? = some (dkObj bm d'))
    (hmap : MapS w' bm (delB s (d.files.map fun p => (p.1, .pointer (some ⟨B p.1, 0, none⟩))))) (hsz : w.heap.size ≤ w'.heap.size)
    (hk : ∀ b, G b → b ≠ bd → b ≠ bm → b ≠ B s → w'.heap[b]? = w.heap[b]?) (hs : (getB d.files s).isSome = true) : DkAt w' G bd bm d' B V := by
  obtain ⟨f, hf⟩ := Option.isSome_iff_exists.1 hs
  have hf := getB_mem hf
  have sub : ∀ p, p ∈ d'.files → p ∈ d.files ∧ p.1 ≠ s := fun p hp => delB_mem.1 (hd ▸ hp)
  have kB : ∀ p ∈ d'.files, w'.heap[B p.1]? = w.heap[B p.1]? := fun p hp => hk _ (h.gB p (sub p hp).1) (h.nB p (sub p hp).1).1 (h.nB p (sub p hp).1).2 (h.apB p (sub p hp).1 _ hf (sub p hp).2)
  have kV : ∀ p ∈ d'.files, ∀ b, (V p.1).ownBlock = some b → w'.heap[b]? = w.heap[b]? := fun p hp b hb => by
    have := h.nV p (sub p hp).1 b hb
    exact hk b (h.gV p (sub p hp).1 b hb) this.1 this.2.1 (this.2.2 _ hf)
  refine ⟨hblk, ?_, fun p hp => (kB p hp).trans (h.fl p (sub p hp).1), fun p hp => (h.own p (sub p hp).1).keepB (kV p hp), fun p hp q hq => h.apB p (sub p hp).1 q (sub q hq).1, fun p hp q hq => h.apV p (sub p hp).1 q (sub q hq).1, h.gd, h.gm, fun p hp => h.gB p (sub p hp).1, fun p hp => h.gV p (sub p hp).1, fun b hb => Nat.lt_of_lt_of_le (h.lt b hb) hsz, hd ▸ h.up.del s, h.nm, fun p hp => h.nB p (sub p hp).1, fun p hp b hb => ?_⟩
  · rw [hd, delB_map s (fun p : List UInt8 × Fl => (Value.pointer (some ⟨B p.1, 0, none⟩)))]; exact hmap
  · have := h.nV p (sub p hp).1 b hb
    exact ⟨this.1, this.2.1, fun q hq => this.2.2 q (sub q hq).1⟩
end
/-- a row with one place parted -/
theorem putB_mid {a b : Row Fl} {s : List UInt8} {f f' : Fl} (h : RowUp (a ++ (s, f) :: b)) : putB s f' (a ++ (s, f) :: b) = a ++ (s, f') :: b := by
  have h2 : RowUp (a ++ (s, f') :: b) := by
    obtain ⟨h1, h2, h3⟩ := List.pairwise_append.1 h
    obtain ⟨h4, h5⟩ := List.pairwise_cons.1 h2
    refine List.pairwise_append.2 ⟨h1, List.pairwise_cons.2 ⟨h4, h5⟩, fun p hp q hq => ?_⟩
    rcases List.mem_cons.1 hq with rfl | hq
    · exact h3 p hp (s, f) (by simp)
    · exact h3 p hp q (by simp [hq])
  have hn : ∀ p, p ∈ a ++ b → p.1 ≠ s := fun p hp e => by
    obtain ⟨h1, h2, h3⟩ := List.pairwise_append.1 h
    rcases List.mem_append.1 hp with hp | hp
    · have := h3 p hp (s, f) (by simp)
      simp only at this; rw [e, bb_irrefl] at this; cases this
    · have := (List.pairwise_cons.1 h2).1 p hp
      simp only at this; rw [e, bb_irrefl] at this; cases this
  refine rowUp_same (putB_rising h _ _) h2 fun p => ?_
  rw [putB_mem]
  simp only [List.mem_append, List.mem_cons]
  constructor
  · rintro (rfl | ⟨hp | rfl | hp, hne⟩)
    · exact .inr (.inl rfl)
    · exact .inl hp
    · exact absurd rfl hne
    · exact .inr (.inr hp)
  · rintro (hp | rfl | hp)
    · exact .inr ⟨.inl hp, hn p (by simp [hp])⟩
    · exact .inl rfl
    · exact .inr ⟨.inr (.inr hp), hn p (by simp [hp])⟩
theorem delB_mid {a b : Row Fl} {s : List UInt8} {f : Fl} (h : RowUp (a ++ (s, f) :: b)) : delB s (a ++ (s, f) :: b) = a ++ b := by
  have hn : ∀ p, p ∈ a ++ b → p.1 ≠ s := fun p hp e => by
    obtain ⟨h1, h2, h3⟩ := List.pairwise_append.1 h
    rcases List.mem_append.1 hp with hp | hp
    · have := h3 p hp (s, f) (by simp)
      simp only at this; rw [e, bb_irrefl] at this; cases this
    · have := (List.pairwise_cons.1 h2).1 p hp
      simp only at this; rw [e, bb_irrefl] at this; cases this
  unfold delB
  rw [List.filter_append, List.filter_cons, if_neg (by simp), List.filter_eq_self.2 (fun p hp => by simp [hn p (by simp [hp])]), List.filter_eq_self.2 (fun p hp => by simp [hn p (by simp [hp])])]
theorem getB_mid {a b : Row Fl} {s : List UInt8} {f : Fl} (h : RowUp (a ++ (s, f) :: b)) : getB (a ++ (s, f) :: b) s = some f := getB_of_mem h (by simp)
end Go.Proofs.YtejjfhhppjdcaaaGreatDoor
