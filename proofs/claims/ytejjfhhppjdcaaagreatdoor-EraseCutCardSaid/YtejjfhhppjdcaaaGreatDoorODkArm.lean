/-
  Layer 4: Arm, Remove.
-/
import Derived.Test.YtejjfhhppjdcaaaGreatDoorODk9
import Derived.Test.YtejjfhhppjdcaaaGreatDoorODk6
import Derived.Test.YtejjfhhppjdcaaaGreatDoorOCutPl
namespace Go.Proofs.YtejjfhhppjdcaaaGreatDoor
open Go.RowKit Go.Maps Go.Sort

set_option maxRecDepth 100000 in
theorem dkarm_any (w : World) (G : Nat → Prop) (bd : Nat) (d : Dk) (h : DkIn w G bd d) (n : Int) (h0 : 0 ≤ n) (hn : n ≤ 1000) :
    Calls Tryz.prog 34 #[.pointer (some ⟨bd, 0, none⟩), .int .i64 n] w (fun e w' => e = .returned (.tuple #[]) ∧ DkD w G bd (d.arm n) w') := by
  obtain ⟨ho, bm, B, V, h⟩ := h
  obtain ⟨c0, c1, c2, c3, c4⟩ := h.cells
  have f2 := h.frozen 2
  have f3 := h.frozen 3
  have HR := Lib.hid (show DkD w G bd (d.arm n) ((w.setCell ⟨bd, 2, none⟩ (.bool true)).setCell ⟨bd, 3, none⟩ (.int .i64 n)) from by
    refine ⟨G, ⟨ho.arm hn, bm, B, V, ?_⟩, fun b hb => .inl hb, ((Keep.refl G w).setCell (p := ⟨bd, 2, none⟩) (fun _ => h.gd) _).setCell (p := ⟨bd, 3, none⟩) (fun _ => h.gd) _⟩
    refine h.head _ rfl ?_ (by simp [World.setCell]) (fun b hb => by rw [Below.heap_setCell _ _ _ _ hb, Below.heap_setCell _ _ _ _ hb])
    have e1 : (w.setCell ⟨bd, 2, none⟩ (.bool true)).heap[bd]? = some (dkObj bm { d with lit := true }) := by rw [heap_set_row h.blk]; rfl
    rw [heap_set_row e1]
    have e2 : d.arm n = { d with lit := true, fuse := n } := by
      unfold Dk.arm
      rw [show decide (0 ≤ n) = true by simp [h0], show max n 0 = n by omega]
    rw [e2]; rfl)
  have hmx : max n 0 = n := by omega
  clear h ho c0 c1 c4
  go_enter Tryz.func34, Tryz.ntmps34
  go_wp2
  go_end0
  exact ⟨rfl, HR.out⟩
/-- a file is taken away -/
def Dk.cut (d : Dk) (s : List UInt8) : Dk := { d with files := delB s d.files, used := d.used - (d.file s).data.length }
theorem total_del {m : Row Fl} (h : RowUp m) (s : List UInt8) : total (delB s m) = total m - ((getB m s).getD Fl.none).data.length := by
  have := total_filter h s
  unfold delB; omega
theorem Dk.Ok.cut {d : Dk} (h : d.Ok) (s : List UInt8) : (d.cut s).Ok := by
  have h1 := h.used0
  have h2 := h.max
  refine ⟨h.up.del s, ?_, ?_, h.fuse0, h.fuse1, ?_, fun p hp => h.las p (delB_mem.1 hp).1⟩
  · show d.used - _ = total (delB s d.files)
    rw [total_del h.up, ← h.used]; rfl
  · show d.used - ((d.file s).data.length : Int) ≤ 4194304
    omega
  · exact Nat.le_trans (List.length_filter_le _ _) h.num
theorem getB_del {m : Row Fl} (s x : List UInt8) : getB (delB s m) x = if x = s then none else getB m x := by
  by_cases e : x = s
  · subst e
    rw [if_pos rfl]
    cases hg : getB (delB x m) x with
    | none => rfl
    | some f => exact absurd rfl (delB_mem.1 (getB_mem hg)).2
  · rw [if_neg e]; exact getB_filter e
set_option maxRecDepth 100000 in
set_option maxHeartbeats 2000000 in
theorem dkrem_any (w : World) (G : Nat → Prop) (bd : Nat) (d : Dk) (h : DkIn w G bd d) (hl : d.lit = false) (s : List UInt8) (hs : s.length ≤ 1000000) (h0 : d.found s = 0) :
    Calls Tryz.prog 29 #[.pointer (some ⟨bd, 0, none⟩), .string ⟨s.toArray⟩] w (DkPost w G bd (d.cut s) 0) := by
  have HI := Lib.hid h
  obtain ⟨ho, bm, B, V, h⟩ := h
  have HH := Lib.hid h; have HO := Lib.hid ho
  have hcf := dkfound_any w G bd bm d B V h s hs
  have hfu := And.intro ho.fuse0 ho.fuse1
  rw [if_pos h0, h0] at hcf
  have HCF := Lib.hid hcf
  have hfz := Dk.found_zero h0
  obtain ⟨f, hf⟩ := Option.isSome_iff_exists.1 hfz.2
  have hff : d.file s = f := by unfold Dk.file; rw [hf]; rfl
  have HF := Lib.hid hf
  have hdl : f.data.length ≤ 4194304 := by have := HO.out.file_len s; have := HO.out.max; rw [hff] at *; omega
  have hst := dkstep_any w G bd bm d B V HH.out hfu
  unfold StepPost at hst
  rw [(Dk.step_dark hl).1, (Dk.step_dark hl).2] at hst
  have HST := Lib.hid hst
  have HOD := Lib.hid (show (d.cut s).Ok from ho.cut s)
  have HDC := Lib.hid (show d.cut s = { d with files := delB s d.files, used := d.used - f.data.length } from by unfold Dk.cut; rw [hff])
  have hum := ho.max
  have hu0 := ho.used0
  have hsl : s.length ≤ maxLen := by unfold maxLen; omega
  clear h ho hcf hf h0 hfz hff hst hl hfu
  go_enter Tryz.func29, Tryz.ntmps29
  go_wp2_with fail
  refine HCF.out.mono ?_
  rintro e w0 ⟨rfl, rfl⟩
  go_wp2_with fail
  refine HST.out.mono ?_
  rintro e w1 ⟨rfl, hd1, hk1, hs1⟩
  have HD1 := Lib.hid hd1; have HK1 := Lib.hid hk1
  obtain ⟨x0, x1, x2⟩ := hd1.filecells HF.out
  obtain ⟨c0, c1, c2, c3, c4⟩ := hd1.cells
  have f1 := hd1.frozen 1
  have HOW := Lib.hid (HD1.out.own _ (getB_mem HF.out))
  obtain ⟨A1, cv, e1⟩ := HOW.out.form
  replace e1 : V s = .slice A1 f.data.length cv := e1
  rw [e1] at x0
  have HS1 := Lib.hid hs1
  clear hd1 hk1 hs1 x1 x2 c2 c3 c4 HST
  go_upto_region 6 with fail
  obtain ⟨m, hm⟩ : ∃ m : Nat, m = f.data.length := ⟨_, rfl⟩
  rw [← hm] at x0 hdl
  have HM := Lib.hid hm
  clear hm
  have HFIN := Lib.hid (show ∀ w3, MapS w3 bm (delB s (d.files.map fun p => (p.1, .pointer (some ⟨B p.1, 0, none⟩)))) → ∀ z, World.grownBy ((w1.drewN z).setCell ⟨bd, 1, none⟩ (.int .i64 (d.used - m))) w3 (some bm) → DkPost w G bd (d.cut s) 0 (.returned (.int .i64 0)) w3 from fun w3 hm3 z hg => by
    have hne := HD1.out.nm
    have hbd : bd < w1.heap.size := HD1.out.lt _ HD1.out.gd
    have hk3 : ∀ b, b < w1.heap.size → b ≠ bd → b ≠ bm → w3.heap[b]? = w1.heap[b]? := fun b hb h1 h2 => (hg.block b (by show b < ((w1.drewN z).setCell _ _).heap.size; simpa [World.setCell] using hb) (fun e => h2 (Option.some.inj e))).trans (Below.heap_setCell _ _ _ _ h1)
    have hsz3 : w1.heap.size ≤ w3.heap.size := by have := hg.size; simpa [World.setCell] using this
    have hbl : w3.heap[bd]? = some (dkObj bm (d.cut s)) := by
      rw [hg.block bd (by show bd < ((w1.drewN z).setCell _ _).heap.size; simpa [World.setCell] using hbd) (fun e => hne (Option.some.inj e))]
      have : ((w1.drewN z).setCell ⟨bd, 1, none⟩ (.int .i64 (d.used - m))).heap[bd]? = _ := heap_set_row (show (w1.drewN z).heap[bd]? = some (dkObj bm d) from HD1.out.blk) 
      rw [this, HDC.out, HM.out]; rfl
    refine ⟨rfl, G, ⟨HOD.out, bm, B, V, ?_⟩, fun b hb => .inl hb, ?_⟩
    · exact HD1.out.del s (d.cut s) rfl hbl hm3 hsz3 (fun b hb h1 h2 _ => hk3 b (HD1.out.lt b hb) h1 h2) (by rw [HF.out]; rfl)
    · exact (HK1.out.mono (fun b _ e => e ▸ HH.out.gd)).trans ((((Keep.refl G w1).drewN z).setCell (p := ⟨bd, 1, none⟩) (fun _ => HH.out.gd) _).trans (Keep.of_grown (F := G) hg (fun b e => by injection e with e; subst e; exact HH.out.gm)) (fun _ _ h => h)) (fun _ _ h => h))
  have HMP := Lib.hid HD1.out.map
  have hwr : IntKind.i64.wrap (d.used - m) = d.used - m := IntWalk.i64_in _ (by omega)
  have HWR := Lib.hid hwr
  clear e1 hwr
  go_cut [] (fun wc => ∃ z, wc = (w1.drewN z).setCell ⟨bd, 1, none⟩ (.int .i64 (d.used - m)))
  case first =>
    go_region_law (fail)
    all_goals
      go_wp2
      go_meet
      refine ⟨1, ?_⟩
      rw [HWR.out]; rfl
  case rest =>
    obtain ⟨z, rfl⟩ := hcut
    have c0z : ((w1.drewN z).setCell ⟨bd, 1, none⟩ (.int .i64 (d.used - m))).cell? ⟨bd, 0, none⟩ = some (.map (some bm)) := by
      exact (World.cell?_setCell_other (w1.drewN z) ⟨bd, 1, none⟩ ⟨bd, 0, none⟩ _ (fun q => by injection q; omega)).trans c0
    have HMQ := Lib.hid (show MapS ((w1.drewN z).setCell ⟨bd, 1, none⟩ (.int .i64 (d.used - m))) bm _ from HMP.out.block (Below.heap_setCell _ _ _ _ (Ne.symm HD1.out.nm)))
    have HFZ := Lib.hid (fun w3 hm3 => HFIN.out w3 hm3 z)
    generalize (w1.drewN z).setCell ⟨bd, 1, none⟩ (.int .i64 (d.used - m)) = w2 at *
    clear c0 f1 x0
    go_wp2_with (at_delete; refine wpList_mapS_del rfl (.tmp 34) (.tmp 35) 98 rfl 114 Tryz.underlying98 bm _ rfl HMQ.out s rfl hsl ?_)
    intro w3 hm3 hg3
    have HR := Lib.hid (HFZ.out w3 hm3 hg3)
    clear hm3 hg3
    go_wp2
    go_ret
    exact HR.out
end Go.Proofs.YtejjfhhppjdcaaaGreatDoor
