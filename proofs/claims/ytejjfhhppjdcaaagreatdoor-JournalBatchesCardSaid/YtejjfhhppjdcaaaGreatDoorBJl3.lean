/-
  Layer 5: a journal's fail, sync.
-/
import Derived.Test.YtejjfhhppjdcaaaGreatDoorBJl2
import Derived.Deep.RegionHeld3
namespace Go.Proofs.YtejjfhhppjdcaaaGreatDoor
open Go.RowKit Go.Maps Go.Sort

section
variable {w w' : World} {G F : Nat → Prop} {bj bd : Nat} {v : Value} {j : Jl}
theorem JlAt.ng (h : JlAt w G F bj bd v j) : ¬ G bj := h.ap _ h.fj
/-- the disk did a deed -/
theorem JlAt.disk {d' : Dk} (h : JlAt w G F bj bd v j) (hd : DkD w G bd d' w') : ∃ G', JlAt w' G' F bj bd v { j with dk := d' } ∧ (∀ b, G' b → G b ∨ w.heap.size ≤ b) ∧ Keep G w w' := by
  obtain ⟨G', hi, hG, hk⟩ := hd
  have hlt := h.lt
  refine ⟨G', h.head hi hG ?_ rfl hk.size (fun b hb _ => hk.block b (hlt b hb) (h.ap b hb)), hG, hk⟩
  exact (hk.block bj (hlt _ h.fj) h.ng).trans h.blk
/-- a cell of the journal's own is written -/
theorem JlAt.setc {o : Nat} {u : Value} {j' : Jl} (h : JlAt w G F bj bd v j) (hd : j'.dk = j.dk) (he : j'.es = j.es) (hb : (w.setCell ⟨bj, o, none⟩ u).heap[bj]? = some (jlObj bd v j')) : JlAt (w.setCell ⟨bj, o, none⟩ u) G F bj bd v j' := by
  have hk : ∀ b, b ≠ bj → (w.setCell ⟨bj, o, none⟩ u).heap[b]? = w.heap[b]? := fun b hb => Below.heap_setCell _ _ _ _ hb
  exact h.head (hd ▸ h.dk.keep (by simp [World.setCell]) (fun b hb => hk b (fun e => h.ng (e ▸ hb)))) (fun b hb => .inl hb) hb he (by simp [World.setCell]) (fun b _ hne => hk b hne)
end
def JlPost (w : World) (G F : Nat → Prop) (bj bd : Nat) (j' : Jl) (er : Int) (e : Ending) (w' : World) : Prop := e = .returned (.int .i64 er) ∧ JlD w G F bj bd j' w'
theorem jlfail_any (w : World) (bj : Nat) (u : Value) (hc : w.cell? ⟨bj, 6, none⟩ = some u) (hf : w.frozen? ⟨bj, 6, none⟩ = false) (er : Int) :
    Calls Tryz.prog 105 #[.pointer (some ⟨bj, 0, none⟩), .int .i64 er] w fun e w' => e = .returned (.int .i64 er) ∧ w' = w.setCell ⟨bj, 6, none⟩ (.int .i64 er) := by
  go_enter Tryz.func105, Tryz.ntmps105
  go_wp2
  go_ret
  exact ⟨rfl, rfl⟩
set_option maxRecDepth 100000 in
set_option maxHeartbeats 2000000 in
theorem jlsync_any (w : World) (G F : Nat → Prop) (bj bd : Nat) (j : Jl) (h : JlIn w G F bj bd j) (hn : j.files ≤ 99) :
    Calls Tryz.prog 80 #[.pointer (some ⟨bj, 0, none⟩)] w (JlPost w G F bj bd j.sync j.syncE) := by
  have HI := Lib.hid h
  obtain ⟨ho, v, h⟩ := h
  obtain ⟨c0, c1, c2, c3, c4, c5, c6⟩ := h.cells
  have HH := Lib.hid h; have HO := Lib.hid ho
  have hnm := ho.nm
  clear h ho c2 c4 c5 c6
  by_cases h0 : j.files = 0
  · have HR := Lib.hid (show JlPost w G F bj bd j.sync j.syncE (.returned (.int .i64 0)) w from by
      have e1 : j.sync = j := by unfold Jl.sync; rw [if_pos h0]
      have e2 : j.syncE = 0 := by unfold Jl.syncE; rw [if_pos h0]
      rw [e1, e2]; exact ⟨rfl, JlD.refl HI.out⟩)
    rw [h0] at c3
    go_enter Tryz.func80, Tryz.ntmps80
    go_wp2
    go_ret
    exact HR.out
  · obtain ⟨m, hm⟩ : ∃ m, j.files = m + 1 := ⟨j.files - 1, by omega⟩
    have hlast : j.last = segF j.name m := by unfold Jl.last; rw [hm]; rfl
    have HS := Lib.hid (show j.sync = (if j.dk.syncE (segF j.name m) ≠ 0 then { j with dk := j.dk.sync (segF j.name m), stuck := j.dk.syncE (segF j.name m) } else { j with dk := j.dk.sync (segF j.name m), lasts := j.es.length }) by unfold Jl.sync; rw [if_neg h0, hlast])
    have HE := Lib.hid (show j.syncE = j.dk.syncE (segF j.name m) by unfold Jl.syncE; rw [if_neg h0, hlast])
    have hm2 : m < 100 := by omega
    have hsl := (segF_len j.name hm2).2
    rw [show ((j.files : Nat) : Int) = (m : Int) + 1 by omega] at c3
    clear hlast h0 hn
    have t1 : ((m : Int) + 1 == 0) = false := by simp; omega
    have HDS := Lib.hid (show ∀ q, Calls Tryz.prog 66 #[.pointer (some ⟨bd, 0, none⟩), .string ⟨(segF j.name m).toArray⟩] (w.drewN q) (DkPost (w.drewN q) G bd (j.dk.sync (segF j.name m)) (j.dk.syncE (segF j.name m))) from fun q => dksync_any (w.drewN q) G bd j.dk (HH.out.dk.up (below_drewN (Below.refl _ _) q)) _ (by omega))
    have HJ := Lib.hid (show ∀ q w3, DkD (w.drewN q) G bd (j.dk.sync (segF j.name m)) w3 → ∃ G', JlAt w3 G' F bj bd v { j with dk := j.dk.sync (segF j.name m) } ∧ (∀ b, G' b → G b ∨ w.heap.size ≤ b) ∧ Keep G w w3 from fun q w3 hd => by
      obtain ⟨G', a, b, c⟩ := (HH.out.up (below_drewN (Below.refl _ _) q)).disk hd
      exact ⟨G', a, b, ⟨c.os, c.tape, c.output, c.size, c.block⟩⟩)
    have HSS := Lib.hid (show ∀ q w3, DkD (w.drewN q) G bd (j.dk.sync (segF j.name m)) w3 → w3.cell? ⟨bj, 0, none⟩ = some (.pointer (some ⟨bd, 0, none⟩)) ∧ w3.cell? ⟨bj, 3, none⟩ = some (.int .i64 ((m : Int) + 1)) from fun q w3 hd => by
      obtain ⟨G', a, _, _⟩ := HJ.out q w3 hd
      have hc := a.cells
      have e : ((j.files : Nat) : Int) = (m : Int) + 1 := by omega
      exact ⟨hc.1, by rw [← e]; exact hc.2.2.2.1⟩)
    clear hm
    have HFL := Lib.hid (show ∀ W, W.cell? ⟨bj, 1, none⟩ = some (.string ⟨j.name.toArray⟩) → Calls Tryz.prog 64 #[.pointer (some ⟨bj, 0, none⟩), .int .i64 (IntKind.i64.wrap (m : Int))] W (FilePostJ W (segF j.name m)) from fun W hW => by rw [show IntKind.i64.wrap (m : Int) = (m : Int) by rw [IntKind.wrap_i64]; omega]; exact jlfile_any W bj j.name hW (by omega) m hm2)
    go_enter Tryz.func80, Tryz.ntmps80
    go_wp2
    go_region_held3 (fun W => W.cell? ⟨bj, 0, none⟩ = some (.pointer (some ⟨bd, 0, none⟩)) ∧ W.cell? ⟨bj, 3, none⟩ = some (.int .i64 ((m : Int) + 1))) (first | assumption | go_keep) (first
      | (go_at_call 64; (with_reducible refine (HFL.out _ ?_).mono ?_); (first | assumption | exact c1);  rintro r9 w2 ⟨rfl, q, rfl⟩)
      | (go_at_call 66; (with_reducible refine (HDS.out _).mono ?_); rintro r9 w3 ⟨rfl, hd3⟩; have hS := HSS.out _ _ hd3; have HD3 := Lib.hid hd3; clear hd3))
    obtain ⟨G3, hj3, hG3, hk3⟩ := HJ.out _ _ HD3.out
    have HJ3 := Lib.hid hj3; have HG3 := Lib.hid hG3; have HK3 := Lib.hid hk3
    obtain ⟨d0, d1, d2, d3, d4, d5, d6⟩ := hj3.cells
    have d5f := hj3.frozen 5
    have d6f := hj3.frozen 6
    obtain ⟨A, cp, hv⟩ := ownsRow_form hj3.own
    clear hj3 hG3 hk3 HD3 HDS HFL HJ HSS hS c0 c1 c3 t1
    by_cases hE0 : j.dk.syncE (segF j.name m) = 0
    · have HR := Lib.hid (show JlPost w G F bj bd j.sync j.syncE (.returned (.int .i64 0)) (w3.setCell ⟨bj, 5, none⟩ (.int .i64 j.es.length)) from by
        rw [HS.out, HE.out, hE0, if_neg (by simp)]
        refine ⟨rfl, G3, F, ⟨?_, v, HJ3.out.setc rfl rfl ?_⟩, HG3.out, fun _ h => .inl h, (HK3.out.mono (fun b _ h => .inl h)).setCell (p := ⟨bj, 5, none⟩) (fun _ => .inr HH.out.fj) _⟩
        · exact ⟨HO.out.per1, HO.out.per2, HO.out.nm, HO.out.num, HO.out.fl, Nat.le_refl _, HO.out.may⟩
        · rw [heap_set_row HJ3.out.blk]; rfl)
      rw [hv] at d4
      rw [hE0]
      clear d0 d1 d2 d3 d6 d6f hE0 hv
      go_wp2
      go_ret
      exact HR.out
    · have HR := Lib.hid (show JlPost w G F bj bd j.sync j.syncE (.returned (.int .i64 (j.dk.syncE (segF j.name m)))) (w3.setCell ⟨bj, 6, none⟩ (.int .i64 (j.dk.syncE (segF j.name m)))) from by
        rw [HS.out, HE.out, if_pos hE0]
        refine ⟨rfl, G3, F, ⟨?_, v, HJ3.out.setc rfl rfl ?_⟩, HG3.out, fun _ h => .inl h, (HK3.out.mono (fun b _ h => .inl h)).setCell (p := ⟨bj, 6, none⟩) (fun _ => .inr HH.out.fj) _⟩
        · exact ⟨HO.out.per1, HO.out.per2, HO.out.nm, HO.out.num, HO.out.fl, HO.out.las, HO.out.may⟩
        · rw [heap_set_row HJ3.out.blk]; rfl)
      clear d0 d1 d2 d3 d4 d5 d5f hv
      generalize j.dk.syncE (segF j.name m) = er at *
      go_wp2_with fail
      with_reducible refine (jlfail_any w3 bj _ d6 d6f er).mono ?_
      rintro r w4 ⟨rfl, rfl⟩
      go_wp2
      go_ret
      exact HR.out
end Go.Proofs.YtejjfhhppjdcaaaGreatDoor
