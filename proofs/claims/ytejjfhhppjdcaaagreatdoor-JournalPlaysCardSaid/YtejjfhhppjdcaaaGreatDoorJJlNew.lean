/-
  Layer 4: Read, Names, New.
  Layer 5: a journal is opened on a disk without files.
-/
import Derived.Test.YtejjfhhppjdcaaaGreatDoorJDk6
import Derived.Test.YtejjfhhppjdcaaaGreatDoorJKeys
import Derived.Test.YtejjfhhppjdcaaaGreatDoorJJl5
namespace Go.Proofs.YtejjfhhppjdcaaaGreatDoor
open Go.RowKit Go.Maps Go.Sort Go.Shelf

def RdPost (w : World) (l : List UInt8) (er : Int) (e : Ending) (w' : World) : Prop := ∃ v, e = .returned (.tuple #[v, .int .i64 er]) ∧ OwnB w' w.heap.size v l ∧ Below w.heap.size w w'
def Dk.read (d : Dk) (s : List UInt8) : List UInt8 := if d.found s = 0 then (d.file s).data else []
set_option maxRecDepth 100000 in
theorem dkread_any (w : World) (G : Nat → Prop) (bd : Nat) (d : Dk) (h : DkIn w G bd d) (s : List UInt8) (hs : s.length ≤ 1000000) :
    Calls Tryz.prog 24 #[.pointer (some ⟨bd, 0, none⟩), .string ⟨s.toArray⟩] w (RdPost w (d.read s) (d.found s)) := by
  obtain ⟨ho, bm, B, V, h⟩ := h
  have HH := Lib.hid h; have HO := Lib.hid ho
  have hcf := dkfound_any w G bd bm d B V h s hs
  by_cases h0 : d.found s = 0
  · rw [if_pos h0, h0] at hcf
    have HCF := Lib.hid hcf; clear hcf
    have hfz := Dk.found_zero h0
    obtain ⟨f, hf⟩ := Option.isSome_iff_exists.1 hfz.2
    have hff : d.file s = f := by unfold Dk.file; rw [hf]; rfl
    have HE := Lib.hid (show d.read s = f.data by unfold Dk.read; rw [if_pos h0, hff])
    have HZ := Lib.hid h0
    have hdl : f.data.length ≤ 4194304 := by have := ho.file_len s; have := ho.max; rw [hff] at *; omega
    obtain ⟨x0, x1, x2⟩ := h.filecells hf
    have HOW := Lib.hid (h.own _ (getB_mem hf))
    have hbs : B s < w.heap.size := h.lt _ (h.gB _ (getB_mem hf))
    obtain ⟨A1, c1, e1⟩ := HOW.out.form
    replace e1 : V s = .slice A1 f.data.length c1 := e1
    have hby : Byt w w.heap.size A1 f.data.length c1 f.data := OwnB.byt (base := 0) (by have := HOW.out; rw [e1] at this; exact this)
    have HBY := Lib.hid hby
    rw [e1] at x0
    rw [h0]
    clear h ho h0 hfz hf hff x1 x2 e1 hby
    go_enter Tryz.func24, Tryz.ntmps24
    go_wp2_with fail
    refine HCF.out.mono ?_
    rintro e w0 ⟨rfl, rfl⟩
    go_wp2_with (at_builtin; refine wpList_app8 rfl (.tmp 17) (.tmp 21) rfl w.heap.size _ [] rfl ?c1 w.heap.size _ _ _ f.data rfl ?c2 ?c3 ?c4 ?_)
    case c1 => exact World.ownsRow_lit w #[] 0 (Nat.le_refl _) (by simp [maxLen]) rfl
    case c2 => exact HBY.out.alloc (Nat.le_refl _) _
    case c3 => simp; omega
    case c4 => simp
    intro v2 w2 ho2 hg2 _
    have HR := Lib.hid (show RdPost w (d.read s) 0 (.returned (.tuple #[v2, .int .i64 0])) w2 from ⟨v2, rfl, by rw [HE.out]; simpa using ho2, Below.grown ((Below.refl _ _).alloc (Nat.le_refl _) (Obj.cells #[] 5)) hg2 (by simp) (by intro k hk; simp [Value.ownBlock] at hk; omega)⟩)
    clear ho2 hg2
    go_wp2
    go_ret2
    exact HR.out
  · rw [if_neg h0] at hcf
    have HCF := Lib.hid hcf; clear hcf
    have HR := Lib.hid (show RdPost w (d.read s) (d.found s) (.returned (.tuple #[.slice none 0 0, .int .i64 (d.found s)])) w from ⟨_, rfl, by unfold Dk.read; rw [if_neg h0]; exact OwnB.nil _ _, Below.refl _ _⟩)
    clear h ho
    generalize d.found s = q at *
    go_enter Tryz.func24, Tryz.ntmps24
    go_wp2_with fail
    refine HCF.out.mono ?_
    rintro e w0 ⟨rfl, rfl⟩
    go_wp2
    go_ret2
    exact HR.out
set_option maxHeartbeats 2000000 in
theorem dknames_any (w : World) (G : Nat → Prop) (bd : Nat) (d : Dk) (h : DkIn w G bd d) : Calls Tryz.prog 20 #[.pointer (some ⟨bd, 0, none⟩)] w (SrcPost w (d.files.map (·.1))) := by
  obtain ⟨ho, bm, B, V, h⟩ := h
  have hml := ho.num
  have c0 := h.cells.1
  obtain ⟨row, hrw⟩ : ∃ row : Row Value, row = d.files.map fun p => (p.1, .pointer (some ⟨B p.1, 0, none⟩)) := ⟨_, rfl⟩
  have HD := Lib.hid (show w.ownsMap Tryz.prog 9 raw bm row.length (mapD row) by rw [hrw]; exact h.map)
  have hds : Maps.size (mapD row) = d.files.length := by rw [hrw]; simp [mapD, Maps.size]
  have HRW := Lib.hid (show row.map (·.1) = d.files.map (·.1) by rw [hrw]; simp)
  clear hrw
  have HKR := Lib.hid (keys_rising h.up)
  have hnd : (d.files.map (·.1)).Nodup := (List.pairwise_map.2 (h.up.imp fun {a b} h e => by rw [e, bb_irrefl] at h; cases h))
  have HND := Lib.hid hnd
  clear h hnd ho
  refine (callsIn_wide (n := 6)).1 ?_
  have hfK : Fence.wide.fn 70 := trivial
  have hfS : Fence.wide.fn 69 := trivial
  refine callsIn_of_wp Tryz.func20 rfl trivial ?_ rfl
  simp only [Tryz.ntmps20, List.size_toArray, List.length_cons, List.length_nil, Nat.reduceAdd, Nat.reduceSub, Array.replicate_succ, Array.replicate_zero, List.push_toArray, List.append_toArray, List.nil_append, List.cons_append]
  have HDS := Lib.hid hds
  clear hds
  gi_wp2_with fail
  refine (Tryz.maps_Keys_70 _ _).mono ?_
  rintro e w2 ⟨rfl, rfl⟩
  gi_wp2_with fail
  refine (Tryz.slices_Sorted_keys_69_70 bm row.length (mapD row) raw w HD.out (by rw [HDS.out]; unfold maxLen; omega) (by rw [HDS.out]; omega)).mono ?_
  rintro e w3 ⟨v, ss, rfl, hS, hrow, hnil, hb3⟩
  clear c0
  gi_wp2_with fail
  go_ret
  rw [strKeys_mapD] at hS
  rw [HRW.out] at hS
  have hr := rising_sort (hS.nodup_iff.2 HND.out) (fun x => hS.mem_iff)
  have he := rising_unique hr HKR.out
  rw [he] at hrow
  have hl : ss.length = (d.files.map (·.1)).length := hS.length_eq
  rw [hl] at hrow
  refine ⟨v, rfl, ?_, ((Below.refl _ _).alloc (Nat.le_refl _) _).trans (hb3.mono (by simp))⟩
  refine ⟨hrow.1, ?_⟩
  rcases hrow.2 with ⟨e, hl⟩ | ⟨g, cap, cur, e, hb', hg, hrr⟩
  · exact .inl ⟨e, hl⟩
  · exact .inr ⟨g, cap, cur, e, by simp at hb'; omega, hg, hrr⟩
def DkNewPost (w : World) (e : Ending) (w' : World) : Prop := ∃ bd G, e = .returned (.pointer (some ⟨bd, 0, none⟩)) ∧ DkIn w' G bd Dk.new ∧ (∀ b, G b → w.heap.size ≤ b) ∧ Below w.heap.size w w'
theorem dknew_any (w : World) : Calls Tryz.prog 17 #[] w (DkNewPost w) := by
  have hmm := @run_makeMap Tryz.prog
  have HR := Lib.hid (show DkNewPost w (.returned (.pointer (some ⟨w.heap.size + 1, 0, none⟩))) ((w.alloc (.map #[] 0)).alloc (dkObj w.heap.size Dk.new)) by
    have hb : Below w.heap.size w ((w.alloc (.map #[] 0)).alloc (dkObj w.heap.size Dk.new)) := ((Below.refl _ _).alloc (Nat.le_refl _) _).alloc (by simp) _
    refine ⟨w.heap.size + 1, fun b => b = w.heap.size ∨ b = w.heap.size + 1, rfl, ⟨Dk.ok_new, w.heap.size, fun _ => 0, fun _ => .slice none 0 0, ?_⟩, fun b hb => by omega, hb⟩
    have hm : MapS ((w.alloc (.map #[] 0)).alloc (dkObj w.heap.size Dk.new)) w.heap.size [] := (MapS.made w).block (heap_alloc_old _ _ (by simp))
    have hd : ((w.alloc (.map #[] 0)).alloc (dkObj w.heap.size Dk.new)).heap[w.heap.size + 1]? = some (dkObj w.heap.size Dk.new) := by
      have := heap_alloc_new (w.alloc (.map #[] 0)) (dkObj w.heap.size Dk.new)
      simpa using this
    exact ⟨hd, hm, by simp [Dk.new], by simp [Dk.new], by simp [Dk.new], by simp [Dk.new], .inr rfl, .inl rfl, by simp [Dk.new], by simp [Dk.new], fun b hb => by simp; omega, by simp [Dk.new, RowUp], by omega, by simp [Dk.new], by simp [Dk.new]⟩)
  go_enter Tryz.func17, Tryz.ntmps17
  go_wp2
  go_ret
  exact HR.out
end Go.Proofs.YtejjfhhppjdcaaaGreatDoor
namespace Go.Proofs.YtejjfhhppjdcaaaGreatDoor
open Go.RowKit Go.Maps Go.Sort Go.Shelf

set_option maxRecDepth 100000 in
set_option maxHeartbeats 2000000 in
/-- nothing is found on a disk without files -/
theorem jlfind0_any (w : World) (G F : Nat → Prop) (bj bd : Nat) (j : Jl) (h : JlIn w G F bj bd j) (hf : j.dk.files = []) (hfl : j.files = 0) :
    Calls Tryz.prog 63 #[.pointer (some ⟨bj, 0, none⟩)] w fun e w' => e = .returned (.bool true) ∧ JlD w G F bj bd j w' := by
  have hmm := @run_makeMap Tryz.prog
  have HI := Lib.hid h
  have hlt := h.lt
  obtain ⟨ho, v, hj⟩ := h
  obtain ⟨c0, c1, c2, c3, c4, c5, c6⟩ := hj.cells
  have c3f := hj.frozen 3
  have hbj := hj.lt _ hj.fj
  have HDK := Lib.hid hj.dk
  have HJ := Lib.hid hj; have HO := Lib.hid ho
  have hb1 : Below w.heap.size w (w.alloc (.map #[] 0)) := (Below.refl _ _).alloc (Nat.le_refl _) _
  have HB1 := Lib.hid hb1
  have HNM := Lib.hid (show Calls Tryz.prog 20 #[.pointer (some ⟨bd, 0, none⟩)] (w.alloc (.map #[] 0)) (SrcPost (w.alloc (.map #[] 0)) []) from by
    have := dknames_any (w.alloc (.map #[] 0)) G bd j.dk (hj.dk.up hb1)
    rw [hf] at this; exact this)
  clear ho hj c1 c2 c4 c5 c6 hb1 hlt
  go_enter Tryz.func63, Tryz.ntmps63
  go_wp2_with fail
  with_reducible refine HNM.out.mono ?_
  rintro r w2 ⟨vn, rfl, hrow, hb2⟩
  obtain ⟨An, cn, hvn⟩ := ownsRow_form hrow
  have HB2 := Lib.hid (HB1.out.trans (hb2.mono HB1.out.size))
  have hm2 : MapS w2 w.heap.size [] := ((MapS.made w).block (hb2.block _ (by simp)))
  have hlen : ∀ ty, (Builtin.len_ #[134] ty #[.map (some w.heap.size)]).run Tryz.prog w2 = .ok (.int .i64 0) w2 := fun ty => hm2.len 134 _ Tryz.underlying134 ty
  have d3 : w2.cell? ⟨bj, 3, none⟩ = some (.int .i64 j.files) := (HB2.out.cell (p := ⟨bj, 3, none⟩) hbj).trans c3
  have d3f : w2.frozen? ⟨bj, 3, none⟩ = false := (HB2.out.frozen (p := ⟨bj, 3, none⟩) hbj).trans c3f
  subst hvn
  have HR := Lib.hid (show JlD w G F bj bd j (w2.setCell ⟨bj, 3, none⟩ (.int .i64 0)) from by
    have h2 := HJ.out.up HB2.out
    refine ⟨G, F, ⟨HO.out, v, h2.setc rfl rfl ?_⟩, fun _ h => .inl h, fun _ h => .inl h, (Keep.of_below HB2.out).setCell (p := ⟨bj, 3, none⟩) (fun _ => .inr HJ.out.fj) _⟩
    rw [heap_set_row h2.blk, hfl]; simp [jlObj, hfl])
  clear c0 c3 c3f hrow hb2 hm2
  go_wp2
  go_loopw [16] (fun i wr => i = .int .i64 0 ∧ wr = w2) (fun _ _ => 0)
  case atStart => exact ⟨rfl, rfl⟩
  case round =>
    obtain ⟨rfl, rfl⟩ := hrel
    go_wp2
    go_loopw [40] (fun i wz => i = .int .i64 0 ∧ wz = wr) (fun _ _ => 0)
    case atStart => exact ⟨rfl, rfl⟩
    case round =>
      obtain ⟨rfl, rfl⟩ := hrel
      go_wp2
      go_ret
      exact ⟨rfl, HR.out⟩
def OpenPost (w : World) (G : Nat → Prop) (bd : Nat) (j : Jl) (e : Ending) (w' : World) : Prop := ∃ bj G' F, e = .returned (.tuple #[.pointer (some ⟨bj, 0, none⟩), .int .i64 0]) ∧ JlIn w' G' F bj bd j ∧ (∀ b, G' b → G b ∨ w.heap.size ≤ b) ∧ (∀ b, F b → w.heap.size ≤ b) ∧ Keep G w w'
set_option maxRecDepth 100000 in
set_option maxHeartbeats 2000000 in
theorem jlopen0_any (w : World) (G : Nat → Prop) (bd : Nat) (d : Dk) (h : DkIn w G bd d) (hf : d.files = []) (hd : d.down = false) (s : List UInt8) (hs : nameB s = true) (per : Nat) (hp : 1 ≤ per) (hp2 : per ≤ 4096) :
    Calls Tryz.prog 18 #[.pointer (some ⟨bd, 0, none⟩), .string ⟨s.toArray⟩, .int .i64 per] w (OpenPost w G bd (Jl.new d s per)) := by
  have hnl := (nameB_len hs).2
  have HNB := Lib.hid (show Calls Tryz.prog 61 #[.string ⟨s.toArray⟩] w fun e w' => e = .returned (.bool true) ∧ w = w' from by have := name_all w s; rw [hs] at this; exact this)
  have HDN := Lib.hid (show Calls Tryz.prog 62 #[.pointer (some ⟨bd, 0, none⟩)] w fun e w' => e = .returned (.bool false) ∧ w = w' from by
    obtain ⟨_, bm, B, V, h⟩ := h
    have := dkdown_any w G bd bm d B V h; rw [hd] at this; exact this)
  have hlt := h.lt
  have hb1 : Below w.heap.size w (w.alloc (jlObj bd (.slice none 0 0) (Jl.new d s per))) := (Below.refl _ _).alloc (Nat.le_refl _) _
  have HJ1 := Lib.hid (show JlIn (w.alloc (jlObj bd (.slice none 0 0) (Jl.new d s per))) G (· = w.heap.size) w.heap.size bd (Jl.new d s per) from by
    refine ⟨⟨hp, hp2, hnl, by simp [Jl.new], by simp [Jl.new], by simp [Jl.new], by simp [Jl.new]⟩, .slice none 0 0, ⟨h.up hb1, heap_alloc_new w _, World.ownsRow_nil _ _ _ _, rfl, fun b hb => (by cases hb), fun b hb hg => ?_, fun b hb => ?_⟩⟩
    · have := hlt b hg; subst hb; omega
    · subst hb; simp)
  have HB1 := Lib.hid hb1
  have HF := Lib.hid (jlfind0_any _ G (· = w.heap.size) w.heap.size bd (Jl.new d s per) HJ1.out hf rfl)
  have HLT := Lib.hid hlt
  clear hb1 h hs hf hd hlt
  go_enter Tryz.func18, Tryz.ntmps18
  go_wp2_with fail
  refine HNB.out.mono ?_
  rintro r w0 ⟨rfl, rfl⟩
  go_wp2_with fail
  refine HDN.out.mono ?_
  rintro r w0 ⟨rfl, rfl⟩
  go_wp2_with fail
  refine HF.out.mono ?_
  rintro r w2 ⟨rfl, hd2⟩
  obtain ⟨G2, F2, ⟨ho2, v2, hj2⟩, hG2, hF2, hk2⟩ := hd2
  have hs1 := HB1.out.size
  obtain ⟨c0, c1, c2, c3, c4, c5, c6⟩ := hj2.cells
  obtain ⟨A2, cp2, hv2⟩ := ownsRow_form hj2.own
  have c5f := hj2.frozen 5
  have HR := Lib.hid (show OpenPost w G bd (Jl.new d s per) (.returned (.tuple #[.pointer (some ⟨w.heap.size, 0, none⟩), .int .i64 0])) (w2.setCell ⟨w.heap.size, 5, none⟩ (.int .i64 0)) from by
    refine ⟨w.heap.size, G2, F2, rfl, ⟨ho2, v2, hj2.setc rfl rfl ?_⟩, fun b hb => ?_, fun b hb => ?_, ?_⟩
    · rw [heap_set_row hj2.blk]; rfl
    · rcases hG2 b hb with h | h
      · exact .inl h
      · right; omega
    · rcases hF2 b hb with h | h
      · omega
      · omega
    · refine ((Keep.of_below HB1.out).trans hk2 (fun b hb hg => ?_)).setCell (p := ⟨w.heap.size, 5, none⟩) (fun hb => ?_) _
      · rcases hg with h | h
        · exact h
        · omega
      · exact absurd hb (by show ¬ w.heap.size < w.heap.size; omega))
  rw [hv2] at c4
  have hne : (Jl.new d s per).es.length = 0 := rfl
  rw [hne] at c4
  have hnf : (((Jl.new d s per).files : Nat) : Int) = 0 := rfl
  rw [hnf] at c3
  clear hj2 ho2 hG2 hF2 hk2 hv2 c0 c1 c2 c6 hne hnf
  go_wp2
  go_loopw [40] (fun i wz => i = .int .i64 0 ∧ wz = w2) (fun _ _ => 0)
  case atStart => exact ⟨rfl, rfl⟩
  case round =>
    obtain ⟨rfl, rfl⟩ := hrel
    go_wp2
    go_ret2
    exact HR.out
end Go.Proofs.YtejjfhhppjdcaaaGreatDoor
