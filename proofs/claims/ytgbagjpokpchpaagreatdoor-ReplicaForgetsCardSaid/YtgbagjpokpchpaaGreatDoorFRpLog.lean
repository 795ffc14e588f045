/-
  Rising rows of texts; the keys of a map, sorted.
  Layer 4: Read, Names, New.
  Layer 5: a journal is opened on a disk without files.
  Layer 33: log: a journal of events.
  Layer 8: Taken.
  Layer 31: an answer of texts that rise.
  Layer 8: Gone, Late, Taken; layer 31: erase.Intake.
-/
import Derived.Test.YtgbagjpokpchpaaGreatDoorFMapS
import Derived.Test.YtgbagjpokpchpaaGreatDoorIter
import Derived.OwnWalkIn
import Derived.CallsIn
import Derived.Test.YtgbagjpokpchpaaGreatDoorFDk6
import Derived.Test.YtgbagjpokpchpaaGreatDoorFJl5
import Derived.Test.YtgbagjpokpchpaaGreatDoorFJlRd
import Derived.Test.YtgbagjpokpchpaaGreatDoorFEvLen
import Derived.Test.YtgbagjpokpchpaaGreatDoorFItkNew
import Derived.Test.YtgbagjpokpchpaaGreatDoorFPplB
namespace Go.Proofs.YtgbagjpokpchpaaGreatDoor
open Go.RowKit Go.Maps Go.Sort Go.Shelf

/-- a rising row of texts that holds just these -/
def Rising (r ks : List (List UInt8)) : Prop := r.Pairwise (· < ·) ∧ ∀ x, x ∈ r ↔ x ∈ ks

theorem lt_irr (x : List UInt8) : ¬ x < x := List.lt_irrefl x
theorem lt_asy {x y : List UInt8} (h : x < y) (h' : y < x) : False := lt_irr x (List.lt_trans h h')

theorem rising_unique {r r' ks : List (List UInt8)} (h : Rising r ks) (h' : Rising r' ks) : r = r' := by
  have key : ∀ (r r' : List (List UInt8)), r.Pairwise (· < ·) → r'.Pairwise (· < ·) → (∀ x, x ∈ r ↔ x ∈ r') → r = r' := by
    intro r
    induction r with
    | nil => intro r' _ _ hm; cases r' with
      | nil => rfl
      | cons a l => exact absurd ((hm a).2 List.mem_cons_self) (by simp)
    | cons a l ih =>
      intro r' h1 h2 hm
      cases r' with
      | nil => exact absurd ((hm a).1 List.mem_cons_self) (by simp)
      | cons b l' =>
        have h1' := List.pairwise_cons.1 h1
        have h2' := List.pairwise_cons.1 h2
        have hab : a = b := by
          rcases List.mem_cons.1 ((hm a).1 List.mem_cons_self) with e | e
          · exact e
          · rcases List.mem_cons.1 ((hm b).2 List.mem_cons_self) with e' | e'
            · exact e'.symm
            · exact (lt_asy (h1'.1 b e') (h2'.1 a e)).elim
        subst hab
        congr 1
        refine ih l' h1'.2 h2'.2 fun x => ⟨fun hx => ?_, fun hx => ?_⟩
        · rcases List.mem_cons.1 ((hm x).1 (List.mem_cons_of_mem _ hx)) with e | e
          · subst e; exact (lt_irr x (h1'.1 x hx)).elim
          · exact e
        · rcases List.mem_cons.1 ((hm x).2 (List.mem_cons_of_mem _ hx)) with e | e
          · subst e; exact (lt_irr x (h2'.1 x hx)).elim
          · exact e
  exact key r r' h.1 h'.1 fun x => (h.2 x).trans (h'.2 x).symm

theorem rising_sort {ss ks : List (List UInt8)} (hnd : ss.Nodup) (hm : ∀ x, x ∈ ss ↔ x ∈ ks) : Rising (ss.mergeSort (fun x y => decide (x ≤ y))) ks := by
  have hp := List.mergeSort_perm ss (fun x y => decide (x ≤ y))
  have hs := List.pairwise_mergeSort (le := fun x y : List UInt8 => decide (x ≤ y)) (fun a b c h1 h2 => by simp at *; exact List.le_trans h1 h2) (fun a b => by simp; exact List.le_total a b) ss
  have hn : (ss.mergeSort (fun x y => decide (x ≤ y))).Nodup := hp.nodup_iff.2 hnd
  refine ⟨?_, fun x => hp.mem_iff.trans (hm x)⟩
  refine List.pairwise_iff_getElem.2 fun i j hi hj hij => ?_
  have h1 := List.pairwise_iff_getElem.1 hs i j hi hj hij
  have h2 := List.pairwise_iff_getElem.1 hn i j hi hj hij
  generalize (ss.mergeSort (fun x y => decide (x ≤ y)))[i] = a at *
  generalize (ss.mergeSort (fun x y => decide (x ≤ y)))[j] = b at *
  have h1' : a ≤ b := by simpa using h1
  rcases Decidable.em (a < b) with h | h
  · exact h
  · exact absurd (List.le_antisymm h1' (by exact List.not_lt.1 h)) h2

theorem strKeys_mapD (r : Row Value) : strKeys (mapD r) = r.map (·.1) := by
  unfold mapD strKeys
  simp [Function.comp_def]
  intro a b _; rfl
theorem bb_lt {a b : List UInt8} (h : bytesBefore a b = true) : a < b := by
  have key : ∀ a b : List UInt8, Op.bytesLess a b = bytesBefore a b := fun a => by
    induction a with
    | nil => intro b; cases b <;> simp [Op.bytesLess, bytesBefore]
    | cons x a ih => intro b; cases b with
      | nil => simp [Op.bytesLess, bytesBefore]
      | cons y b => simp only [Op.bytesLess, bytesBefore, ih b]
  rw [← key, bytesLess_eq] at h
  exact of_decide_eq_true h
theorem keys_rising {α : Type} {m : Row α} (h : RowUp m) : Rising (m.map (·.1)) (m.map (·.1)) := ⟨List.pairwise_map.2 (h.imp fun h => bb_lt h), fun _ => Iff.rfl⟩
def SrcPost (w : World) (ks : List (List UInt8)) (e : Ending) (w' : World) : Prop := ∃ v, e = .returned v ∧ w'.ownsRow w.heap.size 9 1 v ks.length (ks.map encStr) ∧ Below w.heap.size w w'
end Go.Proofs.YtgbagjpokpchpaaGreatDoor
namespace Go.Proofs.YtgbagjpokpchpaaGreatDoor
open Go.RowKit Go.Maps Go.Sort Go.Shelf

def RdPost (w : World) (l : List UInt8) (er : Int) (e : Ending) (w' : World) : Prop := ∃ v, e = .returned (.tuple #[v, .int .i64 er]) ∧ OwnB w' w.heap.size v l ∧ Below w.heap.size w w'
def Dk.read (d : Dk) (s : List UInt8) : List UInt8 := if d.found s = 0 then (d.file s).data else []
set_option maxRecDepth 100000 in
theorem dkread_any (w : World) (G : Nat → Prop) (bd : Nat) (d : Dk) (h : DkIn w G bd d) (s : List UInt8) (hs : s.length ≤ 1000000) :
    Calls Tryz.prog 55 #[.pointer (some ⟨bd, 0, none⟩), .string ⟨s.toArray⟩] w (RdPost w (d.read s) (d.found s)) := by
  obtain ⟨ho, bm, B, V, h⟩ := h
  have HH := Lib.hid h; have HO := Lib.hid ho
  have hcf := dkfound_any w G bd bm d B V h s hs
  by_cases h0 : d.found s = 0
  · rw [if_pos h0, h0] at hcf
    have HCF := Lib.hid hcf; clear hcf
    have hfz := Dk.found_zero h0
    obtain ⟨f, hf⟩ := Option.isSome_iff_exists.1 hfz.2
    have hff : d.file s = f := by unfold Dk.file; rw [hf]; rfl
    have HE := Lib.hid (show d.read s = f.data by unfold Dk.read; rw [if_pos h0, hff])
    have HZ := Lib.hid h0
    have hdl : f.data.length ≤ 4194304 := by have := ho.file_len s; have := ho.max; rw [hff] at *; omega
    obtain ⟨x0, x1, x2⟩ := h.filecells hf
    have HOW := Lib.hid (h.own _ (getB_mem hf))
    have hbs : B s < w.heap.size := h.lt _ (h.gB _ (getB_mem hf))
    obtain ⟨A1, c1, e1⟩ := HOW.out.form
    replace e1 : V s = .slice A1 f.data.length c1 := e1
    have hby : Byt w w.heap.size A1 f.data.length c1 f.data := OwnB.byt (base := 0) (by have := HOW.out; rw [e1] at this; exact this)
    have HBY := Lib.hid hby
    rw [e1] at x0
    rw [h0]
    clear h ho h0 hfz hf hff x1 x2 e1 hby
    go_enter Tryz.func55, Tryz.ntmps55
    go_wp2_with fail
    refine HCF.out.mono ?_
    rintro e w0 ⟨rfl, rfl⟩
    go_wp2_with (at_builtin; refine wpList_app8 rfl (.tmp 17) (.tmp 21) rfl w.heap.size _ [] rfl ?c1 w.heap.size _ _ _ f.data rfl ?c2 ?c3 ?c4 ?_)
    case c1 => exact World.ownsRow_lit w #[] 0 (Nat.le_refl _) (by simp [maxLen]) rfl
    case c2 => exact HBY.out.alloc (Nat.le_refl _) _
    case c3 => simp; omega
    case c4 => simp
    intro v2 w2 ho2 hg2 _
    have HR := Lib.hid (show RdPost w (d.read s) 0 (.returned (.tuple #[v2, .int .i64 0])) w2 from ⟨v2, rfl, by rw [HE.out]; simpa using ho2, Below.grown ((Below.refl _ _).alloc (Nat.le_refl _) (Obj.cells #[] 5)) hg2 (by simp) (by intro k hk; simp [Value.ownBlock] at hk; omega)⟩)
    clear ho2 hg2
    go_wp2
    go_ret2
    exact HR.out
  · rw [if_neg h0] at hcf
    have HCF := Lib.hid hcf; clear hcf
    have HR := Lib.hid (show RdPost w (d.read s) (d.found s) (.returned (.tuple #[.slice none 0 0, .int .i64 (d.found s)])) w from ⟨_, rfl, by unfold Dk.read; rw [if_neg h0]; exact OwnB.nil _ _, Below.refl _ _⟩)
    clear h ho
    generalize d.found s = q at *
    go_enter Tryz.func55, Tryz.ntmps55
    go_wp2_with fail
    refine HCF.out.mono ?_
    rintro e w0 ⟨rfl, rfl⟩
    go_wp2
    go_ret2
    exact HR.out
set_option maxHeartbeats 2000000 in
theorem dknames_any (w : World) (G : Nat → Prop) (bd : Nat) (d : Dk) (h : DkIn w G bd d) : Calls Tryz.prog 93 #[.pointer (some ⟨bd, 0, none⟩)] w (SrcPost w (d.files.map (·.1))) := by
  obtain ⟨ho, bm, B, V, h⟩ := h
  have hml := ho.num
  have c0 := h.cells.1
  obtain ⟨row, hrw⟩ : ∃ row : Row Value, row = d.files.map fun p => (p.1, .pointer (some ⟨B p.1, 0, none⟩)) := ⟨_, rfl⟩
  have HD := Lib.hid (show w.ownsMap Tryz.prog 9 raw bm row.length (mapD row) by rw [hrw]; exact h.map)
  have hds : Maps.size (mapD row) = d.files.length := by rw [hrw]; simp [mapD, Maps.size]
  have HRW := Lib.hid (show row.map (·.1) = d.files.map (·.1) by rw [hrw]; simp)
  clear hrw
  have HKR := Lib.hid (keys_rising h.up)
  have hnd : (d.files.map (·.1)).Nodup := (List.pairwise_map.2 (h.up.imp fun {a b} h e => by rw [e, bb_irrefl] at h; cases h))
  have HND := Lib.hid hnd
  clear h hnd ho
  refine (callsIn_wide (n := 6)).1 ?_
  have hfK : Fence.wide.fn 139 := trivial
  have hfS : Fence.wide.fn 33 := trivial
  refine callsIn_of_wp Tryz.func93 rfl trivial ?_ rfl
  simp only [Tryz.ntmps93, List.size_toArray, List.length_cons, List.length_nil, Nat.reduceAdd, Nat.reduceSub, Array.replicate_succ, Array.replicate_zero, List.push_toArray, List.append_toArray, List.nil_append, List.cons_append]
  have HDS := Lib.hid hds
  clear hds
  gi_wp2_with fail
  refine (Tryz.maps_Keys_139 _ _).mono ?_
  rintro e w2 ⟨rfl, rfl⟩
  gi_wp2_with fail
  refine (Tryz.slices_Sorted_keys_33_139 bm row.length (mapD row) raw w HD.out (by rw [HDS.out]; unfold maxLen; omega) (by rw [HDS.out]; omega)).mono ?_
  rintro e w3 ⟨v, ss, rfl, hS, hrow, hnil, hb3⟩
  clear c0
  gi_wp2_with fail
  go_ret
  rw [strKeys_mapD] at hS
  rw [HRW.out] at hS
  have hr := rising_sort (hS.nodup_iff.2 HND.out) (fun x => hS.mem_iff)
  have he := rising_unique hr HKR.out
  rw [he] at hrow
  have hl : ss.length = (d.files.map (·.1)).length := hS.length_eq
  rw [hl] at hrow
  refine ⟨v, rfl, ?_, ((Below.refl _ _).alloc (Nat.le_refl _) _).trans (hb3.mono (by simp))⟩
  refine ⟨hrow.1, ?_⟩
  rcases hrow.2 with ⟨e, hl⟩ | ⟨g, cap, cur, e, hb', hg, hrr⟩
  · exact .inl ⟨e, hl⟩
  · exact .inr ⟨g, cap, cur, e, by simp at hb'; omega, hg, hrr⟩
def DkNewPost (w : World) (e : Ending) (w' : World) : Prop := ∃ bd G, e = .returned (.pointer (some ⟨bd, 0, none⟩)) ∧ DkIn w' G bd Dk.new ∧ (∀ b, G b → w.heap.size ≤ b) ∧ Below w.heap.size w w'
theorem dknew_any (w : World) : Calls Tryz.prog 29 #[] w (DkNewPost w) := by
  have hmm := @run_makeMap Tryz.prog
  have HR := Lib.hid (show DkNewPost w (.returned (.pointer (some ⟨w.heap.size + 1, 0, none⟩))) ((w.alloc (.map #[] 0)).alloc (dkObj w.heap.size Dk.new)) by
    have hb : Below w.heap.size w ((w.alloc (.map #[] 0)).alloc (dkObj w.heap.size Dk.new)) := ((Below.refl _ _).alloc (Nat.le_refl _) _).alloc (by simp) _
    refine ⟨w.heap.size + 1, fun b => b = w.heap.size ∨ b = w.heap.size + 1, rfl, ⟨Dk.ok_new, w.heap.size, fun _ => 0, fun _ => .slice none 0 0, ?_⟩, fun b hb => by omega, hb⟩
    have hm : MapS ((w.alloc (.map #[] 0)).alloc (dkObj w.heap.size Dk.new)) w.heap.size [] := (MapS.made w).block (heap_alloc_old _ _ (by simp))
    have hd : ((w.alloc (.map #[] 0)).alloc (dkObj w.heap.size Dk.new)).heap[w.heap.size + 1]? = some (dkObj w.heap.size Dk.new) := by
      have := heap_alloc_new (w.alloc (.map #[] 0)) (dkObj w.heap.size Dk.new)
      simpa using this
    exact ⟨hd, hm, by simp [Dk.new], by simp [Dk.new], by simp [Dk.new], by simp [Dk.new], .inr rfl, .inl rfl, by simp [Dk.new], by simp [Dk.new], fun b hb => by simp; omega, by simp [Dk.new, RowUp], by omega, by simp [Dk.new], by simp [Dk.new]⟩)
  go_enter Tryz.func29, Tryz.ntmps29
  go_wp2
  go_ret
  exact HR.out
end Go.Proofs.YtgbagjpokpchpaaGreatDoor
namespace Go.Proofs.YtgbagjpokpchpaaGreatDoor
open Go.RowKit Go.Maps Go.Sort Go.Shelf

set_option maxRecDepth 100000 in
set_option maxHeartbeats 2000000 in
/-- nothing is found on a disk without files -/
theorem jlfind0_any (w : World) (G F : Nat → Prop) (bj bd : Nat) (j : Jl) (h : JlIn w G F bj bd j) (hf : j.dk.files = []) (hfl : j.files = 0) :
    Calls Tryz.prog 54 #[.pointer (some ⟨bj, 0, none⟩)] w fun e w' => e = .returned (.bool true) ∧ JlD w G F bj bd j w' := by
  have hmm := @run_makeMap Tryz.prog
  have HI := Lib.hid h
  have hlt := h.lt
  obtain ⟨ho, v, hj⟩ := h
  obtain ⟨c0, c1, c2, c3, c4, c5, c6⟩ := hj.cells
  have c3f := hj.frozen 3
  have hbj := hj.lt _ hj.fj
  have HDK := Lib.hid hj.dk
  have HJ := Lib.hid hj; have HO := Lib.hid ho
  have hb1 : Below w.heap.size w (w.alloc (.map #[] 0)) := (Below.refl _ _).alloc (Nat.le_refl _) _
  have HB1 := Lib.hid hb1
  have HNM := Lib.hid (show Calls Tryz.prog 93 #[.pointer (some ⟨bd, 0, none⟩)] (w.alloc (.map #[] 0)) (SrcPost (w.alloc (.map #[] 0)) []) from by
    have := dknames_any (w.alloc (.map #[] 0)) G bd j.dk (hj.dk.up hb1)
    rw [hf] at this; exact this)
  clear ho hj c1 c2 c4 c5 c6 hb1 hlt
  go_enter Tryz.func54, Tryz.ntmps54
  go_wp2_with fail
  with_reducible refine HNM.out.mono ?_
  rintro r w2 ⟨vn, rfl, hrow, hb2⟩
  obtain ⟨An, cn, hvn⟩ := ownsRow_form hrow
  have HB2 := Lib.hid (HB1.out.trans (hb2.mono HB1.out.size))
  have hm2 : MapS w2 w.heap.size [] := ((MapS.made w).block (hb2.block _ (by simp)))
  have hlen : ∀ ty, (Builtin.len_ #[66] ty #[.map (some w.heap.size)]).run Tryz.prog w2 = .ok (.int .i64 0) w2 := fun ty => hm2.len 66 _ Tryz.underlying66 ty
  have d3 : w2.cell? ⟨bj, 3, none⟩ = some (.int .i64 j.files) := (HB2.out.cell (p := ⟨bj, 3, none⟩) hbj).trans c3
  have d3f : w2.frozen? ⟨bj, 3, none⟩ = false := (HB2.out.frozen (p := ⟨bj, 3, none⟩) hbj).trans c3f
  subst hvn
  have HR := Lib.hid (show JlD w G F bj bd j (w2.setCell ⟨bj, 3, none⟩ (.int .i64 0)) from by
    have h2 := HJ.out.up HB2.out
    refine ⟨G, F, ⟨HO.out, v, h2.setc rfl rfl ?_⟩, fun _ h => .inl h, fun _ h => .inl h, (Keep.of_below HB2.out).setCell (p := ⟨bj, 3, none⟩) (fun _ => .inr HJ.out.fj) _⟩
    rw [heap_set_row h2.blk, hfl]; simp [jlObj, hfl])
  clear c0 c3 c3f hrow hb2 hm2
  go_wp2
  go_loopw [16] (fun i wr => i = .int .i64 0 ∧ wr = w2) (fun _ _ => 0)
  case atStart => exact ⟨rfl, rfl⟩
  case round =>
    obtain ⟨rfl, rfl⟩ := hrel
    go_wp2
    go_loopw [40] (fun i wz => i = .int .i64 0 ∧ wz = wr) (fun _ _ => 0)
    case atStart => exact ⟨rfl, rfl⟩
    case round =>
      obtain ⟨rfl, rfl⟩ := hrel
      go_wp2
      go_ret
      exact ⟨rfl, HR.out⟩
def OpenPost (w : World) (G : Nat → Prop) (bd : Nat) (j : Jl) (e : Ending) (w' : World) : Prop := ∃ bj G' F, e = .returned (.tuple #[.pointer (some ⟨bj, 0, none⟩), .int .i64 0]) ∧ JlIn w' G' F bj bd j ∧ (∀ b, G' b → G b ∨ w.heap.size ≤ b) ∧ (∀ b, F b → w.heap.size ≤ b) ∧ Keep G w w'
set_option maxRecDepth 100000 in
set_option maxHeartbeats 2000000 in
theorem jlopen0_any (w : World) (G : Nat → Prop) (bd : Nat) (d : Dk) (h : DkIn w G bd d) (hf : d.files = []) (hd : d.down = false) (s : List UInt8) (hs : nameB s = true) (per : Nat) (hp : 1 ≤ per) (hp2 : per ≤ 4096) :
    Calls Tryz.prog 30 #[.pointer (some ⟨bd, 0, none⟩), .string ⟨s.toArray⟩, .int .i64 per] w (OpenPost w G bd (Jl.new d s per)) := by
  have hnl := (nameB_len hs).2
  have HNB := Lib.hid (show Calls Tryz.prog 52 #[.string ⟨s.toArray⟩] w fun e w' => e = .returned (.bool true) ∧ w = w' from by have := name_all w s; rw [hs] at this; exact this)
  have HDN := Lib.hid (show Calls Tryz.prog 53 #[.pointer (some ⟨bd, 0, none⟩)] w fun e w' => e = .returned (.bool false) ∧ w = w' from by
    obtain ⟨_, bm, B, V, h⟩ := h
    have := dkdown_any w G bd bm d B V h; rw [hd] at this; exact this)
  have hlt := h.lt
  have hb1 : Below w.heap.size w (w.alloc (jlObj bd (.slice none 0 0) (Jl.new d s per))) := (Below.refl _ _).alloc (Nat.le_refl _) _
  have HJ1 := Lib.hid (show JlIn (w.alloc (jlObj bd (.slice none 0 0) (Jl.new d s per))) G (· = w.heap.size) w.heap.size bd (Jl.new d s per) from by
    refine ⟨⟨hp, hp2, hnl, by simp [Jl.new], by simp [Jl.new], by simp [Jl.new], by simp [Jl.new]⟩, .slice none 0 0, ⟨h.up hb1, heap_alloc_new w _, World.ownsRow_nil _ _ _ _, rfl, fun b hb => (by cases hb), fun b hb hg => ?_, fun b hb => ?_⟩⟩
    · have := hlt b hg; subst hb; omega
    · subst hb; simp)
  have HB1 := Lib.hid hb1
  have HF := Lib.hid (jlfind0_any _ G (· = w.heap.size) w.heap.size bd (Jl.new d s per) HJ1.out hf rfl)
  have HLT := Lib.hid hlt
  clear hb1 h hs hf hd hlt
  go_enter Tryz.func30, Tryz.ntmps30
  go_wp2_with fail
  refine HNB.out.mono ?_
  rintro r w0 ⟨rfl, rfl⟩
  go_wp2_with fail
  refine HDN.out.mono ?_
  rintro r w0 ⟨rfl, rfl⟩
  go_wp2_with fail
  refine HF.out.mono ?_
  rintro r w2 ⟨rfl, hd2⟩
  obtain ⟨G2, F2, ⟨ho2, v2, hj2⟩, hG2, hF2, hk2⟩ := hd2
  have hs1 := HB1.out.size
  obtain ⟨c0, c1, c2, c3, c4, c5, c6⟩ := hj2.cells
  obtain ⟨A2, cp2, hv2⟩ := ownsRow_form hj2.own
  have c5f := hj2.frozen 5
  have HR := Lib.hid (show OpenPost w G bd (Jl.new d s per) (.returned (.tuple #[.pointer (some ⟨w.heap.size, 0, none⟩), .int .i64 0])) (w2.setCell ⟨w.heap.size, 5, none⟩ (.int .i64 0)) from by
    refine ⟨w.heap.size, G2, F2, rfl, ⟨ho2, v2, hj2.setc rfl rfl ?_⟩, fun b hb => ?_, fun b hb => ?_, ?_⟩
    · rw [heap_set_row hj2.blk]; rfl
    · rcases hG2 b hb with h | h
      · exact .inl h
      · right; omega
    · rcases hF2 b hb with h | h
      · omega
      · omega
    · refine ((Keep.of_below HB1.out).trans hk2 (fun b hb hg => ?_)).setCell (p := ⟨w.heap.size, 5, none⟩) (fun hb => ?_) _
      · rcases hg with h | h
        · exact h
        · omega
      · exact absurd hb (by show ¬ w.heap.size < w.heap.size; omega))
  rw [hv2] at c4
  have hne : (Jl.new d s per).es.length = 0 := rfl
  rw [hne] at c4
  have hnf : (((Jl.new d s per).files : Nat) : Int) = 0 := rfl
  rw [hnf] at c3
  clear hj2 ho2 hG2 hF2 hk2 hv2 c0 c1 c2 c6 hne hnf
  go_wp2
  go_loopw [40] (fun i wz => i = .int .i64 0 ∧ wz = w2) (fun _ _ => 0)
  case atStart => exact ⟨rfl, rfl⟩
  case round =>
    obtain ⟨rfl, rfl⟩ := hrel
    go_wp2
    go_ret2
    exact HR.out
end Go.Proofs.YtgbagjpokpchpaaGreatDoor
namespace Go.Proofs.YtgbagjpokpchpaaGreatDoor
open Go.RowKit Go.Maps Go.Sort Go.Shelf

theorem mayB_small33 {e : Ev} (h : mayB e = true) : e.small := by
  have := mayB_fit h
  exact ⟨by have := this.src; omega, by have := this.per; omega, by have := this.item; omega, by have := this.text; omega⟩
def LogPost33 (w : World) (ds : List Ev) (e : Ending) (w' : World) : Prop :=
  ∃ (bd bj : Nat) (G F : Nat → Prop) (j : Jl), e = .returned (.pointer (some ⟨bj, 0, none⟩)) ∧ JlIn w' G F bj bd j ∧ (∀ b, G b ∨ F b → w.heap.size ≤ b) ∧ RowKit.Below w.heap.size w w' ∧ j.es = ds.map some
set_option maxRecDepth 100000 in
set_option maxHeartbeats 4000000 in
theorem rplog_any (w : World) (A : Option Addr) (n c : Nat) (ds : List Ev) (h : Evs w w.heap.size A n c ds) (hn : n ≤ 40) (hal : ds.all mayB = true) (per : Nat) (hp : 1 ≤ per) (hp2 : per ≤ 4096) (hmx : MaxAt w) :
    Calls Tryz.prog 10 #[.int .i64 per, .slice A n c] w (LogPost33 w ds) := by
  have HH := Lib.hid h
  have HMX := Lib.hid hmx
  have hml := hmx.lt
  have HL := Lib.hid h.len
  have HAL := Lib.hid hal
  have HSM := Lib.hid (show ∀ e ∈ ds, e.small from fun e he => mayB_small33 (List.all_eq_true.1 hal e he))
  have HEV := Lib.hid (show ∀ W, RowKit.Below w.heap.size w W → Evs W W.heap.size A n c ds from fun W hW => Cel.more (Cel.below h hW) hW.size)
  clear h hmx hal
  go_enter Tryz.func10, Tryz.ntmps10
  go_wp2_with fail
  refine (dknew_any w).mono ?_
  rintro r w4 ⟨bd, G4, rfl, hd4, hG4, hb4⟩
  have HD4 := Lib.hid hd4; have HG4 := Lib.hid hG4
  have HB4 := Lib.hid hb4
  have hs4 := hb4.size
  clear hd4 hG4 hb4
  go_wp2_with fail
  refine (jlopen0_any w4 G4 bd Dk.new HD4.out rfl rfl [106] (by decide) per hp hp2).mono ?_
  rintro r w5 ⟨bj, G5, F5, rfl, hj5, hG5, hF5, hk5⟩
  have HJ5 := Lib.hid hj5
  have HLO5 := Lib.hid (show ∀ b, G5 b ∨ F5 b → w.heap.size ≤ b from fun b hb => by
    rcases hb with hb | hb
    · rcases hG5 b hb with h | h
      · exact HG4.out b h
      · omega
    · have := hF5 b hb; omega)
  have HB5 := Lib.hid (show RowKit.Below w.heap.size w w5 from HB4.out.trans (hk5.below hs4 (fun k hk hg => by have := HG4.out k hg; omega)))
  have hs5 := HB5.out.size
  obtain ⟨j0, hj0⟩ : ∃ j0, j0 = Jl.new Dk.new [106] per := ⟨_, rfl⟩
  rw [← hj0] at HJ5
  have hf0 : j0.Fine := by rw [hj0]; exact Jl.fine_new [106] per (by simp) hp
  have he0 : j0.es = [] := by rw [hj0]; rfl
  have hps : (j0.puts ds).Fine ∧ j0.putsE ds = 0 ∧ (j0.puts ds).es = j0.es ++ ds.map some ∧ (j0.puts ds).name = j0.name ∧ (j0.puts ds).per = j0.per := Jl.Fine.puts ds hf0 (by rw [he0, HL.out]; simp; omega) (fun e he => (mayB_fit (List.all_eq_true.1 HAL.out e he)).len)
  have HAP := Lib.hid (show j0.appN ds = 0 ∧ j0.appE ds = 0 ∧ (j0.app ds).es = ds.map some from by
    unfold Jl.app Jl.appN Jl.appE
    simp only [hf0.free, ne_eq, not_true_eq_false, if_false, HAL.out, if_true]
    exact ⟨by rw [he0]; rfl, hps.2.1, by rw [hps.2.2.1, he0]; rfl⟩)
  have HAPP := Lib.hid (jlapp_any w5 G5 F5 bj bd j0 HJ5.out A n c ds (HEV.out w5 HB5.out) (fun b off e h0 hg => by
    obtain ⟨b', off', e', hb', _⟩ := Cel.cell HH.out h0
    rw [e'] at e; injection e with e; injection e with e
    have := HLO5.out b hg; omega) HSM.out (by rw [he0, HL.out]; simp; omega) (HMX.out.up HB5.out) ⟨fun hg => by have := HLO5.out _ (.inl hg); omega, fun hg => by have := HLO5.out _ (.inr hg); omega⟩)
  rw [HAP.out.1, HAP.out.2.1] at HAPP
  clear hj5 hG5 hF5 hk5 hj0 hf0 he0 hps
  go_wp2_with fail
  refine HAPP.out.mono ?_
  rintro r w6 ⟨rfl, G6, F6, hj6, hG6, hF6, hk6⟩
  have HR := Lib.hid (show LogPost33 w ds (.returned (.pointer (some ⟨bj, 0, none⟩))) w6 from by
    refine ⟨bd, bj, G6, F6, _, rfl, hj6, fun b hb => ?_, HB5.out.trans (hk6.below hs5 (fun k hk hg => by have := HLO5.out k hg; omega)), HAP.out.2.2⟩
    rcases hb with hb | hb
    · rcases hG6 b hb with h | h
      · exact HLO5.out b (.inl h)
      · omega
    · rcases hF6 b hb with h | h
      · exact HLO5.out b (.inr h)
      · omega)
  clear hj6 hG6 hF6 hk6 HAPP
  go_wp2
  go_ret
  exact HR.out
end Go.Proofs.YtgbagjpokpchpaaGreatDoor
namespace Go.Proofs.YtgbagjpokpchpaaGreatDoor
open Go.RowKit Go.Maps Go.Sort

theorem itaken_any (w : World) (F : Nat → Prop) (bi N : Nat) (x : Itk) (h : ItkAt w F bi N x) (hN : N ≤ 100000) : Calls Tryz.prog 13 #[.pointer (some ⟨bi, 0, none⟩)] w (OwnPost w x.taken) := by
  obtain ⟨A, hM, hO, _⟩ := h
  have HM := Lib.hid hM
  have htl := hO.taken
  obtain ⟨B, c, hv, hc⟩ := hM.taken.form
  obtain ⟨c0, c1, c2, c3, c4, c5, f2, f3, f4⟩ := hM.cells
  rw [hv] at c2
  clear hM hO
  go_enter Tryz.func13, Tryz.ntmps13
  go_wp2_with fail
  have hev : Evs w w.heap.size B x.taken.length c x.taken := by have := HM.out.taken; rw [hv] at this; exact Cel.of_own this
  refine (clone_any w B _ c x.taken hev (by omega)).mono ?_
  rintro r w1 ⟨v, rfl, ho, hb⟩
  have HO := Lib.hid ho
  clear ho hev c0 c1 c2 c3 c4 c5 f2 f3 f4
  go_wp2
  go_ret
  exact ⟨v, rfl, HO.out, hb⟩
end Go.Proofs.YtgbagjpokpchpaaGreatDoor
namespace Go.Proofs.YtgbagjpokpchpaaGreatDoor
open Go.RowKit Go.Maps Go.Sort Go.Shelf

def GonePost (w : World) (ks : List (List UInt8)) (e : Ending) (w' : World) : Prop :=
  ∃ v r, e = .returned v ∧ Rising r ks ∧ w'.ownsRow w.heap.size 9 1 v r.length (r.map encStr) ∧ Below w.heap.size w w'

theorem nodup_dedup (ks : List (List UInt8)) : ∃ ss : List (List UInt8), ss.Nodup ∧ ∀ x, x ∈ ss ↔ x ∈ ks := by
  induction ks with
  | nil => exact ⟨[], List.nodup_nil, fun x => Iff.rfl⟩
  | cons k ks ih =>
    obtain ⟨ss, h1, h2⟩ := ih
    by_cases h : k ∈ ks
    · exact ⟨ss, h1, fun x => by rw [h2 x]; simp; intro e; subst e; exact h⟩
    · exact ⟨k :: ss, List.nodup_cons.2 ⟨fun hk => h ((h2 k).1 hk), h1⟩, fun x => by simp [h2 x]⟩

end Go.Proofs.YtgbagjpokpchpaaGreatDoor
namespace Go.Proofs.YtgbagjpokpchpaaGreatDoor
open Go.RowKit Go.Maps Go.Sort Go.Shelf

theorem ilate_any (w : World) (F : Nat → Prop) (bi N : Nat) (x : Itk) (h : ItkAt w F bi N x) (hN : N ≤ 100000) : Calls Tryz.prog 76 #[.pointer (some ⟨bi, 0, none⟩)] w (OwnPost w x.late) := by
  obtain ⟨A, hM, hO, _⟩ := h
  have HM := Lib.hid hM
  have htl := hO.late
  obtain ⟨B, c, hv, hc⟩ := hM.late.form
  obtain ⟨c0, c1, c2, c3, c4, c5, f2, f3, f4⟩ := hM.cells
  rw [hv] at c3
  clear hM hO
  go_enter Tryz.func76, Tryz.ntmps76
  go_wp2_with fail
  have hev : Evs w w.heap.size B x.late.length c x.late := by have := HM.out.late; rw [hv] at this; exact Cel.of_own this
  refine (clone_any w B _ c x.late hev (by omega)).mono ?_
  rintro r w1 ⟨v, rfl, ho, hb⟩
  have HO := Lib.hid ho
  clear ho hev c0 c1 c2 c3 c4 c5 f2 f3 f4
  go_wp2
  go_ret
  exact ⟨v, rfl, HO.out, hb⟩

set_option maxHeartbeats 2000000 in
theorem igone_any (w : World) (F : Nat → Prop) (bi N : Nat) (x : Itk) (h : ItkAt w F bi N x) (hN : N ≤ 100000) : Calls Tryz.prog 15 #[.pointer (some ⟨bi, 0, none⟩)] w (GonePost w x.gone) := by
  obtain ⟨A, hM, hO, _, hng, _⟩ := h
  obtain ⟨c0, c1, c2, c3, c4, c5, f2, f3, f4⟩ := hM.cells
  obtain ⟨D, hD1, hD2, hD3⟩ := hM.gone
  have HD := Lib.hid hD1
  have hDs : Maps.size D ≤ A.ng := hD1.size_le
  have hle : A.ng ≤ 100000 := by omega
  clear hM hO hD1
  refine (callsIn_wide (n := 6)).1 ?_
  have hfK : Fence.wide.fn 34 := trivial
  have hfS : Fence.wide.fn 33 := trivial
  refine callsIn_of_wp Tryz.func15 rfl trivial ?_ rfl
  simp only [Tryz.ntmps15, List.size_toArray, List.length_cons, List.length_nil, Nat.reduceAdd, Nat.reduceSub, Array.replicate_succ, Array.replicate_zero, List.push_toArray, List.append_toArray, List.nil_append, List.cons_append]
  gi_wp2_with fail
  refine (Tryz.maps_Keys_34 _ _).mono ?_
  rintro e w2 ⟨rfl, rfl⟩
  gi_wp2_with fail
  refine (Tryz.slices_Sorted_keys_33_34 A.bg A.ng D _ w HD.out (by unfold maxLen; omega) (by omega)).mono ?_
  rintro e w3 ⟨v, ss, rfl, hS, hrow, hnil, hb3⟩
  clear c0 c1 c2 c3 c4 c5 f2 f3 f4
  gi_wp2_with fail
  go_ret
  obtain ⟨ks, hk1, hk2⟩ := nodup_dedup x.gone
  have hp : ks.Perm (strKeys D) := SetB.perm HD.out (fun k => (hD3 k).2) hk1 hk2
  have hpp : ss.Perm ks := hS.trans hp.symm
  have hnd : ss.Nodup := hpp.nodup_iff.2 hk1
  have hr := rising_sort hnd (fun x => hpp.mem_iff.trans (hk2 x))
  have hlen : (ss.mergeSort (fun x y => decide (x ≤ y))).length = ss.length := List.length_mergeSort _
  refine ⟨v, ss.mergeSort (fun x y => decide (x ≤ y)), rfl, hr, ?_, ?_⟩
  · rw [hlen]
    refine ⟨hrow.1, ?_⟩
    rcases hrow.2 with ⟨e, hl⟩ | ⟨g, cap, cur, e, hb', hg, hrr⟩
    · exact .inl ⟨e, hl⟩
    · exact .inr ⟨g, cap, cur, e, by simp at hb'; omega, hg, hrr⟩
  · exact ((Below.refl _ _).alloc (Nat.le_refl _) _).trans (hb3.mono (by simp))
end Go.Proofs.YtgbagjpokpchpaaGreatDoor
