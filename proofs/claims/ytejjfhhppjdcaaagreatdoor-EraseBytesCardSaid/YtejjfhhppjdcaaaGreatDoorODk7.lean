/-
  Rising rows of texts; the keys of a map, sorted.
  Layer 4: Read, Names, New.
-/
import Derived.Test.YtejjfhhppjdcaaaGreatDoorODkOk
import Derived.Test.YtejjfhhppjdcaaaGreatDoorIter
import Derived.OwnWalkIn
import Derived.CallsIn
import Derived.Test.YtejjfhhppjdcaaaGreatDoorODk6
namespace Go.Proofs.YtejjfhhppjdcaaaGreatDoor
open Go.RowKit Go.Maps Go.Sort Go.Shelf

/-- a rising row of texts that holds just these -/
def Rising (r ks : List (List UInt8)) : Prop := r.Pairwise (· < ·) ∧ ∀ x, x ∈ r ↔ x ∈ ks

theorem lt_irr (x : List UInt8) : ¬ x < x := List.lt_irrefl x
theorem lt_asy {x y : List UInt8} (h : x < y) (h' : y < x) : False := lt_irr x (List.lt_trans h h')

theorem rising_unique {r r' ks : List (List UInt8)} (h : Rising r ks) (h' : Rising r' ks) : r = r' := by
  have key : ∀ (r r' : List (List UInt8)), r.Pairwise (· < ·) → r'.Pairwise (· < ·) → (∀ x, x ∈ r ↔ x ∈ r') → r = r' := by
    intro r
    induction r with
    | nil => intro r' _ _ hm; cases r' with
      | nil => rfl
      | cons a l => exact absurd ((hm a).2 List.mem_cons_self) (by simp)
    | cons a l ih =>
      intro r' h1 h2 hm
      cases r' with
      | nil => exact absurd ((hm a).1 List.mem_cons_self) (by simp)
      | cons b l' =>
        have h1' := List.pairwise_cons.1 h1
        have h2' := List.pairwise_cons.1 h2
        have hab : a = b := by
          rcases List.mem_cons.1 ((hm a).1 List.mem_cons_self) with e | e
          · exact e
          · rcases List.mem_cons.1 ((hm b).2 List.mem_cons_self) with e' | e'
            · exact e'.symm
            · exact (lt_asy (h1'.1 b e') (h2'.1 a e)).elim
        subst hab
        congr 1
        refine ih l' h1'.2 h2'.2 fun x => ⟨fun hx => ?_, fun hx => ?_⟩
        · rcases List.mem_cons.1 ((hm x).1 (List.mem_cons_of_mem _ hx)) with e | e
          · subst e; exact (lt_irr x (h1'.1 x hx)).elim
          · exact e
        · rcases List.mem_cons.1 ((hm x).2 (List.mem_cons_of_mem _ hx)) with e | e
          · subst e; exact (lt_irr x (h2'.1 x hx)).elim
          · exact e
  exact key r r' h.1 h'.1 fun x => (h.2 x).trans (h'.2 x).symm

theorem rising_sort {ss ks : List (List UInt8)} (hnd : ss.Nodup) (hm : ∀ x, x ∈ ss ↔ x ∈ ks) : Rising (ss.mergeSort (fun x y => decide (x ≤ y))) ks := by
  have hp := List.mergeSort_perm ss (fun x y => decide (x ≤ y))
  have hs := List.pairwise_mergeSort (le := fun x y : List UInt8 => decide (x ≤ y)) (fun a b c h1 h2 => by simp at *; exact List.le_trans h1 h2) (fun a b => by simp; exact List.le_total a b) ss
  have hn : (ss.mergeSort (fun x y => decide (x ≤ y))).Nodup := hp.nodup_iff.2 hnd
  refine ⟨?_, fun x => hp.mem_iff.trans (hm x)⟩
  refine List.pairwise_iff_getElem.2 fun i j hi hj hij => ?_
  have h1 := List.pairwise_iff_getElem.1 hs i j hi hj hij
  have h2 := List.pairwise_iff_getElem.1 hn i j hi hj hij
  generalize (ss.mergeSort (fun x y => decide (x ≤ y)))[i] = a at *
  generalize (ss.mergeSort (fun x y => decide (x ≤ y)))[j] = b at *
  have h1' : a ≤ b := by simpa using h1
  rcases Decidable.em (a < b) with h | h
  · exact h
  · exact absurd (List.le_antisymm h1' (by exact List.not_lt.1 h)) h2

theorem strKeys_mapD (r : Row Value) : strKeys (mapD r) = r.map (·.1) := by
  unfold mapD strKeys
  simp [Function.comp_def]
  intro a b _; rfl
theorem bb_lt {a b : List UInt8} (h : bytesBefore a b = true) : a < b := by
  have key : ∀ a b : List UInt8, Op.bytesLess a b = bytesBefore a b := fun a => by
    induction a with
    | nil => intro b; cases b <;> simp [Op.bytesLess, bytesBefore]
    | cons x a ih => intro b; cases b with
      | nil => simp [Op.bytesLess, bytesBefore]
      | cons y b => simp only [Op.bytesLess, bytesBefore, ih b]
  rw [← key, bytesLess_eq] at h
  exact of_decide_eq_true h
theorem keys_rising {α : Type} {m : Row α} (h : RowUp m) : Rising (m.map (·.1)) (m.map (·.1)) := ⟨List.pairwise_map.2 (h.imp fun h => bb_lt h), fun _ => Iff.rfl⟩
def SrcPost (w : World) (ks : List (List UInt8)) (e : Ending) (w' : World) : Prop := ∃ v, e = .returned v ∧ w'.ownsRow w.heap.size 9 1 v ks.length (ks.map encStr) ∧ Below w.heap.size w w'
end Go.Proofs.YtejjfhhppjdcaaaGreatDoor
namespace Go.Proofs.YtejjfhhppjdcaaaGreatDoor
open Go.RowKit Go.Maps Go.Sort Go.Shelf

def RdPost (w : World) (l : List UInt8) (er : Int) (e : Ending) (w' : World) : Prop := ∃ v, e = .returned (.tuple #[v, .int .i64 er]) ∧ OwnB w' w.heap.size v l ∧ Below w.heap.size w w'
def Dk.read (d : Dk) (s : List UInt8) : List UInt8 := if d.found s = 0 then (d.file s).data else []
set_option maxRecDepth 100000 in
theorem dkread_any (w : World) (G : Nat → Prop) (bd : Nat) (d : Dk) (h : DkIn w G bd d) (s : List UInt8) (hs : s.length ≤ 1000000) :
    Calls Tryz.prog 24 #[.pointer (some ⟨bd, 0, none⟩), .string ⟨s.toArray⟩] w (RdPost w (d.read s) (d.found s)) := by
  obtain ⟨ho, bm, B, V, h⟩ := h
  have HH := Lib.hid h; have HO := Lib.hid ho
  have hcf := dkfound_any w G bd bm d B V h s hs
  by_cases h0 : d.found s = 0
  · rw [if_pos h0, h0] at hcf
    have HCF := Lib.hid hcf; clear hcf
    have hfz := Dk.found_zero h0
    obtain ⟨f, hf⟩ := Option.isSome_iff_exists.1 hfz.2
    have hff : d.file s = f := by unfold Dk.file; rw [hf]; rfl
    have HE := Lib.hid (show d.read s = f.data by unfold Dk.read; rw [if_pos h0, hff])
    have HZ := Lib.hid h0
    have hdl : f.data.length ≤ 4194304 := by have := ho.file_len s; have := ho.max; rw [hff] at *; omega
    obtain ⟨x0, x1, x2⟩ := h.filecells hf
    have HOW := Lib.hid (h.own _ (getB_mem hf))
    have hbs : B s < w.heap.size := h.lt _ (h.gB _ (getB_mem hf))
    obtain ⟨A1, c1, e1⟩ := HOW.out.form
    replace e1 : V s = .slice A1 f.data.length c1 := e1
    have hby : Byt w w.heap.size A1 f.data.length c1 f.data := OwnB.byt (base := 0) (by have := HOW.out; rw [e1] at this; exact this)
    have HBY := Lib.hid hby
    rw [e1] at x0
    rw [h0]
    clear h ho h0 hfz hf hff x1 x2 e1 hby
    go_enter Tryz.func24, Tryz.ntmps24
    go_wp2_with fail
    refine HCF.out.mono ?_
    rintro e w0 ⟨rfl, rfl⟩
    go_wp2_with (at_builtin; refine wpList_app8 rfl (.tmp 17) (.tmp 21) rfl w.heap.size _ [] rfl ?c1 w.heap.size _ _ _ f.data rfl ?c2 ?c3 ?c4 ?_)
    case c1 => exact World.ownsRow_lit w #[] 0 (Nat.le_refl _) (by simp [maxLen]) rfl
    case c2 => exact HBY.out.alloc (Nat.le_refl _) _
    case c3 => simp; omega
    case c4 => simp
    intro v2 w2 ho2 hg2 _
    have HR := Lib.hid (show RdPost w (d.read s) 0 (.returned (.tuple #[v2, .int .i64 0])) w2 from ⟨v2, rfl, by rw [HE.out]; simpa using ho2, Below.grown ((Below.refl _ _).alloc (Nat.le_refl _) (Obj.cells #[] 5)) hg2 (by simp) (by intro k hk; simp [Value.ownBlock] at hk; omega)⟩)
    clear ho2 hg2
    go_wp2
    go_ret2
    exact HR.out
  · rw [if_neg h0] at hcf
    have HCF := Lib.hid hcf; clear hcf
    have HR := Lib.hid (show RdPost w (d.read s) (d.found s) (.returned (.tuple #[.slice none 0 0, .int .i64 (d.found s)])) w from ⟨_, rfl, by unfold Dk.read; rw [if_neg h0]; exact OwnB.nil _ _, Below.refl _ _⟩)
    clear h ho
    generalize d.found s = q at *
    go_enter Tryz.func24, Tryz.ntmps24
    go_wp2_with fail
    refine HCF.out.mono ?_
    rintro e w0 ⟨rfl, rfl⟩
    go_wp2
    go_ret2
    exact HR.out
set_option maxHeartbeats 2000000 in
theorem dknames_any (w : World) (G : Nat → Prop) (bd : Nat) (d : Dk) (h : DkIn w G bd d) : Calls Tryz.prog 20 #[.pointer (some ⟨bd, 0, none⟩)] w (SrcPost w (d.files.map (·.1))) := by
  obtain ⟨ho, bm, B, V, h⟩ := h
  have hml := ho.num
  have c0 := h.cells.1
  obtain ⟨row, hrw⟩ : ∃ row : Row Value, row = d.files.map fun p => (p.1, .pointer (some ⟨B p.1, 0, none⟩)) := ⟨_, rfl⟩
  have HD := Lib.hid (show w.ownsMap Tryz.prog 9 raw bm row.length (mapD row) by rw [hrw]; exact h.map)
  have hds : Maps.size (mapD row) = d.files.length := by rw [hrw]; simp [mapD, Maps.size]
  have HRW := Lib.hid (show row.map (·.1) = d.files.map (·.1) by rw [hrw]; simp)
  clear hrw
  have HKR := Lib.hid (keys_rising h.up)
  have hnd : (d.files.map (·.1)).Nodup := (List.pairwise_map.2 (h.up.imp fun {a b} h e => by rw [e, bb_irrefl] at h; cases h))
  have HND := Lib.hid hnd
  clear h hnd ho
  refine (callsIn_wide (n := 6)).1 ?_
  have hfK : Fence.wide.fn 70 := trivial
  have hfS : Fence.wide.fn 69 := trivial
  refine callsIn_of_wp Tryz.func20 rfl trivial ?_ rfl
  simp only [Tryz.ntmps20, List.size_toArray, List.length_cons, List.length_nil, Nat.reduceAdd, Nat.reduceSub, Array.replicate_succ, Array.replicate_zero, List.push_toArray, List.append_toArray, List.nil_append, List.cons_append]
  have HDS := Lib.hid hds
  clear hds
  gi_wp2_with fail
  refine (Tryz.maps_Keys_70 _ _).mono ?_
  rintro e w2 ⟨rfl, rfl⟩
  gi_wp2_with fail
  refine (Tryz.slices_Sorted_keys_69_70 bm row.length (mapD row) raw w HD.out (by rw [HDS.out]; unfold maxLen; omega) (by rw [HDS.out]; omega)).mono ?_
  rintro e w3 ⟨v, ss, rfl, hS, hrow, hnil, hb3⟩
  clear c0
  gi_wp2_with fail
  go_ret
  rw [strKeys_mapD] at hS
  rw [HRW.out] at hS
  have hr := rising_sort (hS.nodup_iff.2 HND.out) (fun x => hS.mem_iff)
  have he := rising_unique hr HKR.out
  rw [he] at hrow
  have hl : ss.length = (d.files.map (·.1)).length := hS.length_eq
  rw [hl] at hrow
  refine ⟨v, rfl, ?_, ((Below.refl _ _).alloc (Nat.le_refl _) _).trans (hb3.mono (by simp))⟩
  refine ⟨hrow.1, ?_⟩
  rcases hrow.2 with ⟨e, hl⟩ | ⟨g, cap, cur, e, hb', hg, hrr⟩
  · exact .inl ⟨e, hl⟩
  · exact .inr ⟨g, cap, cur, e, by simp at hb'; omega, hg, hrr⟩
def DkNewPost (w : World) (e : Ending) (w' : World) : Prop := ∃ bd G, e = .returned (.pointer (some ⟨bd, 0, none⟩)) ∧ DkIn w' G bd Dk.new ∧ (∀ b, G b → w.heap.size ≤ b) ∧ Below w.heap.size w w'
theorem dknew_any (w : World) : Calls Tryz.prog 17 #[] w (DkNewPost w) := by
  have hmm := @run_makeMap Tryz.prog
  have HR := Lib.hid (show DkNewPost w (.returned (.pointer (some ⟨w.heap.size + 1, 0, none⟩))) ((w.alloc (.map #[] 0)).alloc (dkObj w.heap.size Dk.new)) by
    have hb : Below w.heap.size w ((w.alloc (.map #[] 0)).alloc (dkObj w.heap.size Dk.new)) := ((Below.refl _ _).alloc (Nat.le_refl _) _).alloc (by simp) _
    refine ⟨w.heap.size + 1, fun b => b = w.heap.size ∨ b = w.heap.size + 1, rfl, ⟨Dk.ok_new, w.heap.size, fun _ => 0, fun _ => .slice none 0 0, ?_⟩, fun b hb => by omega, hb⟩
    have hm : MapS ((w.alloc (.map #[] 0)).alloc (dkObj w.heap.size Dk.new)) w.heap.size [] := (MapS.made w).block (heap_alloc_old _ _ (by simp))
    have hd : ((w.alloc (.map #[] 0)).alloc (dkObj w.heap.size Dk.new)).heap[w.heap.size + 1]? = some (dkObj w.heap.size Dk.new) := by
      have := heap_alloc_new (w.alloc (.map #[] 0)) (dkObj w.heap.size Dk.new)
      simpa using this
    exact ⟨hd, hm, by simp [Dk.new], by simp [Dk.new], by simp [Dk.new], by simp [Dk.new], .inr rfl, .inl rfl, by simp [Dk.new], by simp [Dk.new], fun b hb => by simp; omega, by simp [Dk.new, RowUp], by omega, by simp [Dk.new], by simp [Dk.new]⟩)
  go_enter Tryz.func17, Tryz.ntmps17
  go_wp2
  go_ret
  exact HR.out
end Go.Proofs.YtejjfhhppjdcaaaGreatDoor
