/-
  Layer 4: Read, Names, New.
  Layer 5: a journal is opened on a disk without files.
  Layer 5: Read.
  Layer 33: log: a journal of events.
-/
import Derived.Test.YtgbagjpokpchpaaGreatDoorRDk6
import Derived.Test.YtgbagjpokpchpaaGreatDoorRSearch
import Derived.Test.YtgbagjpokpchpaaGreatDoorRJl5
import Derived.Test.YtgbagjpokpchpaaGreatDoorRPnM
namespace Go.Proofs.YtgbagjpokpchpaaGreatDoor
open Go.RowKit Go.Maps Go.Sort Go.Shelf

set_option maxHeartbeats 2000000 in
theorem dknames_any (w : World) (G : Nat → Prop) (bd : Nat) (d : Dk) (h : DkIn w G bd d) : Calls Tryz.prog 93 #[.pointer (some ⟨bd, 0, none⟩)] w (SrcPost w (d.files.map (·.1))) := by
  obtain ⟨ho, bm, B, V, h⟩ := h
  have hml := ho.num
  have c0 := h.cells.1
  obtain ⟨row, hrw⟩ : ∃ row : Row Value, row = d.files.map fun p => (p.1, .pointer (some ⟨B p.1, 0, none⟩)) := ⟨_, rfl⟩
  have HD := Lib.hid (show w.ownsMap Tryz.prog 9 raw bm row.length (mapD row) by rw [hrw]; exact h.map)
  have hds : Maps.size (mapD row) = d.files.length := by rw [hrw]; simp [mapD, Maps.size]
  have HRW := Lib.hid (show row.map (·.1) = d.files.map (·.1) by rw [hrw]; simp)
  clear hrw
  have HKR := Lib.hid (keys_rising h.up)
  have hnd : (d.files.map (·.1)).Nodup := (List.pairwise_map.2 (h.up.imp fun {a b} h e => by rw [e, bb_irrefl] at h; cases h))
  have HND := Lib.hid hnd
  clear h hnd ho
  refine (callsIn_wide (n := 6)).1 ?_
  have hfK : Fence.wide.fn 139 := trivial
  have hfS : Fence.wide.fn 33 := trivial
  refine callsIn_of_wp Tryz.func93 rfl trivial ?_ rfl
  simp only [Tryz.ntmps93, List.size_toArray, List.length_cons, List.length_nil, Nat.reduceAdd, Nat.reduceSub, Array.replicate_succ, Array.replicate_zero, List.push_toArray, List.append_toArray, List.nil_append, List.cons_append]
  have HDS := Lib.hid hds
  clear hds
  gi_wp2_with fail
  refine (Tryz.maps_Keys_139 _ _).mono ?_
  rintro e w2 ⟨rfl, rfl⟩
  gi_wp2_with fail
  refine (Tryz.slices_Sorted_keys_33_139 bm row.length (mapD row) raw w HD.out (by rw [HDS.out]; unfold maxLen; omega) (by rw [HDS.out]; omega)).mono ?_
  rintro e w3 ⟨v, ss, rfl, hS, hrow, hnil, hb3⟩
  clear c0
  gi_wp2_with fail
  go_ret
  rw [strKeys_mapD] at hS
  rw [HRW.out] at hS
  have hr := rising_sort (hS.nodup_iff.2 HND.out) (fun x => hS.mem_iff)
  have he := rising_unique hr HKR.out
  rw [he] at hrow
  have hl : ss.length = (d.files.map (·.1)).length := hS.length_eq
  rw [hl] at hrow
  refine ⟨v, rfl, ?_, ((Below.refl _ _).alloc (Nat.le_refl _) _).trans (hb3.mono (by simp))⟩
  refine ⟨hrow.1, ?_⟩
  rcases hrow.2 with ⟨e, hl⟩ | ⟨g, cap, cur, e, hb', hg, hrr⟩
  · exact .inl ⟨e, hl⟩
  · exact .inr ⟨g, cap, cur, e, by simp at hb'; omega, hg, hrr⟩
def DkNewPost (w : World) (e : Ending) (w' : World) : Prop := ∃ bd G, e = .returned (.pointer (some ⟨bd, 0, none⟩)) ∧ DkIn w' G bd Dk.new ∧ (∀ b, G b → w.heap.size ≤ b) ∧ Below w.heap.size w w'
theorem dknew_any (w : World) : Calls Tryz.prog 29 #[] w (DkNewPost w) := by
  have hmm := @run_makeMap Tryz.prog
  have HR := Lib.hid (show DkNewPost w (.returned (.pointer (some ⟨w.heap.size + 1, 0, none⟩))) ((w.alloc (.map #[] 0)).alloc (dkObj w.heap.size Dk.new)) by
    have hb : Below w.heap.size w ((w.alloc (.map #[] 0)).alloc (dkObj w.heap.size Dk.new)) := ((Below.refl _ _).alloc (Nat.le_refl _) _).alloc (by simp) _
    refine ⟨w.heap.size + 1, fun b => b = w.heap.size ∨ b = w.heap.size + 1, rfl, ⟨Dk.ok_new, w.heap.size, fun _ => 0, fun _ => .slice none 0 0, ?_⟩, fun b hb => by omega, hb⟩
    have hm : MapS ((w.alloc (.map #[] 0)).alloc (dkObj w.heap.size Dk.new)) w.heap.size [] := (MapS.made w).block (heap_alloc_old _ _ (by simp))
    have hd : ((w.alloc (.map #[] 0)).alloc (dkObj w.heap.size Dk.new)).heap[w.heap.size + 1]? = some (dkObj w.heap.size Dk.new) := by
      have := heap_alloc_new (w.alloc (.map #[] 0)) (dkObj w.heap.size Dk.new)
      simpa using this
    exact ⟨hd, hm, by simp [Dk.new], by simp [Dk.new], by simp [Dk.new], by simp [Dk.new], .inr rfl, .inl rfl, by simp [Dk.new], by simp [Dk.new], fun b hb => by simp; omega, by simp [Dk.new, RowUp], by omega, by simp [Dk.new], by simp [Dk.new]⟩)
  go_enter Tryz.func29, Tryz.ntmps29
  go_wp2
  go_ret
  exact HR.out
end Go.Proofs.YtgbagjpokpchpaaGreatDoor
namespace Go.Proofs.YtgbagjpokpchpaaGreatDoor
open Go.RowKit Go.Maps Go.Sort Go.Shelf

set_option maxRecDepth 100000 in
set_option maxHeartbeats 2000000 in
/-- nothing is found on a disk without files -/
theorem jlfind0_any (w : World) (G F : Nat → Prop) (bj bd : Nat) (j : Jl) (h : JlIn w G F bj bd j) (hf : j.dk.files = []) (hfl : j.files = 0) :
    Calls Tryz.prog 54 #[.pointer (some ⟨bj, 0, none⟩)] w fun e w' => e = .returned (.bool true) ∧ JlD w G F bj bd j w' := by
  have hmm := @run_makeMap Tryz.prog
  have HI := Lib.hid h
  have hlt := h.lt
  obtain ⟨ho, v, hj⟩ := h
  obtain ⟨c0, c1, c2, c3, c4, c5, c6⟩ := hj.cells
  have c3f := hj.frozen 3
  have hbj := hj.lt _ hj.fj
  have HDK := Lib.hid hj.dk
  have HJ := Lib.hid hj; have HO := Lib.hid ho
  have hb1 : Below w.heap.size w (w.alloc (.map #[] 0)) := (Below.refl _ _).alloc (Nat.le_refl _) _
  have HB1 := Lib.hid hb1
  have HNM := Lib.hid (show Calls Tryz.prog 93 #[.pointer (some ⟨bd, 0, none⟩)] (w.alloc (.map #[] 0)) (SrcPost (w.alloc (.map #[] 0)) []) from by
    have := dknames_any (w.alloc (.map #[] 0)) G bd j.dk (hj.dk.up hb1)
    rw [hf] at this; exact this)
  clear ho hj c1 c2 c4 c5 c6 hb1 hlt
  go_enter Tryz.func54, Tryz.ntmps54
  go_wp2_with fail
  with_reducible refine HNM.out.mono ?_
  rintro r w2 ⟨vn, rfl, hrow, hb2⟩
  obtain ⟨An, cn, hvn⟩ := ownsRow_form hrow
  have HB2 := Lib.hid (HB1.out.trans (hb2.mono HB1.out.size))
  have hm2 : MapS w2 w.heap.size [] := ((MapS.made w).block (hb2.block _ (by simp)))
  have hlen : ∀ ty, (Builtin.len_ #[66] ty #[.map (some w.heap.size)]).run Tryz.prog w2 = .ok (.int .i64 0) w2 := fun ty => hm2.len 66 _ Tryz.underlying66 ty
  have d3 : w2.cell? ⟨bj, 3, none⟩ = some (.int .i64 j.files) := (HB2.out.cell (p := ⟨bj, 3, none⟩) hbj).trans c3
  have d3f : w2.frozen? ⟨bj, 3, none⟩ = false := (HB2.out.frozen (p := ⟨bj, 3, none⟩) hbj).trans c3f
  subst hvn
  have HR := Lib.hid (show JlD w G F bj bd j (w2.setCell ⟨bj, 3, none⟩ (.int .i64 0)) from by
    have h2 := HJ.out.up HB2.out
    refine ⟨G, F, ⟨HO.out, v, h2.setc rfl rfl ?_⟩, fun _ h => .inl h, fun _ h => .inl h, (Keep.of_below HB2.out).setCell (p := ⟨bj, 3, none⟩) (fun _ => .inr HJ.out.fj) _⟩
    rw [heap_set_row h2.blk, hfl]; simp [jlObj, hfl])
  clear c0 c3 c3f hrow hb2 hm2
  go_wp2
  go_loopw [16] (fun i wr => i = .int .i64 0 ∧ wr = w2) (fun _ _ => 0)
  case atStart => exact ⟨rfl, rfl⟩
  case round =>
    obtain ⟨rfl, rfl⟩ := hrel
    go_wp2
    go_loopw [40] (fun i wz => i = .int .i64 0 ∧ wz = wr) (fun _ _ => 0)
    case atStart => exact ⟨rfl, rfl⟩
    case round =>
      obtain ⟨rfl, rfl⟩ := hrel
      go_wp2
      go_ret
      exact ⟨rfl, HR.out⟩
def OpenPost (w : World) (G : Nat → Prop) (bd : Nat) (j : Jl) (e : Ending) (w' : World) : Prop := ∃ bj G' F, e = .returned (.tuple #[.pointer (some ⟨bj, 0, none⟩), .int .i64 0]) ∧ JlIn w' G' F bj bd j ∧ (∀ b, G' b → G b ∨ w.heap.size ≤ b) ∧ (∀ b, F b → w.heap.size ≤ b) ∧ Keep G w w'
set_option maxRecDepth 100000 in
set_option maxHeartbeats 2000000 in
theorem jlopen0_any (w : World) (G : Nat → Prop) (bd : Nat) (d : Dk) (h : DkIn w G bd d) (hf : d.files = []) (hd : d.down = false) (s : List UInt8) (hs : nameB s = true) (per : Nat) (hp : 1 ≤ per) (hp2 : per ≤ 4096) :
    Calls Tryz.prog 30 #[.pointer (some ⟨bd, 0, none⟩), .string ⟨s.toArray⟩, .int .i64 per] w (OpenPost w G bd (Jl.new d s per)) := by
  have hnl := (nameB_len hs).2
  have HNB := Lib.hid (show Calls Tryz.prog 52 #[.string ⟨s.toArray⟩] w fun e w' => e = .returned (.bool true) ∧ w = w' from by have := name_all w s; rw [hs] at this; exact this)
  have HDN := Lib.hid (show Calls Tryz.prog 53 #[.pointer (some ⟨bd, 0, none⟩)] w fun e w' => e = .returned (.bool false) ∧ w = w' from by
    obtain ⟨_, bm, B, V, h⟩ := h
    have := dkdown_any w G bd bm d B V h; rw [hd] at this; exact this)
  have hlt := h.lt
  have hb1 : Below w.heap.size w (w.alloc (jlObj bd (.slice none 0 0) (Jl.new d s per))) := (Below.refl _ _).alloc (Nat.le_refl _) _
  have HJ1 := Lib.hid (show JlIn (w.alloc (jlObj bd (.slice none 0 0) (Jl.new d s per))) G (· = w.heap.size) w.heap.size bd (Jl.new d s per) from by
    refine ⟨⟨hp, hp2, hnl, by simp [Jl.new], by simp [Jl.new], by simp [Jl.new], by simp [Jl.new]⟩, .slice none 0 0, ⟨h.up hb1, heap_alloc_new w _, World.ownsRow_nil _ _ _ _, rfl, fun b hb => (by cases hb), fun b hb hg => ?_, fun b hb => ?_⟩⟩
    · have := hlt b hg; subst hb; omega
    · subst hb; simp)
  have HB1 := Lib.hid hb1
  have HF := Lib.hid (jlfind0_any _ G (· = w.heap.size) w.heap.size bd (Jl.new d s per) HJ1.out hf rfl)
  have HLT := Lib.hid hlt
  clear hb1 h hs hf hd hlt
  go_enter Tryz.func30, Tryz.ntmps30
  go_wp2_with fail
  refine HNB.out.mono ?_
  rintro r w0 ⟨rfl, rfl⟩
  go_wp2_with fail
  refine HDN.out.mono ?_
  rintro r w0 ⟨rfl, rfl⟩
  go_wp2_with fail
  refine HF.out.mono ?_
  rintro r w2 ⟨rfl, hd2⟩
  obtain ⟨G2, F2, ⟨ho2, v2, hj2⟩, hG2, hF2, hk2⟩ := hd2
  have hs1 := HB1.out.size
  obtain ⟨c0, c1, c2, c3, c4, c5, c6⟩ := hj2.cells
  obtain ⟨A2, cp2, hv2⟩ := ownsRow_form hj2.own
  have c5f := hj2.frozen 5
  have HR := Lib.hid (show OpenPost w G bd (Jl.new d s per) (.returned (.tuple #[.pointer (some ⟨w.heap.size, 0, none⟩), .int .i64 0])) (w2.setCell ⟨w.heap.size, 5, none⟩ (.int .i64 0)) from by
    refine ⟨w.heap.size, G2, F2, rfl, ⟨ho2, v2, hj2.setc rfl rfl ?_⟩, fun b hb => ?_, fun b hb => ?_, ?_⟩
    · rw [heap_set_row hj2.blk]; rfl
    · rcases hG2 b hb with h | h
      · exact .inl h
      · right; omega
    · rcases hF2 b hb with h | h
      · omega
      · omega
    · refine ((Keep.of_below HB1.out).trans hk2 (fun b hb hg => ?_)).setCell (p := ⟨w.heap.size, 5, none⟩) (fun hb => ?_) _
      · rcases hg with h | h
        · exact h
        · omega
      · exact absurd hb (by show ¬ w.heap.size < w.heap.size; omega))
  rw [hv2] at c4
  have hne : (Jl.new d s per).es.length = 0 := rfl
  rw [hne] at c4
  have hnf : (((Jl.new d s per).files : Nat) : Int) = 0 := rfl
  rw [hnf] at c3
  clear hj2 ho2 hG2 hF2 hk2 hv2 c0 c1 c2 c6 hne hnf
  go_wp2
  go_loopw [40] (fun i wz => i = .int .i64 0 ∧ wz = w2) (fun _ _ => 0)
  case atStart => exact ⟨rfl, rfl⟩
  case round =>
    obtain ⟨rfl, rfl⟩ := hrel
    go_wp2
    go_ret2
    exact HR.out
end Go.Proofs.YtgbagjpokpchpaaGreatDoor
namespace Go.Proofs.YtgbagjpokpchpaaGreatDoor
open Go.RowKit Go.Maps Go.Sort

theorem jint_info : (Tryz.prog.info? 3).map (fun i => (i.zero, i.size, i.bytes)) = some (some (.int .i64 0), 1, 8) := by kernel_rfl
/-- the offsets of what isn't erased -/
def rdAt : Int → List (Option Ev) → List Int
  | _, [] => []
  | f, none :: l => rdAt (f + 1) l
  | f, some _ :: l => f :: rdAt (f + 1) l
def rdEv (l : List (Option Ev)) : List Ev := l.filterMap id
theorem rdAt_snoc (x : Option Ev) : ∀ (l : List (Option Ev)) (f : Int), rdAt f (l ++ [x]) = rdAt f l ++ (if x.isSome then [f + l.length] else [])
  | [], f => by cases x <;> simp [rdAt]
  | none :: l, f => by
    simp only [List.cons_append, rdAt, rdAt_snoc x l (f + 1), List.length_cons]
    congr 1; split
    · congr 1; omega
    · rfl
  | some e :: l, f => by
    simp only [List.cons_append, rdAt, rdAt_snoc x l (f + 1), List.length_cons]
    congr 2; split
    · congr 1; omega
    · rfl
theorem rdAt_len : ∀ (l : List (Option Ev)) (f : Int), (rdAt f l).length = (rdEv l).length
  | [], _ => rfl
  | none :: l, f => by simp only [rdAt, rdAt_len l]; rfl
  | some e :: l, f => by simp only [rdAt, List.length_cons, rdAt_len l]; rfl
theorem rdEv_snoc (l : List (Option Ev)) (x : Option Ev) : rdEv (l ++ [x]) = rdEv l ++ x.toList := by
  unfold rdEv; rw [List.filterMap_append]; cases x <;> rfl
theorem rdEv_le (l : List (Option Ev)) : (rdEv l).length ≤ l.length := List.length_filterMap_le _ _
def intVs (l : List Int) : List Value := l.map (Value.int .i64)
def OwnI (w : World) (base : Nat) (v : Value) (l : List Int) : Prop := w.ownsRow base 3 1 v l.length (intVs l)
/-- a slice from a place to another one -/
theorem Cel.mid {w : World} {B size n c : Nat} {A : Option Addr} {xs : List Value} (h : Cel w B size A n c xs) (lo m : Nat) (hm : lo + m ≤ n) :
    Cel w B size (if c = lo then A else A.map (·.add (lo * size))) m (c - lo) ((xs.drop (lo * size)).take (m * size)) := (h.from_ lo (by omega)).upto m (by omega)
theorem entCells_dropN : ∀ (l : List (Option Ev)) (m : Nat), (entCells l).drop (m * 9) = entCells (l.drop m)
  | [], m => by simp [entCells]
  | x :: l, 0 => by simp
  | x :: l, m + 1 => by
    have h9 := entC_length x
    have e1 : entCells (x :: l) = entC x ++ entCells l := rfl
    rw [e1, List.drop_succ_cons, ← entCells_dropN l m, show (m + 1) * 9 = (entC x).length + m * 9 by omega, List.drop_append]
    simp
theorem entCells_takeN : ∀ (l : List (Option Ev)) (m : Nat), (entCells l).take (m * 9) = entCells (l.take m)
  | [], m => by simp [entCells]
  | x :: l, 0 => by simp [entCells]
  | x :: l, m + 1 => by
    have h9 := entC_length x
    have e1 : entCells (x :: l) = entC x ++ entCells l := rfl
    have e2 : entCells ((x :: l).take (m + 1)) = entC x ++ entCells (l.take m) := rfl
    rw [e1, e2, ← entCells_takeN l m, show (m + 1) * 9 = (entC x).length + m * 9 by omega, List.take_append, List.take_of_length_le (by omega), Nat.add_sub_cancel_left]
def Ents (w : World) (B : Nat) (A : Option Addr) (n c : Nat) (l : List (Option Ev)) : Prop := Cel w B 9 A n c (entCells l)
theorem Ents.len {w : World} {B n c : Nat} {A : Option Addr} {l : List (Option Ev)} (h : Ents w B A n c l) : l.length = n := by
  have := Cel.len h; rw [entCells_length] at this; omega
abbrev EntAt (w : World) (b o : Nat) (x : Option Ev) : Prop :=
  w.cell? ⟨b, o, none⟩ = some (.string ⟨(entE x).src.toArray⟩) ∧ w.cell? ⟨b, o + 1, none⟩ = some (.int .i64 (entE x).num) ∧ w.cell? ⟨b, o + 2, none⟩ = some (.int .i64 (entE x).at_) ∧ w.cell? ⟨b, o + 3, none⟩ = some (.int .i64 (entE x).kind) ∧
  w.cell? ⟨b, o + 4, none⟩ = some (.string ⟨(entE x).per.toArray⟩) ∧ w.cell? ⟨b, o + 5, none⟩ = some (.string ⟨(entE x).item.toArray⟩) ∧ w.cell? ⟨b, o + 6, none⟩ = some (.int .i64 (entE x).val) ∧ w.cell? ⟨b, o + 7, none⟩ = some (.string ⟨(entE x).text.toArray⟩) ∧ w.cell? ⟨b, o + 8, none⟩ = some (.bool x.isNone)
theorem Ents.at_ {w : World} {B n c : Nat} {A : Option Addr} {l : List (Option Ev)} (h : Ents w B A n c l) (k : Nat) (hk : k < l.length) : ∃ b off, A = some ⟨b, off, none⟩ ∧ b < B ∧ EntAt w b (off + k * 9) l[k] := by
  have hl := h.len
  obtain ⟨b, off, e, hb, hc⟩ := Cel.cell h (by omega)
  have key : ∀ j u, j < 9 → (entC l[k])[j]? = some u → w.cell? ⟨b, off + k * 9 + j, none⟩ = some u := fun j u hj hu => by
    rw [Nat.add_assoc]; exact hc _ u ((entCells_get l k j hk hj).trans hu)
  rw [entC_eq] at key
  exact ⟨b, off, e, hb, key 0 _ (by omega) rfl, key 1 _ (by omega) rfl, key 2 _ (by omega) rfl, key 3 _ (by omega) rfl, key 4 _ (by omega) rfl, key 5 _ (by omega) rfl, key 6 _ (by omega) rfl, key 7 _ (by omega) rfl, key 8 _ (by omega) rfl⟩
theorem EntAt.below {w w' : World} {b o B : Nat} {x : Option Ev} (h : EntAt w b o x) (hb : Below B w w') (hB : b < B) : EntAt w' b o x := by
  obtain ⟨h0, h1, h2, h3, h4, h5, h6, h7, h8⟩ := h
  have key : ∀ (o : Nat) u, w.cell? ⟨b, o, none⟩ = some u → w'.cell? ⟨b, o, none⟩ = some u := fun o u hu => (hb.cell (p := ⟨b, o, none⟩) hB).trans hu
  exact ⟨key _ _ h0, key _ _ h1, key _ _ h2, key _ _ h3, key _ _ h4, key _ _ h5, key _ _ h6, key _ _ h7, key _ _ h8⟩
def Jl.rdBad (j : Jl) (a b : Int) : Bool := decide (a < 0) || decide ((j.es.length : Int) < a) || decide (b < 0)
/-- the entries that are read -/
def Jl.rdSeg (j : Jl) (a b : Int) : List (Option Ev) := (j.es.drop a.toNat).take (min b (j.es.length - a)).toNat
def JRdPost (w : World) (evs : List Ev) (ats : List Int) (er : Int) (e : Ending) (w' : World) : Prop := ∃ v u, e = .returned (.tuple #[v, u, .int .i64 er]) ∧ OwnE w' w.heap.size v evs ∧ OwnI w' w.heap.size u ats ∧ Below w.heap.size w w'
def JRdRel (w : World) (f : Int) (l : List (Option Ev)) (v u i : Value) (wr : World) : Prop := ∃ k : Nat, i = .int .i64 k ∧ k ≤ l.length ∧ OwnE wr w.heap.size v (rdEv (l.take k)) ∧ OwnI wr w.heap.size u (rdAt f (l.take k)) ∧ Below w.heap.size w wr
def JReadPost (w : World) (j : Jl) (a b : Int) (e : Ending) (w' : World) : Prop := JRdPost w (if j.rdBad a b then [] else rdEv (j.rdSeg a b)) (if j.rdBad a b then [] else rdAt a (j.rdSeg a b)) (if j.rdBad a b then 9 else 0) e w'
set_option maxRecDepth 100000 in
set_option maxHeartbeats 4000000 in
theorem jlread_any (w : World) (G F : Nat → Prop) (bj bd : Nat) (j : Jl) (h : JlIn w G F bj bd j) (a b : Int) :
    Calls Tryz.prog 65 #[.pointer (some ⟨bj, 0, none⟩), .int .i64 a, .int .i64 b] w (JReadPost w j a b) := by
  obtain ⟨ho, v, hj⟩ := h
  have c4 := hj.cells.2.2.2.2.1
  obtain ⟨A, c, hv⟩ := ownsRow_form hj.own
  have hnum := ho.num
  have HO := Lib.hid (show Ents w w.heap.size A j.es.length c j.es from by have := hj.own; rw [hv] at this; exact Cel.of_own this)
  rw [hv] at c4
  have HB := Lib.hid (show j.rdBad a b = (decide (a < 0) || decide ((j.es.length : Int) < a) || decide (b < 0)) from rfl)
  clear hj ho hv
  have HRB := Lib.hid (show j.rdBad a b = true → JReadPost w j a b (.returned (.tuple #[.slice none 0 0, .slice none 0 0, .int .i64 9])) w from fun h => by
    unfold JReadPost
    rw [if_pos h, if_pos h, if_pos h]
    exact ⟨_, _, rfl, World.ownsRow_nil _ _ _ _, World.ownsRow_nil _ _ _ _, Below.refl _ _⟩)
  generalize hn : j.es.length = n at *
  have HN := Lib.hid hn
  by_cases h1 : a < 0
  · have HR := Lib.hid (HRB.out (by rw [HB.out, decide_eq_true h1]; rfl))
    go_enter Tryz.func65, Tryz.ntmps65
    go_wp2
    go_ret3
    exact HR.out
  by_cases h2 : (n : Int) < a
  · have HR := Lib.hid (HRB.out (by rw [HB.out, decide_eq_true h2]; simp))
    go_enter Tryz.func65, Tryz.ntmps65
    go_wp2
    go_ret3
    exact HR.out
  by_cases h3 : b < 0
  · have HR := Lib.hid (HRB.out (by rw [HB.out, decide_eq_true h3]; simp))
    go_enter Tryz.func65, Tryz.ntmps65
    go_wp2
    go_ret3
    exact HR.out
  have hbad : j.rdBad a b = false := by rw [HB.out, decide_eq_false h1, decide_eq_false h2, decide_eq_false h3]; rfl
  obtain ⟨lo, rfl⟩ := Int.eq_ofNat_of_zero_le (show 0 ≤ a by omega)
  obtain ⟨m, hm⟩ : ∃ m : Nat, (m : Int) = min b ((n : Int) - lo) := ⟨(min b ((n : Int) - lo)).toNat, by omega⟩
  have hseg : j.rdSeg lo b = (j.es.drop lo).take m := by unfold Jl.rdSeg; rw [hn, ← hm]; simp
  have HP := Lib.hid (show ∀ e w', JRdPost w (rdEv ((j.es.drop lo).take m)) (rdAt lo ((j.es.drop lo).take m)) 0 e w' → JReadPost w j lo b e w' from fun e w' h => by unfold JReadPost; rw [hbad, hseg]; exact h)
  have hlm : lo + m ≤ n := by omega
  have HSL := Lib.hid (show ((j.es.drop lo).take m).length = m by simp [hn]; omega)
  have HC := Lib.hid (show Ents w w.heap.size (if c = lo then A else A.map (·.add (lo * 9))) m (c - lo) ((j.es.drop lo).take m) from by
    have := Cel.mid HO.out lo m hlm
    unfold Ents; rw [← entCells_takeN, ← entCells_dropN]; exact this)
  have hcap : n ≤ c := Cel.cap HO.out
  generalize (j.es.drop lo).take m = seg at *
  clear hbad hseg hn HRB HB HO
  have hm' := hm.symm
  clear hm
  go_enter Tryz.func65, Tryz.ntmps65
  obtain ⟨A', c', hAc⟩ : ∃ A' c', (if c = lo then A else A.map (·.add (lo * 9))) = A' ∧ c - lo = c' := ⟨_, _, rfl, rfl⟩
  rw [hAc.1, hAc.2] at HC
  have HST := Lib.hid (show JRdRel w lo seg (.slice none 0 0) (.slice none 0 0) (.int .i64 ((0 : Nat) : Int)) w from ⟨0, rfl, Nat.zero_le _, World.ownsRow_nil _ _ _ _, World.ownsRow_nil _ _ _ _, Below.refl _ _⟩)
  by_cases hcl : c = lo
  case' pos =>
    rw [if_pos hcl] at hAc
    have hc0 : c - lo = 0 := by omega
    have HAC := Lib.hid hAc
    clear hAc
    go_wp2
    rw [show Value.slice A m 0 = .slice A' m c' by rw [← HAC.out.1, ← HAC.out.2, hc0]]
  case' neg =>
    rw [if_neg hcl] at hAc
    have HAC := Lib.hid hAc
    clear hAc
    go_wp2
    rw [show Value.slice (Option.map (fun x => x.add (lo * 9)) A) m (c - lo) = .slice A' m c' by rw [← HAC.out.1, ← HAC.out.2]]
  all_goals
    clear HAC c4 hm' hcl hcap
    go_loopw [9, 10, 47] (fun v u i wr => JRdRel w lo seg v u i wr) (fun _ _ i _ => m - (intOf i).toNat)
    case atStart => exact HST.out
    case round =>
      obtain ⟨k, rfl, hk, hov, hou, hbel⟩ := hrel
      have HV := Lib.hid hov; have HU := Lib.hid hou; have HBL := Lib.hid hbel
      clear hov hou
      have hkL : k ≤ m := by rw [← HSL.out]; exact hk
      by_cases hkn : k < m
      · have hkl : k < seg.length := by rw [HSL.out]; exact hkn
        obtain ⟨b', off, hAe, hb, hd⟩ := HC.out.at_ k hkl
        obtain ⟨e0, e1, e2, e3, e4, e5, e6, e7, e8⟩ := hd.below hbel hb
        have HTK := Lib.hid (show seg.take (k + 1) = seg.take k ++ [seg[k]] by rw [List.take_add_one, List.getElem?_eq_getElem hkl, Option.toList_some])
        have hbA : Below w.heap.size w (wr.alloc (entObj seg[k])) := hbel.alloc hbel.size _
        have HBA := Lib.hid hbA
        have hlk : (seg.take k).length = k := by rw [List.length_take]; omega
        have hle := rdEv_le (seg.take k)
        have HVA := Lib.hid (World.ownsRow.alloc HV.out (entObj seg[k]))
        have HUA := Lib.hid (World.ownsRow.alloc HU.out (entObj seg[k]))
        have hsA : (wr.alloc (entObj seg[k])).heap.size = wr.heap.size + 1 := by simp
        have hin := EntIn.new wr seg[k]
        subst hAe
        have t1 : (k : Int) < m := by omega
        generalize seg[k] = x at *
        clear hd hb hbA
        obtain ⟨f0, f1, f2, f3, f4, f5, f6, f7, f8⟩ := hin
        cases hxn : x.isNone
        · obtain ⟨e, rfl⟩ : ∃ e, x = some e := by cases x with
            | none => simp at hxn
            | some e => exact ⟨e, rfl⟩
          simp only [entE, Option.getD_some] at e0 e1 e2 e3 e4 e5 e6 e7 f0 f1 f2 f3 f4 f5 f6 f7
          have HFIN := Lib.hid (show ∀ v' u' w3, OwnE w3 w.heap.size v' (rdEv (seg.take k) ++ [e]) → OwnI w3 w.heap.size u' (rdAt lo (seg.take k) ++ [(lo : Int) + k]) → Below w.heap.size w w3 → JRdRel w lo seg v' u' (.int .i64 ((k + 1 : Nat) : Int)) w3 from fun v' u' w3 h1 h2 h3 => by
            refine ⟨k + 1, rfl, by omega, ?_, ?_, h3⟩
            · rw [HTK.out, rdEv_snoc]; exact h1
            · rw [HTK.out, rdAt_snoc, Option.isSome_some, if_pos rfl, hlk]; exact h2)
          obtain ⟨i0, hi, hz0, hz1, hz2⟩ := info_parts ev_info
          have HI := Lib.hid hi; have HZ0 := Lib.hid hz0; have HZ1 := Lib.hid hz1; have HZ2 := Lib.hid hz2
          clear hi hz0 hz1 hz2 HTK
          obtain ⟨j0, hi, hz0, hz1, hz2⟩ := info_parts jint_info
          have KI := Lib.hid hi; have KZ0 := Lib.hid hz0; have KZ1 := Lib.hid hz1; have KZ2 := Lib.hid hz2
          clear hi hz0 hz1 hz2
          have hlu := rdAt_len (seg.take k) lo
          simp only [Option.isNone_some] at e8 f8
          go_wp2_with (at_builtin; refine wpList_app (P := Tryz.prog) rfl (.tmp 55) (.tmp 58) 22 rfl 28 i0 _ 8 96 Tryz.underlying22 HI.out HZ0.out HZ1.out HZ2.out rfl (by decide) w.heap.size _ (rdEv (seg.take k)).length (evCells (rdEv (seg.take k))) rfl ?c1 (wr.heap.size + 1 + 1) _ _ _ e.cells rfl ?c2 (cells_one e) ?c4 ?c5 ?c6 ?_)
          case c1 => exact World.ownsRow.alloc HVA.out _
          case c2 =>
            have := Cel.new (size := 8) (n := 1) (wr.alloc (entObj (some e))) #[.string ⟨e.src.toArray⟩, .int .i64 e.num, .int .i64 e.at_, .int .i64 e.kind, .string ⟨e.per.toArray⟩, .string ⟨e.item.toArray⟩, .int .i64 e.val, .string ⟨e.text.toArray⟩] 28 (by unfold maxLen; omega) rfl
            rw [hsA] at this; exact this
          case c4 => unfold maxLen; omega
          case c5 => omega
          case c6 => have := HBA.out.size; first | omega | (simp; omega)
          intro v' w2 hown2 hg2 _
          have HV2 := Lib.hid (show OwnE w2 w.heap.size v' (rdEv (seg.take k) ++ [e]) from by
            unfold OwnE; rw [evCells_one, List.length_append]; exact hown2)
          have hbl2 : Below w.heap.size w w2 := Below.grown (HBA.out.alloc HBA.out.size _) hg2 (by have := HBA.out.size; first | omega | (simp; omega)) (fun k' hk' => (World.ownsRow.lt HVA.out k' hk').1)
          have HB2 := Lib.hid hbl2
          have HU2 := Lib.hid (show OwnI w2 w.heap.size u10 (rdAt lo (seg.take k)) from World.ownsRow.kept (World.ownsRow.alloc HUA.out _) hg2 (ownsRow_apart HU.out HV.out (by decide)))
          have hsz2 : wr.heap.size + 2 ≤ w2.heap.size := by have := hg2.size; simp at this; omega
          clear hown2 hg2 hbl2 f0 f1 f2 f3 f4 f5 f6 f7 f8 e0 e1 e2 e3 e4 e5 e6 e7 e8
          go_wp2_with (at_builtin; refine wpList_app (P := Tryz.prog) rfl (.tmp 60) (.tmp 64) 109 rfl 3 j0 _ 1 8 Tryz.underlying109 KI.out KZ0.out KZ1.out KZ2.out rfl (by decide) w.heap.size _ (rdAt lo (seg.take k)).length (intVs (rdAt lo (seg.take k))) rfl ?c1 (w2.heap.size + 1) _ _ _ [.int .i64 ((lo : Int) + k)] rfl ?c2 ?c3 ?c4 ?c5 ?c6 ?_)
          case c1 => exact World.ownsRow.alloc HU2.out _
          case c2 => exact Cel.new (size := 1) (n := 1) w2 #[.int .i64 ((lo : Int) + k)] 3 (by unfold maxLen; omega) rfl
          case c3 => intro u hu; simp at hu; subst hu; rfl
          case c4 => unfold maxLen; omega
          case c5 => omega
          case c6 => have := HB2.out.size; first | omega | (simp; omega)
          intro u' w3 hown3 hg3 _
          have HU3 := Lib.hid (show OwnI w3 w.heap.size u' (rdAt lo (seg.take k) ++ [(lo : Int) + k]) from by
            unfold OwnI intVs; rw [List.map_append, List.length_append, hlu]; exact hown3)
          have HV3 := Lib.hid (show OwnE w3 w.heap.size v' (rdEv (seg.take k) ++ [e]) from World.ownsRow.kept (World.ownsRow.alloc HV2.out _) hg3 (ownsRow_apart HV2.out HU2.out (by decide)))
          have HB3 := Lib.hid (show Below w.heap.size w w3 from Below.grown (HB2.out.alloc HB2.out.size _) hg3 (by have := HB2.out.size; first | omega | (simp; omega)) (fun k' hk' => (World.ownsRow.lt HU2.out k' hk').1))
          have HRL := Lib.hid (HFIN.out v' u' w3 HV3.out HU3.out HB3.out)
          clear hown3 hg3
          go_wp2
          go_roundw
          case rel => exact HRL.out
          case measure => simp [intOf]; omega
        · have hx : x = none := by cases x with
            | none => rfl
            | some e => simp at hxn
          rw [hxn] at e8 f8
          have HRL := Lib.hid (show JRdRel w lo seg u9 u10 (.int .i64 ((k + 1 : Nat) : Int)) (wr.alloc (entObj x)) from by
            refine ⟨k + 1, rfl, by omega, ?_, ?_, HBA.out⟩
            · rw [HTK.out, rdEv_snoc, hx, Option.toList_none, List.append_nil, ← hx]; exact HVA.out
            · rw [HTK.out, rdAt_snoc, hx, Option.isSome_none, if_neg (by simp), List.append_nil, ← hx]; exact HUA.out)
          subst hx
          clear f0 f1 f2 f3 f4 f5 f6 f7
          go_wp2
          go_roundw
          case rel => exact HRL.out
          case measure => simp [intOf]; omega
      · have t1 : ¬ (k : Int) < m := by omega
        have HR := Lib.hid (show JReadPost w j lo b (.returned (.tuple #[u9, u10, .int .i64 0])) wr from by
          have hv := HV.out
          have hu := HU.out
          rw [List.take_of_length_le (by rw [HSL.out]; omega)] at hv hu
          exact HP.out _ _ ⟨u9, u10, rfl, hv, hu, HBL.out⟩)
        clear hbel
        go_wp2
        go_ret3
        exact HR.out
end Go.Proofs.YtgbagjpokpchpaaGreatDoor
namespace Go.Proofs.YtgbagjpokpchpaaGreatDoor
open Go.RowKit Go.Maps Go.Sort Go.Shelf

theorem mayB_small33 {e : Ev} (h : mayB e = true) : e.small := by
  have := mayB_fit h
  exact ⟨by have := this.src; omega, by have := this.per; omega, by have := this.item; omega, by have := this.text; omega⟩
def LogPost33 (w : World) (ds : List Ev) (e : Ending) (w' : World) : Prop :=
  ∃ (bd bj : Nat) (G F : Nat → Prop) (j : Jl), e = .returned (.pointer (some ⟨bj, 0, none⟩)) ∧ JlIn w' G F bj bd j ∧ (∀ b, G b ∨ F b → w.heap.size ≤ b) ∧ RowKit.Below w.heap.size w w' ∧ j.es = ds.map some
/-- the same, and nothing goes wrong in it -/
def LogPostF (w : World) (ds : List Ev) (e : Ending) (w' : World) : Prop :=
  ∃ (bd bj : Nat) (G F : Nat → Prop) (j : Jl), e = .returned (.pointer (some ⟨bj, 0, none⟩)) ∧ JlIn w' G F bj bd j ∧ (∀ b, G b ∨ F b → w.heap.size ≤ b) ∧ RowKit.Below w.heap.size w w' ∧ j.es = ds.map some ∧ j.Fine
theorem app_fine {j : Jl} {es : List Ev} (hf : j.Fine) (hl : j.es.length + es.length ≤ 100) (ha : es.all mayB = true) : (j.app es).Fine ∧ j.appN es = j.es.length ∧ j.appE es = 0 ∧ (j.app es).es = j.es ++ es.map some := by
  have hps := Jl.Fine.puts es hf hl (fun e he => (mayB_fit (List.all_eq_true.1 ha e he)).len)
  unfold Jl.app Jl.appN Jl.appE
  simp only [hf.free, ne_eq, not_true_eq_false, if_false, ha, if_true]
  exact ⟨hps.1, trivial, hps.2.1, hps.2.2.1⟩
set_option maxRecDepth 100000 in
set_option maxHeartbeats 4000000 in
theorem rplogF_any (w : World) (A : Option Addr) (n c : Nat) (ds : List Ev) (h : Evs w w.heap.size A n c ds) (hn : n ≤ 40) (hal : ds.all mayB = true) (per : Nat) (hp : 1 ≤ per) (hp2 : per ≤ 4096) (hmx : MaxAt w) :
    Calls Tryz.prog 10 #[.int .i64 per, .slice A n c] w (LogPostF w ds) := by
  have HH := Lib.hid h
  have HMX := Lib.hid hmx
  have hml := hmx.lt
  have HL := Lib.hid h.len
  have HAL := Lib.hid hal
  have HSM := Lib.hid (show ∀ e ∈ ds, e.small from fun e he => mayB_small33 (List.all_eq_true.1 hal e he))
  have HEV := Lib.hid (show ∀ W, RowKit.Below w.heap.size w W → Evs W W.heap.size A n c ds from fun W hW => Cel.more (Cel.below h hW) hW.size)
  clear h hmx hal
  go_enter Tryz.func10, Tryz.ntmps10
  go_wp2_with fail
  refine (dknew_any w).mono ?_
  rintro r w4 ⟨bd, G4, rfl, hd4, hG4, hb4⟩
  have HD4 := Lib.hid hd4; have HG4 := Lib.hid hG4
  have HB4 := Lib.hid hb4
  have hs4 := hb4.size
  clear hd4 hG4 hb4
  go_wp2_with fail
  refine (jlopen0_any w4 G4 bd Dk.new HD4.out rfl rfl [106] (by decide) per hp hp2).mono ?_
  rintro r w5 ⟨bj, G5, F5, rfl, hj5, hG5, hF5, hk5⟩
  have HJ5 := Lib.hid hj5
  have HLO5 := Lib.hid (show ∀ b, G5 b ∨ F5 b → w.heap.size ≤ b from fun b hb => by
    rcases hb with hb | hb
    · rcases hG5 b hb with h | h
      · exact HG4.out b h
      · omega
    · have := hF5 b hb; omega)
  have HB5 := Lib.hid (show RowKit.Below w.heap.size w w5 from HB4.out.trans (hk5.below hs4 (fun k hk hg => by have := HG4.out k hg; omega)))
  have hs5 := HB5.out.size
  obtain ⟨j0, hj0⟩ : ∃ j0, j0 = Jl.new Dk.new [106] per := ⟨_, rfl⟩
  rw [← hj0] at HJ5
  have hf0 : j0.Fine := by rw [hj0]; exact Jl.fine_new [106] per (by simp) hp
  have he0 : j0.es = [] := by rw [hj0]; rfl
  have hps : (j0.puts ds).Fine ∧ j0.putsE ds = 0 ∧ (j0.puts ds).es = j0.es ++ ds.map some ∧ (j0.puts ds).name = j0.name ∧ (j0.puts ds).per = j0.per := Jl.Fine.puts ds hf0 (by rw [he0, HL.out]; simp; omega) (fun e he => (mayB_fit (List.all_eq_true.1 HAL.out e he)).len)
  have HAP := Lib.hid (show j0.appN ds = 0 ∧ j0.appE ds = 0 ∧ (j0.app ds).es = ds.map some ∧ (j0.app ds).Fine from by
    unfold Jl.app Jl.appN Jl.appE
    simp only [hf0.free, ne_eq, not_true_eq_false, if_false, HAL.out, if_true]
    exact ⟨by rw [he0]; rfl, hps.2.1, by rw [hps.2.2.1, he0]; rfl, hps.1⟩)
  have HAPP := Lib.hid (jlapp_any w5 G5 F5 bj bd j0 HJ5.out A n c ds (HEV.out w5 HB5.out) (fun b off e h0 hg => by
    obtain ⟨b', off', e', hb', _⟩ := Cel.cell HH.out h0
    rw [e'] at e; injection e with e; injection e with e
    have := HLO5.out b hg; omega) HSM.out (by rw [he0, HL.out]; simp; omega) (HMX.out.up HB5.out) ⟨fun hg => by have := HLO5.out _ (.inl hg); omega, fun hg => by have := HLO5.out _ (.inr hg); omega⟩)
  rw [HAP.out.1, HAP.out.2.1] at HAPP
  clear hj5 hG5 hF5 hk5 hj0 hf0 he0 hps
  go_wp2_with fail
  refine HAPP.out.mono ?_
  rintro r w6 ⟨rfl, G6, F6, hj6, hG6, hF6, hk6⟩
  have HR := Lib.hid (show LogPostF w ds (.returned (.pointer (some ⟨bj, 0, none⟩))) w6 from by
    refine ⟨bd, bj, G6, F6, _, rfl, hj6, fun b hb => ?_, HB5.out.trans (hk6.below hs5 (fun k hk hg => by have := HLO5.out k hg; omega)), HAP.out.2.2.1, HAP.out.2.2.2⟩
    rcases hb with hb | hb
    · rcases hG6 b hb with h | h
      · exact HLO5.out b (.inl h)
      · omega
    · rcases hF6 b hb with h | h
      · exact HLO5.out b (.inr h)
      · omega)
  clear hj6 hG6 hF6 hk6 HAPP
  go_wp2
  go_ret
  exact HR.out
theorem rplog_any (w : World) (A : Option Addr) (n c : Nat) (ds : List Ev) (h : Evs w w.heap.size A n c ds) (hn : n ≤ 40) (hal : ds.all mayB = true) (per : Nat) (hp : 1 ≤ per) (hp2 : per ≤ 4096) (hmx : MaxAt w) :
    Calls Tryz.prog 10 #[.int .i64 per, .slice A n c] w (LogPost33 w ds) :=
  (rplogF_any w A n c ds h hn hal per hp hp2 hmx).mono fun _ _ ⟨bd, bj, G, F, j, h1, h2, h3, h4, h5, _⟩ => ⟨bd, bj, G, F, j, h1, h2, h3, h4, h5⟩
end Go.Proofs.YtgbagjpokpchpaaGreatDoor
