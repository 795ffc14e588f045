/-
  Layer 2: the document's Some and Texts.
  Layer 2: the document's All.
  Layer 5: deeds of a journal in memory; heavy.
  Layer 5: a journal is opened on a disk without files.
  Layer 5: the laws' lives.
-/
import Derived.Test.YtejjfhhppjdcaaaGreatDoorORef02
import Derived.Test.YtejjfhhppjdcaaaGreatDoorORMay4
import Derived.Test.YtejjfhhppjdcaaaGreatDoorORJl9
import Derived.Test.YtejjfhhppjdcaaaGreatDoorOJlLd0
import Derived.Test.YtejjfhhppjdcaaaGreatDoorODk7
namespace Go.Proofs.YtejjfhhppjdcaaaGreatDoor
open Go.RowKit Go.Maps Go.Sort

def SmRel (w : World) (es : List Ev) (m : Int) (i : Value) (wr : World) : Prop := ∃ k : Nat, i = .int .i64 k ∧ k ≤ es.length ∧ (∀ d ∈ es.take k, bigB d m = false) ∧ Below w.heap.size w wr
set_option maxRecDepth 100000 in
set_option maxHeartbeats 2000000 in
theorem some_any (w : World) (A : Option Addr) (n c : Nat) (ds : List Ev) (h : Evs w w.heap.size A n c ds) (hn : n ≤ 140737488355328) (m : Int) :
    Calls Tryz.prog 15 #[.slice A n c, .int .i64 m] w (Says (ds.any (fun d => bigB d m)) w) := by
  have HH := Lib.hid h; clear h
  have hl := HH.out.len
  have HL := Lib.hid hl; clear hl
  go_enter Tryz.func15, Tryz.ntmps15
  go_wp2
  go_loopw [5] (fun i wr => SmRel w ds m i wr) (fun i _ => n - (intOf i).toNat)
  case atStart => exact ⟨0, rfl, Nat.zero_le _, fun d hd => by simp at hd, Below.refl _ _⟩
  case round =>
    obtain ⟨k, rfl, hk, hno, hbel⟩ := hrel
    have HNO := Lib.hid hno; clear hno
    have hkL : k ≤ n := by rw [← HL.out]; exact hk
    by_cases hkn : k < n
    · have hkl : k < ds.length := by rw [HL.out]; exact hkn
      obtain ⟨b, off, rfl, hb, hd⟩ := HH.out.ev k hkl
      obtain ⟨e0, e1, e2, e3, e4, e5, e6, e7⟩ := hd.below hbel hb
      have HT := Lib.hid (show bigB ds[k] m = false → ∀ d ∈ ds.take (k + 1), bigB d m = false from fun h d hd => by
        rw [List.take_add_one, List.getElem?_eq_getElem hkl, Option.toList_some] at hd
        rcases List.mem_append.1 hd with hd | hd
        · exact HNO.out d hd
        · simp at hd; subst hd; exact h)
      have HY := Lib.hid (show bigB ds[k] m = true → ds.any (fun d => bigB d m) = true from fun h => List.any_eq_true.2 ⟨_, List.getElem_mem hkl, h⟩)
      generalize ds[k] = d at *
      have t1 : (k : Int) < n := by omega
      go_wp2_with fail
      refine (big_any wr d m).mono ?_
      rintro r w2 ⟨rfl, hb2⟩
      have hbw2 : Below w.heap.size w w2 := hbel.trans (hb2.mono hbel.size)
      clear hb2 e0 e1 e2 e3 e4 e5 e6 e7 hd
      cases hbg : bigB d m
      · have HT' := Lib.hid (HT.out hbg)
        clear hbg
        go_wp2
        go_roundw
        case rel => exact ⟨k + 1, by go_num, by omega, HT'.out, hbw2⟩
        case measure => simp [intOf]; omega
      · have HY' := Lib.hid (HY.out hbg)
        clear hbg
        go_wp2
        go_ret
        exact ⟨ret_bool (by rw [HY'.out]), hbw2⟩
    · have HZ := Lib.hid (show ds.any (fun d => bigB d m) = false by
        rw [List.any_eq_false]
        intro d hd
        have := HNO.out d (by rw [List.take_of_length_le (by rw [HL.out]; omega)]; exact hd)
        simp [this])
      have t1 : ¬ (k : Int) < n := by omega
      go_wp2
      go_ret
      exact ⟨ret_bool (by rw [HZ.out]), hbel⟩
set_option maxHeartbeats 1000000 in
theorem texts_any (w : World) (B B' : Nat) (A A' : Option Addr) (n c c' : Nat) (ss : List (List UInt8)) (h : Strs w B A n c ss) (h' : Strs w B' A' n c' ss) (hn : n ≤ 100000) :
    Calls Tryz.prog 21 #[.slice A n c, .slice A' n c'] w fun e w' => e = .returned (.bool true) ∧ ∃ k, w' = w.drewN k := by
  have HH := Lib.hid h; clear h
  have HH' := Lib.hid h'; clear h'
  have hnn : ((n : Int) != (n : Int)) = false := by simp
  go_enter Tryz.func21, Tryz.ntmps21
  go_wp2
  clear hnn
  go_loopw [5] (fun i wr => ∃ k q : Nat, i = .int .i64 k ∧ k ≤ n ∧ wr = w.drewN q) (fun i _ => n - (intOf i).toNat)
  case atStart => exact ⟨0, 0, rfl, Nat.zero_le _, rfl⟩
  case round =>
    obtain ⟨k, q, rfl, hk, rfl⟩ := hrel
    by_cases hkn : k < n
    · have hkl : k < ss.length := by rw [HH.out.len]; exact hkn
      obtain ⟨b, off, rfl, hb, hc⟩ := HH.out.at_ k hkl
      obtain ⟨b', off', rfl, hb', hc'⟩ := HH'.out.at_ k hkl
      have t1 : (k : Int) < n := by omega
      generalize ss[k] = x at *
      have t5 : (!(x == x)) = false := by simp
      go_wp2
      go_quiet (fail)
      go_wp2
      go_roundw
      case rel => exact ⟨k + 1, _, by go_num, by omega, rfl⟩
      case measure => simp [intOf]; omega
    · go_wp2
      go_ret
      exact ⟨rfl, _, rfl⟩
end Go.Proofs.YtejjfhhppjdcaaaGreatDoor
namespace Go.Proofs.YtejjfhhppjdcaaaGreatDoor
open Go.RowKit Go.Maps Go.Sort

def AlRel (w : World) (es : List Ev) (i : Value) (wr : World) : Prop := ∃ k : Nat, i = .int .i64 k ∧ k ≤ es.length ∧ (∀ d ∈ es.take k, mayB d = true) ∧ Below w.heap.size w wr
set_option maxRecDepth 100000 in
set_option maxHeartbeats 2000000 in
theorem all02_any (w : World) (A : Option Addr) (n c : Nat) (ds : List Ev) (h : Evs w w.heap.size A n c ds) (hn : n ≤ 140737488355328) (hs : ∀ e ∈ ds, e.small) :
    Calls Tryz.prog 16 #[.slice A n c] w (Says (ds.all mayB) w) := by
  have HH := Lib.hid h; have HS := Lib.hid hs; clear h hs
  have hl := HH.out.len
  have HL := Lib.hid hl; clear hl
  go_enter Tryz.func16, Tryz.ntmps16
  go_wp2
  go_loopw [3] (fun i wr => AlRel w ds i wr) (fun i _ => n - (intOf i).toNat)
  case atStart => exact ⟨0, rfl, Nat.zero_le _, fun d hd => by simp at hd, Below.refl _ _⟩
  case round =>
    obtain ⟨k, rfl, hk, hno, hbel⟩ := hrel
    have HNO := Lib.hid hno; clear hno
    have hkL : k ≤ n := by rw [← HL.out]; exact hk
    by_cases hkn : k < n
    · have hkl : k < ds.length := by rw [HL.out]; exact hkn
      obtain ⟨b, off, rfl, hb, hd⟩ := HH.out.ev k hkl
      obtain ⟨e0, e1, e2, e3, e4, e5, e6, e7⟩ := hd.below hbel hb
      have HT := Lib.hid (show mayB ds[k] = true → ∀ d ∈ ds.take (k + 1), mayB d = true from fun h d hd => by
        rw [List.take_add_one, List.getElem?_eq_getElem hkl, Option.toList_some] at hd
        rcases List.mem_append.1 hd with hd | hd
        · exact HNO.out d hd
        · simp at hd; subst hd; exact h)
      have HY := Lib.hid (show mayB ds[k] = false → ds.all mayB = false from fun h => List.all_eq_false.2 ⟨_, List.getElem_mem hkl, by simp [h]⟩)
      have HSM := Lib.hid (HS.out _ (List.getElem_mem hkl))
      generalize ds[k] = d at *
      have t1 : (k : Int) < n := by omega
      go_wp2_with fail
      refine (rmay_any wr d HSM.out).mono ?_
      rintro r w2 ⟨rfl, hb2⟩
      have hbw2 : Below w.heap.size w w2 := hbel.trans (hb2.mono hbel.size)
      clear hb2 e0 e1 e2 e3 e4 e5 e6 e7 hd
      cases hbg : mayB d
      · have HY' := Lib.hid (HY.out hbg)
        clear hbg
        go_wp2
        go_ret
        exact ⟨ret_bool (by rw [HY'.out]), hbw2⟩
      · have HT' := Lib.hid (HT.out hbg)
        clear hbg
        go_wp2
        go_roundw
        case rel => exact ⟨k + 1, by go_num, by omega, HT'.out, hbw2⟩
        case measure => simp [intOf]; omega
    · have HZ := Lib.hid (show ds.all mayB = true by
        rw [List.all_eq_true]
        intro d hd
        exact HNO.out d (by rw [List.take_of_length_le (by rw [HL.out]; omega)]; exact hd))
      have t1 : ¬ (k : Int) < n := by omega
      go_wp2
      go_ret
      exact ⟨ret_bool (by rw [HZ.out]), hbel⟩
end Go.Proofs.YtejjfhhppjdcaaaGreatDoor
namespace Go.Proofs.YtejjfhhppjdcaaaGreatDoor
open Go.RowKit Go.Maps Go.Sort

/-- a deed at a journal -/
structure Dj where
  kind : Int
  l : List Ev
  per : List UInt8
  from_ : Int
  n : Int
instance : Inhabited Dj := ⟨⟨0, [], [], 0, 0⟩⟩
def DjAt (w : World) (B b o : Nat) (d : Dj) : Prop :=
  w.cell? ⟨b, o, none⟩ = some (.int .u8 d.kind) ∧
  (∃ A n c, w.cell? ⟨b, o + 1, none⟩ = some (.slice A n c) ∧ Evs w B A n c d.l ∧ n ≤ 140737488355328) ∧
  w.cell? ⟨b, o + 2, none⟩ = some (.string ⟨d.per.toArray⟩) ∧ w.cell? ⟨b, o + 3, none⟩ = some (.int .i64 d.from_) ∧ w.cell? ⟨b, o + 4, none⟩ = some (.int .i64 d.n)
theorem DjAt.below {w w' : World} {B b o : Nat} {d : Dj} (h : DjAt w B b o d) (hb : RowKit.Below B w w') (hB : b < B) : DjAt w' B b o d := by
  obtain ⟨h0, ⟨A, n, c, h1, h1', h1''⟩, h2, h3, h4⟩ := h
  have key : ∀ (o : Nat) u, w.cell? ⟨b, o, none⟩ = some u → w'.cell? ⟨b, o, none⟩ = some u := fun o u hu => (hb.cell (p := ⟨b, o, none⟩) hB).trans hu
  exact ⟨key _ _ h0, ⟨A, n, c, key _ _ h1, Cel.below h1' hb, h1''⟩, key _ _ h2, key _ _ h3, key _ _ h4⟩
structure Djs (w : World) (B : Nat) (A : Option Addr) (n c : Nat) (ds : List Dj) : Prop where
  len : ds.length = n
  cap : n ≤ c
  max : c ≤ maxLen
  at_ : ∀ k (h : k < ds.length), ∃ b off, A = some ⟨b, off, none⟩ ∧ b < B ∧ DjAt w B b (off + k * 5) ds[k]
theorem Djs.below {w w' : World} {B n c : Nat} {A : Option Addr} {ds : List Dj} (h : Djs w B A n c ds) (hb : RowKit.Below B w w') : Djs w' B A n c ds :=
  ⟨h.len, h.cap, h.max, fun k hk => by
    obtain ⟨b, off, e, hB, hd⟩ := h.at_ k hk
    exact ⟨b, off, e, hB, hd.below hb hB⟩⟩
def bigL (ds : List Ev) : Bool := ds.any (fun d => bigB d 300)
def sumL (ds : List Dj) : Nat := (ds.map (·.l.length)).sum
def heavyB (ds : List Dj) : Bool := ds.any (fun d => bigL d.l) || (decide (20 < ds.length) || decide (60 < sumL ds))
theorem sumL_snoc (ds : List Dj) (k : Nat) (hk : k < ds.length) : sumL (ds.take (k + 1)) = sumL (ds.take k) + ds[k].l.length := by
  unfold sumL
  rw [List.take_add_one, List.getElem?_eq_getElem hk, Option.toList_some, List.map_append, List.sum_append]; simp
def HvRel (w : World) (ds : List Dj) (a i : Value) (wr : World) : Prop := ∃ (k : Nat) (v : Int), i = .int .i64 k ∧ k ≤ ds.length ∧ a = .int .i64 v ∧ (ds.length ≤ 20 → v = sumL (ds.take k) ∧ sumL (ds.take k) ≤ k * 140737488355328) ∧ (∀ d ∈ ds.take k, bigL d.l = false) ∧ RowKit.Below w.heap.size w wr
set_option maxRecDepth 100000 in
set_option maxHeartbeats 4000000 in
theorem heavy05_any (w : World) (A : Option Addr) (n c : Nat) (ds : List Dj) (h : Djs w w.heap.size A n c ds) (hn : n ≤ 140737488355328) :
    Calls Tryz.prog 33 #[.slice A n c] w (Says (heavyB ds) w) := by
  have HH := Lib.hid h; clear h
  have hl := HH.out.len
  have HL := Lib.hid hl; clear hl
  have HST := Lib.hid (show HvRel w ds (.int .i64 0) (.int .i64 ((0 : Nat) : Int)) w from ⟨0, 0, rfl, Nat.zero_le _, rfl, fun _ => ⟨rfl, by simp [sumL]⟩, by simp, Below.refl _ _⟩)
  go_enter Tryz.func33, Tryz.ntmps33
  go_wp2
  go_loopw [3, 4] (fun a i wr => HvRel w ds a i wr) (fun _ i _ => n - (intOf i).toNat)
  case atStart => exact HST.out
  case round =>
    obtain ⟨k, v, rfl, hk, rfl, hsum, hno, hbel⟩ := hrel
    have HNO := Lib.hid hno; clear hno
    have HSM := Lib.hid hsum; clear hsum
    have hkL : k ≤ n := by rw [← HL.out]; exact hk
    have hsz := hbel.size
    by_cases hkn : k < n
    · have hkl : k < ds.length := by rw [HL.out]; exact hkn
      obtain ⟨b, off, rfl, hb, hd⟩ := HH.out.at_ k hkl
      obtain ⟨_, ⟨A1, n1, c1, e1, hev, hn1⟩, _⟩ := hd.below hbel hb
      have HEV := Lib.hid (show Evs wr wr.heap.size A1 n1 c1 ds[k].l from Cel.more hev hsz)
      have HT := Lib.hid (show bigL ds[k].l = false → ∀ d ∈ ds.take (k + 1), bigL d.l = false from fun h d hd => by
        rw [List.take_add_one, List.getElem?_eq_getElem hkl, Option.toList_some] at hd
        rcases List.mem_append.1 hd with hd | hd
        · exact HNO.out d hd
        · simp at hd; subst hd; exact h)
      have HY := Lib.hid (show bigL ds[k].l = true → heavyB ds = true from fun h => by
        unfold heavyB; rw [List.any_eq_true.2 ⟨_, List.getElem_mem hkl, h⟩]; rfl)
      have HSS := Lib.hid (sumL_snoc ds k hkl)
      have HLN := Lib.hid (show ds[k].l.length = n1 from HEV.out.len)
      have HN := Lib.hid (show ∀ v2 : Int, (ds.length ≤ 20 → v2 = v + n1) → (ds.length ≤ 20 → v2 = sumL (ds.take (k + 1)) ∧ sumL (ds.take (k + 1)) ≤ (k + 1) * 140737488355328) from fun v2 h h20 => by
        obtain ⟨a1, a2⟩ := HSM.out h20
        have a3 := h h20
        rw [HSS.out, HLN.out]
        refine ⟨by rw [a3, a1]; simp, ?_⟩
        rw [Nat.succ_mul]; omega)
      have HV20 := Lib.hid (show ds.length ≤ 20 → 0 ≤ v ∧ v ≤ 2814749767106560 from fun h => by
        obtain ⟨a1, a2⟩ := HSM.out h
        have : k * 140737488355328 ≤ 20 * 140737488355328 := Nat.mul_le_mul_right _ (by omega)
        omega)
      generalize ds[k].l = l1 at *
      clear hd hev hb
      have t1 : (k : Int) < n := by omega
      obtain ⟨v2, hv2⟩ : ∃ v2, v2 = wrap64 (v + n1) := ⟨_, rfl⟩
      have HN2 := Lib.hid (HN.out v2 (fun h => by have := HV20.out h; rw [hv2]; unfold wrap64; omega))
      have hv3 := hv2.symm
      clear hv2 HN HV20
      go_wp2_with fail
      refine (some_any wr A1 n1 c1 l1 HEV.out hn1 300).mono ?_
      rintro r w2 ⟨rfl, hb2⟩
      have hbw2 : RowKit.Below w.heap.size w w2 := hbel.trans (hb2.mono hbel.size)
      clear hb2
      cases hbg : bigL l1
      · have HT' := Lib.hid (HT.out hbg)
        have hbg' : (l1.any fun d => bigB d 300) = false := hbg
        clear hbg
        rw [hbg']
        clear hbg'
        go_wp2
        go_roundw
        case rel => exact ⟨k + 1, v2, by go_num, by omega, by first | rfl | (rw [hv3]), HN2.out, HT'.out, hbw2⟩
        case measure => simp [intOf]; omega
      · have HY' := Lib.hid (HY.out hbg)
        have hbg' : (l1.any fun d => bigB d 300) = true := hbg
        clear hbg
        rw [hbg']
        clear hbg'
        go_wp2
        go_ret
        exact ⟨ret_bool (by rw [HY'.out]), hbw2⟩
    · have hany : ds.any (fun d => bigL d.l) = false := by
        rw [List.any_eq_false]
        intro d hd
        have := HNO.out d (by rw [List.take_of_length_le (by rw [HL.out]; omega)]; exact hd)
        simp [this]
      have t1 : ¬ (k : Int) < n := by omega
      by_cases h20 : (20 : Int) < n
      · have HZ := Lib.hid (show heavyB ds = true by unfold heavyB; rw [hany, decide_eq_true (by rw [HL.out]; omega)]; rfl)
        clear hany
        go_wp2
        go_ret
        exact ⟨ret_bool (by rw [HZ.out]), hbel⟩
      · obtain ⟨a1, a2⟩ := HSM.out (by rw [HL.out]; omega)
        have hs : sumL (ds.take k) = sumL ds := by rw [List.take_of_length_le (by rw [HL.out]; omega)]
        have HZ := Lib.hid (show heavyB ds = decide ((60 : Int) < v) by
          unfold heavyB; rw [hany, decide_eq_false (show ¬ 20 < ds.length by rw [HL.out]; omega), a1, hs]
          simp; norm_cast)
        clear hany a1 a2 hs
        go_wp2
        go_ret
        exact ⟨ret_bool (by rw [HZ.out]), hbel⟩
end Go.Proofs.YtejjfhhppjdcaaaGreatDoor
namespace Go.Proofs.YtejjfhhppjdcaaaGreatDoor
open Go.RowKit Go.Maps Go.Sort Go.Shelf

set_option maxRecDepth 100000 in
set_option maxHeartbeats 2000000 in
/-- nothing is found on a disk without files -/
theorem jlfind0_any (w : World) (G F : Nat → Prop) (bj bd : Nat) (j : Jl) (h : JlIn w G F bj bd j) (hf : j.dk.files = []) (hfl : j.files = 0) :
    Calls Tryz.prog 63 #[.pointer (some ⟨bj, 0, none⟩)] w fun e w' => e = .returned (.bool true) ∧ JlD w G F bj bd j w' := by
  have hmm := @run_makeMap Tryz.prog
  have HI := Lib.hid h
  have hlt := h.lt
  obtain ⟨ho, v, hj⟩ := h
  obtain ⟨c0, c1, c2, c3, c4, c5, c6⟩ := hj.cells
  have c3f := hj.frozen 3
  have hbj := hj.lt _ hj.fj
  have HDK := Lib.hid hj.dk
  have HJ := Lib.hid hj; have HO := Lib.hid ho
  have hb1 : Below w.heap.size w (w.alloc (.map #[] 0)) := (Below.refl _ _).alloc (Nat.le_refl _) _
  have HB1 := Lib.hid hb1
  have HNM := Lib.hid (show Calls Tryz.prog 20 #[.pointer (some ⟨bd, 0, none⟩)] (w.alloc (.map #[] 0)) (SrcPost (w.alloc (.map #[] 0)) []) from by
    have := dknames_any (w.alloc (.map #[] 0)) G bd j.dk (hj.dk.up hb1)
    rw [hf] at this; exact this)
  clear ho hj c1 c2 c4 c5 c6 hb1 hlt
  go_enter Tryz.func63, Tryz.ntmps63
  go_wp2_with fail
  with_reducible refine HNM.out.mono ?_
  rintro r w2 ⟨vn, rfl, hrow, hb2⟩
  obtain ⟨An, cn, hvn⟩ := ownsRow_form hrow
  have HB2 := Lib.hid (HB1.out.trans (hb2.mono HB1.out.size))
  have hm2 : MapS w2 w.heap.size [] := ((MapS.made w).block (hb2.block _ (by simp)))
  have hlen : ∀ ty, (Builtin.len_ #[134] ty #[.map (some w.heap.size)]).run Tryz.prog w2 = .ok (.int .i64 0) w2 := fun ty => hm2.len 134 _ Tryz.underlying134 ty
  have d3 : w2.cell? ⟨bj, 3, none⟩ = some (.int .i64 j.files) := (HB2.out.cell (p := ⟨bj, 3, none⟩) hbj).trans c3
  have d3f : w2.frozen? ⟨bj, 3, none⟩ = false := (HB2.out.frozen (p := ⟨bj, 3, none⟩) hbj).trans c3f
  subst hvn
  have HR := Lib.hid (show JlD w G F bj bd j (w2.setCell ⟨bj, 3, none⟩ (.int .i64 0)) from by
    have h2 := HJ.out.up HB2.out
    refine ⟨G, F, ⟨HO.out, v, h2.setc rfl rfl ?_⟩, fun _ h => .inl h, fun _ h => .inl h, (Keep.of_below HB2.out).setCell (p := ⟨bj, 3, none⟩) (fun _ => .inr HJ.out.fj) _⟩
    rw [heap_set_row h2.blk, hfl]; simp [jlObj, hfl])
  clear c0 c3 c3f hrow hb2 hm2
  go_wp2
  go_loopw [16] (fun i wr => i = .int .i64 0 ∧ wr = w2) (fun _ _ => 0)
  case atStart => exact ⟨rfl, rfl⟩
  case round =>
    obtain ⟨rfl, rfl⟩ := hrel
    go_wp2
    go_loopw [40] (fun i wz => i = .int .i64 0 ∧ wz = wr) (fun _ _ => 0)
    case atStart => exact ⟨rfl, rfl⟩
    case round =>
      obtain ⟨rfl, rfl⟩ := hrel
      go_wp2
      go_ret
      exact ⟨rfl, HR.out⟩
def OpenPost (w : World) (G : Nat → Prop) (bd : Nat) (j : Jl) (e : Ending) (w' : World) : Prop := ∃ bj G' F, e = .returned (.tuple #[.pointer (some ⟨bj, 0, none⟩), .int .i64 0]) ∧ JlIn w' G' F bj bd j ∧ (∀ b, G' b → G b ∨ w.heap.size ≤ b) ∧ (∀ b, F b → w.heap.size ≤ b) ∧ Keep G w w'
set_option maxRecDepth 100000 in
set_option maxHeartbeats 2000000 in
theorem jlopen0_any (w : World) (G : Nat → Prop) (bd : Nat) (d : Dk) (h : DkIn w G bd d) (hf : d.files = []) (hd : d.down = false) (s : List UInt8) (hs : nameB s = true) (per : Nat) (hp : 1 ≤ per) (hp2 : per ≤ 4096) :
    Calls Tryz.prog 18 #[.pointer (some ⟨bd, 0, none⟩), .string ⟨s.toArray⟩, .int .i64 per] w (OpenPost w G bd (Jl.new d s per)) := by
  have hnl := (nameB_len hs).2
  have HNB := Lib.hid (show Calls Tryz.prog 61 #[.string ⟨s.toArray⟩] w fun e w' => e = .returned (.bool true) ∧ w = w' from by have := name_all w s; rw [hs] at this; exact this)
  have HDN := Lib.hid (show Calls Tryz.prog 62 #[.pointer (some ⟨bd, 0, none⟩)] w fun e w' => e = .returned (.bool false) ∧ w = w' from by
    obtain ⟨_, bm, B, V, h⟩ := h
    have := dkdown_any w G bd bm d B V h; rw [hd] at this; exact this)
  have hlt := h.lt
  have hb1 : Below w.heap.size w (w.alloc (jlObj bd (.slice none 0 0) (Jl.new d s per))) := (Below.refl _ _).alloc (Nat.le_refl _) _
  have HJ1 := Lib.hid (show JlIn (w.alloc (jlObj bd (.slice none 0 0) (Jl.new d s per))) G (· = w.heap.size) w.heap.size bd (Jl.new d s per) from by
    refine ⟨⟨hp, hp2, hnl, by simp [Jl.new], by simp [Jl.new], by simp [Jl.new], by simp [Jl.new]⟩, .slice none 0 0, ⟨h.up hb1, heap_alloc_new w _, World.ownsRow_nil _ _ _ _, rfl, fun b hb => (by cases hb), fun b hb hg => ?_, fun b hb => ?_⟩⟩
    · have := hlt b hg; subst hb; omega
    · subst hb; simp)
  have HB1 := Lib.hid hb1
  have HF := Lib.hid (jlfind0_any _ G (· = w.heap.size) w.heap.size bd (Jl.new d s per) HJ1.out hf rfl)
  have HLT := Lib.hid hlt
  clear hb1 h hs hf hd hlt
  go_enter Tryz.func18, Tryz.ntmps18
  go_wp2_with fail
  refine HNB.out.mono ?_
  rintro r w0 ⟨rfl, rfl⟩
  go_wp2_with fail
  refine HDN.out.mono ?_
  rintro r w0 ⟨rfl, rfl⟩
  go_wp2_with fail
  refine HF.out.mono ?_
  rintro r w2 ⟨rfl, hd2⟩
  obtain ⟨G2, F2, ⟨ho2, v2, hj2⟩, hG2, hF2, hk2⟩ := hd2
  have hs1 := HB1.out.size
  obtain ⟨c0, c1, c2, c3, c4, c5, c6⟩ := hj2.cells
  obtain ⟨A2, cp2, hv2⟩ := ownsRow_form hj2.own
  have c5f := hj2.frozen 5
  have HR := Lib.hid (show OpenPost w G bd (Jl.new d s per) (.returned (.tuple #[.pointer (some ⟨w.heap.size, 0, none⟩), .int .i64 0])) (w2.setCell ⟨w.heap.size, 5, none⟩ (.int .i64 0)) from by
    refine ⟨w.heap.size, G2, F2, rfl, ⟨ho2, v2, hj2.setc rfl rfl ?_⟩, fun b hb => ?_, fun b hb => ?_, ?_⟩
    · rw [heap_set_row hj2.blk]; rfl
    · rcases hG2 b hb with h | h
      · exact .inl h
      · right; omega
    · rcases hF2 b hb with h | h
      · omega
      · omega
    · refine ((Keep.of_below HB1.out).trans hk2 (fun b hb hg => ?_)).setCell (p := ⟨w.heap.size, 5, none⟩) (fun hb => ?_) _
      · rcases hg with h | h
        · exact h
        · omega
      · exact absurd hb (by show ¬ w.heap.size < w.heap.size; omega))
  rw [hv2] at c4
  have hne : (Jl.new d s per).es.length = 0 := rfl
  rw [hne] at c4
  have hnf : (((Jl.new d s per).files : Nat) : Int) = 0 := rfl
  rw [hnf] at c3
  clear hj2 ho2 hG2 hF2 hk2 hv2 c0 c1 c2 c6 hne hnf
  go_wp2
  go_loopw [40] (fun i wz => i = .int .i64 0 ∧ wz = w2) (fun _ _ => 0)
  case atStart => exact ⟨rfl, rfl⟩
  case round =>
    obtain ⟨rfl, rfl⟩ := hrel
    go_wp2
    go_ret2
    exact HR.out
end Go.Proofs.YtejjfhhppjdcaaaGreatDoor
namespace Go.Proofs.YtejjfhhppjdcaaaGreatDoor
open Go.RowKit Go.Maps Go.Sort Go.Shelf

def exF : Ev := ⟨[115], 1, 0, 14, [112], [], 0, []⟩
def exN : Jl := Jl.new Dk.new [106] 2
theorem ex_app : exN.appN [exF, exF, exF] = 0 ∧ exN.appE [exF, exF, exF] = 0 ∧ (exN.app [exF, exF, exF]).es.length = 3 ∧ (exN.app [exF, exF, exF]).lasts = 2 ∧ (exN.app [exF, exF, exF]).dk.files.map (·.1) = [[106, 46, 48], [106, 46, 49]] := by decide +kernel
theorem exF_small : ∀ e ∈ [exF, exF, exF], e.small := fun e he => by
  simp only [List.mem_cons, List.not_mem_nil, or_false, or_self] at he
  subst he; exact ⟨by simp [exF], by simp [exF], by simp [exF], by simp [exF]⟩
set_option maxRecDepth 100000 in
set_option maxHeartbeats 2000000 in
theorem jlives_any (w : World) (hmx : MaxAt w) : Calls Tryz.prog 14 #[] w (Says true w) := by
  have HMX := Lib.hid hmx
  have hmlt := hmx.lt
  clear hmx
  go_enter Tryz.func14, Tryz.ntmps14
  go_wp2_with fail
  refine (dknew_any w).mono ?_
  rintro r w1 ⟨bd, G1, rfl, hd1, hG1, hb1⟩
  have HD1 := Lib.hid hd1; have HG1 := Lib.hid hG1; have HB1 := Lib.hid hb1
  clear hd1 hG1 hb1
  go_wp2_with fail
  refine (jlopen0_any w1 G1 bd Dk.new HD1.out rfl rfl [106] (by decide) 2 (by omega) (by omega)).mono ?_
  rintro r w2 ⟨bj, G2, F2, rfl, hj2, hG2, hF2, hk2⟩
  have hs1 := HB1.out.size
  have HJ2 := Lib.hid (show JlIn w2 G2 F2 bj bd exN from hj2)
  have HG2 := Lib.hid (show ∀ b, G2 b ∨ F2 b → w.heap.size ≤ b from fun b hb => by
    rcases hb with h | h
    · rcases hG2 b h with h | h
      · exact HG1.out b h
      · omega
    · have := hF2 b h; omega)
  have HB2 := Lib.hid (show Below w.heap.size w w2 from HB1.out.trans (hk2.below hs1 (fun k hk hg => by have := HG1.out k hg; omega)))
  clear hj2 hG2 hF2 hk2
  go_upto_region 6 with fail
  have HB3 := Lib.hid (HB2.out.alloc HB2.out.size (evObj exF))
  have HJ3 := Lib.hid (HJ2.out.up (show Below w2.heap.size w2 (w2.alloc (evObj exF)) from (Below.refl _ _).alloc (Nat.le_refl _) _))
  have HJ3' := Lib.hid (show exN.app [exF, exF, exF] = exN.app [exF, exF, exF] from rfl)
  have hin := EvIn.new w2 exF
  have hb3 : w2.heap.size < (w2.alloc (evObj exF)).heap.size := by simp
  have hmx3 := HMX.out.up HB3.out
  obtain ⟨w3, hw3⟩ : ∃ w3, w3 = w2.alloc (evObj exF) := ⟨_, rfl⟩
  rw [← hw3] at HB3 HJ3 hin hb3 hmx3
  rw [show w2.alloc (.cells #[.string ⟨#[115]⟩, .int .i64 1, .int .i64 0, .int .i64 14, .string ⟨#[112]⟩, .string ⟨#[]⟩, .int .i64 0, .string ⟨#[]⟩] 36) = w3 from hw3.symm]
  have HMX3 := Lib.hid hmx3
  obtain ⟨e0, e1, e2, e3, e4, e5, e6, e7⟩ := hin
  simp only [exF] at e0 e1 e2 e3 e4 e5 e6 e7
  have HEV := Lib.hid (show Evs (w3.alloc (.cells #[.string ⟨#[115]⟩, .int .i64 1, .int .i64 0, .int .i64 14, .string ⟨#[112]⟩, .string ⟨#[]⟩, .int .i64 0, .string ⟨#[]⟩, .string ⟨#[115]⟩, .int .i64 1, .int .i64 0, .int .i64 14, .string ⟨#[112]⟩, .string ⟨#[]⟩, .int .i64 0, .string ⟨#[]⟩, .string ⟨#[115]⟩, .int .i64 1, .int .i64 0, .int .i64 14, .string ⟨#[112]⟩, .string ⟨#[]⟩, .int .i64 0, .string ⟨#[]⟩] 36)) (w3.heap.size + 1) (some ⟨w3.heap.size, 0, none⟩) 3 3 [exF, exF, exF] from
    Cel.new (size := 8) (n := 3) w3 #[.string ⟨#[115]⟩, .int .i64 1, .int .i64 0, .int .i64 14, .string ⟨#[112]⟩, .string ⟨#[]⟩, .int .i64 0, .string ⟨#[]⟩, .string ⟨#[115]⟩, .int .i64 1, .int .i64 0, .int .i64 14, .string ⟨#[112]⟩, .string ⟨#[]⟩, .int .i64 0, .string ⟨#[]⟩, .string ⟨#[115]⟩, .int .i64 1, .int .i64 0, .int .i64 14, .string ⟨#[112]⟩, .string ⟨#[]⟩, .int .i64 0, .string ⟨#[]⟩] 36 (by unfold maxLen; omega) rfl)
  have HB4 := Lib.hid (show Below w3.heap.size w3 (w3.alloc (.cells #[.string ⟨#[115]⟩, .int .i64 1, .int .i64 0, .int .i64 14, .string ⟨#[112]⟩, .string ⟨#[]⟩, .int .i64 0, .string ⟨#[]⟩, .string ⟨#[115]⟩, .int .i64 1, .int .i64 0, .int .i64 14, .string ⟨#[112]⟩, .string ⟨#[]⟩, .int .i64 0, .string ⟨#[]⟩, .string ⟨#[115]⟩, .int .i64 1, .int .i64 0, .int .i64 14, .string ⟨#[112]⟩, .string ⟨#[]⟩, .int .i64 0, .string ⟨#[]⟩] 36)) from (Below.refl _ _).alloc (Nat.le_refl _) _)
  have HS4 := Lib.hid (show (w3.alloc (.cells #[.string ⟨#[115]⟩, .int .i64 1, .int .i64 0, .int .i64 14, .string ⟨#[112]⟩, .string ⟨#[]⟩, .int .i64 0, .string ⟨#[]⟩, .string ⟨#[115]⟩, .int .i64 1, .int .i64 0, .int .i64 14, .string ⟨#[112]⟩, .string ⟨#[]⟩, .int .i64 0, .string ⟨#[]⟩, .string ⟨#[115]⟩, .int .i64 1, .int .i64 0, .int .i64 14, .string ⟨#[112]⟩, .string ⟨#[]⟩, .int .i64 0, .string ⟨#[]⟩] 36)).heap.size = w3.heap.size + 1 by simp)
  clear hw3 hmx3
  go_wp2_with fail
  clear e0 e1 e2 e3 e4 e5 e6 e7
  generalize w3.alloc (.cells #[.string ⟨#[115]⟩, .int .i64 1, .int .i64 0, .int .i64 14, .string ⟨#[112]⟩, .string ⟨#[]⟩, .int .i64 0, .string ⟨#[]⟩, .string ⟨#[115]⟩, .int .i64 1, .int .i64 0, .int .i64 14, .string ⟨#[112]⟩, .string ⟨#[]⟩, .int .i64 0, .string ⟨#[]⟩, .string ⟨#[115]⟩, .int .i64 1, .int .i64 0, .int .i64 14, .string ⟨#[112]⟩, .string ⟨#[]⟩, .int .i64 0, .string ⟨#[]⟩] 36) = w4 at *
  have hlt3 := HJ3.out.lt
  refine (jlapp_any w4 G2 F2 bj bd exN (HJ3.out.up HB4.out) _ 3 3 [exF, exF, exF] (by have := HEV.out; rw [← HS4.out] at this; exact this) (fun b off e _ h => by injection e with e; injection e with e; have := hlt3 b h; omega) exF_small (by simp [exN, Jl.new]) (HMX3.out.up HB4.out) ⟨fun h => by have := HG2.out _ (.inl h); omega, fun h => by have := HG2.out _ (.inr h); omega⟩).mono ?_
  rintro r w5 ⟨rfl, hd5⟩
  rw [ex_app.1, ex_app.2.1]
  obtain ⟨G5, F5, hj5, hG5, hF5, hk5⟩ := hd5
  have hs4 := HB4.out.size
  have hs3 := HB3.out.size
  have HB5 := Lib.hid (show Below w.heap.size w w5 from (HB3.out.trans (HB4.out.mono hs3)).trans (hk5.below (by omega) (fun k hk hg => by have := HG2.out k hg; omega)))
  have HJ5 := Lib.hid hj5
  clear hG5 hF5 hk5 hj5 hlt3
  have HNM := Lib.hid (show Calls Tryz.prog 20 #[.pointer (some ⟨bd, 0, none⟩)] w5 (SrcPost w5 [[106, 46, 48], [106, 46, 49]]) from by
    have := dknames_any w5 G5 bd _ HJ5.out.dk
    rw [ex_app.2.2.2.2] at this; exact this)
  go_wp2_with fail
  refine HNM.out.mono ?_
  rintro r w6 ⟨v6, rfl, hrow6, hb6⟩
  obtain ⟨A6, c6, hv6⟩ := ownsRow_form hrow6
  subst hv6
  have HJ6 := Lib.hid (HJ5.out.up hb6)
  have HB6 := Lib.hid (HB5.out.trans (hb6.mono HB5.out.size))
  have hst6 : Strs w6 w6.heap.size A6 2 c6 [[106, 46, 48], [106, 46, 49]] := Cel.of_own hrow6
  have HST6 := Lib.hid hst6
  clear hrow6 hb6 hst6
  have HST7 := Lib.hid (show Strs (w6.alloc (.cells #[.string ⟨#[106, 46, 48]⟩, .string ⟨#[106, 46, 49]⟩] 9)) (w6.heap.size + 1) (some ⟨w6.heap.size, 0, none⟩) 2 2 [[106, 46, 48], [106, 46, 49]] from
    Cel.new (size := 1) (n := 2) w6 #[.string ⟨#[106, 46, 48]⟩, .string ⟨#[106, 46, 49]⟩] 9 (by unfold maxLen; omega) rfl)
  have HB7 := Lib.hid (show Below w6.heap.size w6 (w6.alloc (.cells #[.string ⟨#[106, 46, 48]⟩, .string ⟨#[106, 46, 49]⟩] 9)) from (Below.refl _ _).alloc (Nat.le_refl _) _)
  go_wp2_with fail
  generalize w6.alloc (.cells #[.string ⟨#[106, 46, 48]⟩, .string ⟨#[106, 46, 49]⟩] 9) = w7 at *
  have HJ7 := Lib.hid (HJ6.out.up HB7.out)
  have HB70 := Lib.hid (HB6.out.trans (HB7.out.mono HB6.out.size))
  refine (texts_any w7 w6.heap.size (w6.heap.size + 1) A6 _ 2 c6 2 [[106, 46, 48], [106, 46, 49]] (HST6.out.below HB7.out) HST7.out (by omega)).mono ?_
  rintro r w8 ⟨rfl, q, rfl⟩
  have HJ8 := Lib.hid (HJ7.out.up (below_drewN (Below.refl _ _) q))
  have HB8 := Lib.hid (below_drewN HB70.out q)
  generalize w7.drewN q = w8 at *
  go_wp2_with fail
  refine (jllen_any w8 G5 F5 bj bd _ HJ8.out).mono ?_
  rintro r w9 ⟨rfl, rfl⟩
  rw [ex_app.2.2.1]
  go_wp2_with fail
  refine (jllasting_any w8 G5 F5 bj bd _ HJ8.out).mono ?_
  rintro r w9 ⟨rfl, rfl⟩
  rw [ex_app.2.2.2.1]
  go_wp2
  go_ret
  exact ⟨rfl, HB8.out⟩
end Go.Proofs.YtejjfhhppjdcaaaGreatDoor
