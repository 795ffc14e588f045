/-
  Layer 7, the document's: At, Has, rising.
  Layer 7, the document's: Has, rising.
-/
import Derived.Test.YtoljbbmjbgepiaaGreatDoorMUniPlain
import Derived.Test.YtoljbbmjbgepiaaGreatDoorMRClk3
namespace Go.Proofs.YtoljbbmjbgepiaaGreatDoor
open Go.RowKit Go.Maps Go.Sort

def numCells (l : List Int) : List Value := l.map fun n => .int .i64 n
/-- a slice that reads as these numbers, in a block of S -/
def IntsV (w : World) (S : Nat → Prop) (v : Value) (l : List Int) : Prop := ∃ A c, v = .slice A l.length c ∧ Cel w w.heap.size 1 A l.length c (numCells l) ∧ VwIn S A l.length
abbrev HRow := List UInt8 × List Int × Value
def hadOne (q : HRow) : List Value := [.string ⟨q.1.toArray⟩, q.2.2]
def hadCells (R : List HRow) : List Value := R.flatMap hadOne
theorem hadCells_length (l : List HRow) : (hadCells l).length = l.length * 2 := by
  induction l with
  | nil => rfl
  | cons p l ih => simp only [hadCells, List.flatMap_cons, List.length_append, List.length_cons] at *; rw [ih]; simp [hadOne]; omega
theorem hadCells_get (l : List HRow) (k j : Nat) (hk : k < l.length) (hj : j < 2) : (hadCells l)[k * 2 + j]? = (hadOne l[k])[j]? := by
  induction l generalizing k with
  | nil => simp at hk
  | cons p l ih =>
    have hc : (hadOne p).length = 2 := rfl
    simp only [hadCells, List.flatMap_cons]
    cases k with
    | zero => rw [Nat.zero_mul, Nat.zero_add, List.getElem?_append_left (by omega)]; rfl
    | succ k =>
      rw [List.getElem?_append_right (by omega), hc, show (k + 1) * 2 + j - 2 = k * 2 + j by omega]
      exact ih k (by simpa using hk)
/-- the slice reads as these rows -/
structure Hads (w : World) (S : Nat → Prop) (A : Option Addr) (n c : Nat) (R : List HRow) : Prop where
  cel : Cel w w.heap.size 2 A n c (hadCells R)
  row : ∀ q ∈ R, IntsV w S q.2.2 q.2.1
  vw : VwIn S A n
theorem Hads.len {w : World} {S : Nat → Prop} {n c : Nat} {A : Option Addr} {R : List HRow} (h : Hads w S A n c R) : R.length = n := by
  have := h.cel.len; rw [hadCells_length] at this; omega
theorem Hads.at_ {w : World} {S : Nat → Prop} {n c : Nat} {A : Option Addr} {R : List HRow} (h : Hads w S A n c R) (k : Nat) (hk : k < R.length) :
    ∃ b off, A = some ⟨b, off, none⟩ ∧ b < w.heap.size ∧ S b ∧ w.cell? ⟨b, off + k * 2, none⟩ = some (.string ⟨R[k].1.toArray⟩) ∧ w.cell? ⟨b, off + k * 2 + 1, none⟩ = some R[k].2.2 := by
  have hl := h.len
  obtain ⟨b, off, e, hb, hc⟩ := h.cel.cell (by omega)
  have key : ∀ j u, j < 2 → (hadOne R[k])[j]? = some u → w.cell? ⟨b, off + k * 2 + j, none⟩ = some u := fun j u hj hu => by
    rw [Nat.add_assoc]; exact hc _ u (by rw [hadCells_get R k j hk hj, hu])
  exact ⟨b, off, e, hb, h.vw _ e (by omega), key 0 _ (by omega) rfl, key 1 _ (by omega) rfl⟩
theorem IntsV.at_ {w : World} {S : Nat → Prop} {A : Option Addr} {n c : Nat} {l : List Int} (h : IntsV w S (.slice A n c) l) (k : Nat) (hk : k < l.length) : ∃ b off, A = some ⟨b, off, none⟩ ∧ b < w.heap.size ∧ w.cell? ⟨b, off + k, none⟩ = some (.int .i64 l[k]) := by
  obtain ⟨A', c', e, hc, _⟩ := h
  injection e with e1 e2 e3
  subst e1 e2 e3
  obtain ⟨b, off, e, hb, hc⟩ := hc.cell (by omega)
  exact ⟨b, off, e, hb, hc k _ (by unfold numCells; rw [List.getElem?_map, List.getElem?_eq_getElem hk]; rfl)⟩
/-- the place of a name -/
def idxH (R : List HRow) (s : List UInt8) : Int := match R.findIdx? (fun q => q.1 == s) with | some i => i | none => -1

set_option maxHeartbeats 1000000 in
theorem rat_any (w : World) (S : Nat → Prop) (A : Option Addr) (n c : Nat) (R : List HRow) (h : Hads w S A n c R) (hn : n ≤ 100000) (s : List UInt8) :
    Calls Tryz.prog 140 #[.slice A n c, .string ⟨s.toArray⟩] w fun e w' => e = .returned (.int .i64 (idxH R s)) ∧ w' = w := by
  have HH := Lib.hid h; clear h
  have HL := Lib.hid HH.out.len
  go_enter Tryz.func140, Tryz.ntmps140
  go_wp2
  go_loop [5] (fun i => ∃ k : Nat, i = .int .i64 k ∧ k ≤ n ∧ Hid (∀ j (hj : j < R.length), j < k → (R[j].1 == s) = false)) (fun i => n - (intOf i).toNat)
  case atStart => exact ⟨0, rfl, Nat.zero_le _, fun j _ h => by omega⟩
  case round =>
    obtain ⟨k, rfl, hk, HK⟩ := hrel
    by_cases hkn : k < n
    · have hkl : k < R.length := by rw [HL.out]; exact hkn
      obtain ⟨b, off, rfl, hb, _, e0, e1⟩ := HH.out.at_ k hkl
      have t1 : (k : Int) < n := by omega
      clear e1
      cases hs : (R[k].1 == s)
      · have HN := Lib.hid (show ∀ j (hj : j < R.length), j < k + 1 → (R[j].1 == s) = false from fun j hj hlt => by
          by_cases e : j = k
          · subst e; exact hs
          · exact HK.out j hj (by omega))
        generalize R[k].1 = t at *
        go_wp2
        go_round
        case rel => exact ⟨k + 1, by go_num, by omega, HN.out⟩
        case measure => simp [intOf]; omega
      · have HI := Lib.hid (show idxH R s = k by
          unfold idxH
          rw [List.findIdx?_eq_some_iff_getElem.2 ⟨hkl, hs, fun j hj => by simpa using HK.out j (by omega) hj⟩])
        generalize R[k].1 = t at *
        go_wp2
        go_ret
        exact ⟨ret_int HI.out.symm, rfl⟩
    · have t1 : ¬ (k : Int) < n := by omega
      have HI := Lib.hid (show idxH R s = -1 by
        unfold idxH
        rw [List.findIdx?_eq_none_iff.2 (fun q hq => by
          obtain ⟨j, hj, rfl⟩ := List.getElem_of_mem hq
          exact HK.out j hj (by have := HL.out; omega))])
      go_wp2
      go_ret
      exact ⟨ret_int HI.out.symm, rfl⟩
/-- has a source a number? -/
def hasH (R : List HRow) (s : List UInt8) (n : Int) : Bool := R.any fun q => q.1 == s && q.2.1.contains n
def OneKey (R : List HRow) : Prop := R.Pairwise fun p q => p.1 ≠ q.1
end Go.Proofs.YtoljbbmjbgepiaaGreatDoor
namespace Go.Proofs.YtoljbbmjbgepiaaGreatDoor
open Go.RowKit Go.Maps Go.Sort

def rowH (R : List HRow) (s : List UInt8) : List Int := ((R.find? fun q => q.1 == s).map fun q => q.2.1).getD []
theorem idx_case (R : List HRow) (s : List UInt8) : (idxH R s = -1 ∧ rowH R s = []) ∨ ∃ (k : Nat) (hk : k < R.length), idxH R s = k ∧ rowH R s = R[k].2.1 := by
  unfold idxH rowH
  cases hf : R.findIdx? (fun q => q.1 == s) with
  | none =>
    left
    have := List.findIdx?_eq_none_iff.1 hf
    have h2 : R.find? (fun q => q.1 == s) = none := List.find?_eq_none.2 fun q hq => by rw [this q hq]; simp
    rw [h2]; exact ⟨rfl, rfl⟩
  | some k =>
    right
    obtain ⟨hk, h1, h2⟩ := List.findIdx?_eq_some_iff_getElem.1 hf
    refine ⟨k, hk, rfl, ?_⟩
    have h3 : R.find? (fun q => q.1 == s) = some R[k] := List.find?_eq_some_iff_getElem.2 ⟨h1, k, hk, rfl, fun j hj => by simpa using h2 j hj⟩
    rw [h3]; rfl

set_option maxRecDepth 100000 in
set_option maxHeartbeats 2000000 in
theorem rhas_any (w : World) (S : Nat → Prop) (A : Option Addr) (n c : Nat) (R : List HRow) (h : Hads w S A n c R) (hn : n ≤ 100000) (s : List UInt8) (x : Int) (hrow : ∀ q ∈ R, q.2.1.length ≤ 100000) :
    Calls Tryz.prog 112 #[.slice A n c, .string ⟨s.toArray⟩, .int .i64 x] w fun e w' => e = .returned (.bool (decide (x ∈ rowH R s))) ∧ w' = w := by
  have HH := Lib.hid h; clear h
  have HL := Lib.hid HH.out.len
  have HRW := Lib.hid hrow; clear hrow
  go_enter Tryz.func112, Tryz.ntmps112
  go_wp2_with fail
  refine (rat_any w S A n c R HH.out hn s).mono ?_
  rintro r w1 ⟨rfl, hw⟩
  rw [hw]
  clear hw
  rcases idx_case R s with ⟨hi, hr⟩ | ⟨k, hk, hi, hr⟩
  · rw [hi]
    have HR := Lib.hid hr
    clear hi hr
    go_wp2
    go_ret
    exact ⟨ret_bool (by rw [HR.out]; rfl), rfl⟩
  · rw [hi]
    have HR := Lib.hid hr
    clear hi hr
    have hkn : k < n := by have := HL.out; omega
    have hki : (k : Int) < n := by omega
    obtain ⟨b, off, rfl, hb, _, e0, e1⟩ := HH.out.at_ k hk
    have hl9 := HRW.out _ (List.getElem_mem hk)
    have HIV := Lib.hid (HH.out.row _ (List.getElem_mem hk))
    generalize R[k] = q at *
    obtain ⟨nm, l, v⟩ := q
    simp only at *
    obtain ⟨A2, c2, hv, _, _⟩ := HIV.out
    subst hv
    clear e0
    go_wp2
    go_loop [8] (fun i => ∃ j : Nat, i = .int .i64 j ∧ j ≤ l.length ∧ Hid (∀ t (ht : t < l.length), t < j → (l[t] == x) = false)) (fun i => l.length - (intOf i).toNat)
    case atStart => exact ⟨0, rfl, Nat.zero_le _, fun j _ h => by omega⟩
    case round =>
      obtain ⟨j, rfl, hj, HJ⟩ := hrel
      by_cases hjn : j < l.length
      · obtain ⟨b2, off2, rfl, hb2, e2⟩ := HIV.out.at_ j hjn
        have t1 : (j : Int) < l.length := by omega
        cases hx : (l[j] == x)
        · have HN := Lib.hid (show ∀ t (ht : t < l.length), t < j + 1 → (l[t] == x) = false from fun t ht hlt => by
            by_cases e : t = j
            · subst e; exact hx
            · exact HJ.out t ht (by omega))
          generalize l[j] = y at *
          go_wp2
          go_round
          case rel => exact ⟨j + 1, by go_num, by omega, HN.out⟩
          case measure => simp [intOf]; omega
        · have HY := Lib.hid (show decide (x ∈ rowH R s) = true by
            rw [HR.out]
            apply decide_eq_true
            have := List.getElem_mem hjn
            rw [beq_iff_eq.1 hx] at this; exact this)
          generalize l[j] = y at *
          go_wp2
          go_ret
          exact ⟨ret_bool HY.out.symm, rfl⟩
      · have t1 : ¬ (j : Int) < l.length := by omega
        have HY := Lib.hid (show decide (x ∈ rowH R s) = false by
          rw [HR.out]
          apply decide_eq_false
          intro hc
          obtain ⟨t, ht, he⟩ := List.getElem_of_mem hc
          have := HJ.out t ht (by omega)
          rw [he] at this; simp at this)
        go_wp2
        go_ret
        exact ⟨ret_bool HY.out.symm, rfl⟩

theorem int_info : (Tryz.prog.info? 3).map (fun i => (i.zero, i.size, i.bytes)) = some (some (.int .i64 0), 1, 8) := by kernel_rfl
def RsRel (w : World) (l : List Int) (x : Int) (v d i : Value) (wr : World) : Prop :=
  ∃ (k : Nat) (done : Bool) (out : List Int), i = .int .i64 k ∧ k ≤ l.length ∧ d = .bool done ∧ wr.ownsRow w.heap.size 3 1 v out.length (numCells out) ∧ Below w.heap.size w wr ∧ out.length ≤ k + 1 ∧
    insN x l = out ++ (if done then l.drop k else insN x (l.drop k)) ∧ (done = false → out.length ≤ k)
def RsPost (w : World) (l : List Int) (e : Ending) (w' : World) : Prop := ∃ v, e = .returned v ∧ w'.ownsRow w.heap.size 3 1 v l.length (numCells l) ∧ Below w.heap.size w w'
set_option maxRecDepth 100000 in
set_option maxHeartbeats 2000000 in
theorem rising_any (w : World) (S : Nat → Prop) (v : Value) (l : List Int) (h : IntsV w S v l) (hn : l.length ≤ 100000) (x : Int) :
    Calls Tryz.prog 142 #[v, .int .i64 x] w (RsPost w (insN x l)) := by
  have HH := Lib.hid h
  obtain ⟨A, c, hv, _, _⟩ := h
  subst hv
  obtain ⟨i0, hi, hz0, hz1, hz2⟩ := info_parts int_info
  have HI := Lib.hid hi; have HZ0 := Lib.hid hz0; have HZ1 := Lib.hid hz1; have HZ2 := Lib.hid hz2
  clear hi hz0 hz1 hz2
  have HAPP := Lib.hid (show ∀ (out : List Int) (y : Int), numCells (out ++ [y]) = numCells out ++ [.int .i64 y] from fun out y => by simp [numCells])
  go_enter Tryz.func142, Tryz.ntmps142
  go_wp2
  go_loopw [5, 6, 7] (fun v d i wr => RsRel w l x v d i wr) (fun _ _ i _ => l.length - (intOf i).toNat)
  case atStart => exact ⟨0, false, [], rfl, Nat.zero_le _, rfl, World.ownsRow_lit w #[] 0 (Nat.le_refl _) (by simp [maxLen]) rfl, (Below.refl _ _).alloc (Nat.le_refl _) _, by simp, by simp, by simp⟩
  case round =>
    obtain ⟨k, done, out, rfl, hk, rfl, hown, hbel, hlen, hins, hdl⟩ := hrel
    have HO := Lib.hid hown; have HX := Lib.hid hins; have HDL := Lib.hid hdl
    clear hown hins hdl
    have hsz := hbel.size
    by_cases hkn : k < l.length
    · obtain ⟨b, off, rfl, hb, hc⟩ := HH.out.at_ k hkn
      have hc' : wr.cell? ⟨b, off + k, none⟩ = some (.int .i64 l[k]) := (hbel.cell (p := ⟨b, off + k, none⟩) hb).trans hc
      have HDR := Lib.hid (show l.drop k = l[k] :: l.drop (k + 1) from List.drop_eq_getElem_cons hkn)
      generalize l[k] = y at *
      have t1 : (k : Int) < l.length := by omega
      clear hc
      cases done
      · have hdl := HDL.out rfl
        by_cases hlt : x < y
        · have HLT := Lib.hid hlt
          go_wp2_with (at_builtin; refine wpList_app (P := Tryz.prog) rfl (.tmp 25) (.tmp 27) 118 rfl 3 i0 _ 1 8 Tryz.underlying118 HI.out HZ0.out HZ1.out HZ2.out rfl (by decide) w.heap.size _ out.length (numCells out) rfl ?c1 (wr.heap.size + 1) _ _ _ [.int .i64 x] rfl ?c2 ?c3 ?c4 ?c5 ?c6 ?_)
          case c1 => exact World.ownsRow.alloc HO.out _
          case c2 => exact Cel.new wr #[.int .i64 x] _ (by unfold maxLen; omega) rfl
          case c3 => simp [Value.oneCell']
          case c4 => unfold maxLen; omega
          case c5 => omega
          case c6 => first | omega | (simp; omega)
          intro v2 w2 hown2 hg2 _
          have hb2 : Below w.heap.size w w2 := Below.grown (hbel.alloc hsz (.cells #[.int .i64 x] 3)) hg2 (by simp; omega) (fun j hj => (HO.out.lt j hj).1)
          have hs2 := hb2.size
          have hc2 : w2.cell? ⟨b, off + k, none⟩ = some (.int .i64 y) := (hb2.cell (p := ⟨b, off + k, none⟩) hb).trans ((hbel.cell (p := ⟨b, off + k, none⟩) hb).symm.trans hc')
          have HO2 := Lib.hid hown2; clear hown2 hg2 hlt hc'
          go_wp2_with (at_builtin; refine wpList_app (P := Tryz.prog) rfl (.tmp 29) (.tmp 34) 118 rfl 3 i0 _ 1 8 Tryz.underlying118 HI.out HZ0.out HZ1.out HZ2.out rfl (by decide) w.heap.size _ (out.length + 1) (numCells out ++ [.int .i64 x]) rfl ?c1 (w2.heap.size + 1) _ _ _ [.int .i64 y] rfl ?c2 ?c3 ?c4 ?c5 ?c6 ?_)
          case c1 => exact World.ownsRow.alloc HO2.out _
          case c2 => exact Cel.new w2 #[.int .i64 y] _ (by unfold maxLen; omega) rfl
          case c3 => simp [Value.oneCell']
          case c4 => unfold maxLen; omega
          case c5 => omega
          case c6 => first | omega | (simp; omega)
          intro v3 w3 hown3 hg3 _
          have hb3 : Below w.heap.size w w3 := Below.grown (hb2.alloc hs2 (.cells #[.int .i64 y] 3)) hg3 (by simp; omega) (fun j hj => (HO2.out.lt j hj).1)
          have HR := Lib.hid (show RsRel w l x v3 (.bool true) (.int .i64 ((k + 1 : Nat) : Int)) w3 from ⟨k + 1, true, out ++ [x] ++ [y], rfl, by omega, rfl, by
            rw [HAPP.out, HAPP.out, show (out ++ [x] ++ [y]).length = out.length + 1 + 1 by simp, List.append_assoc]; exact hown3, hb3, by simp; omega, by rw [HX.out, HDR.out]; simp [insN, HLT.out], by simp⟩)
          clear hown3 hg3 hc2 hb3
          go_wp2
          go_roundw
          case rel => exact HR.out
          case measure => simp [intOf]; omega
        · have HLT := Lib.hid hlt
          go_wp2_with (at_builtin; refine wpList_app (P := Tryz.prog) rfl (.tmp 29) (.tmp 34) 118 rfl 3 i0 _ 1 8 Tryz.underlying118 HI.out HZ0.out HZ1.out HZ2.out rfl (by decide) w.heap.size _ out.length (numCells out) rfl ?c1 (wr.heap.size + 1) _ _ _ [.int .i64 y] rfl ?c2 ?c3 ?c4 ?c5 ?c6 ?_)
          case c1 => exact World.ownsRow.alloc HO.out _
          case c2 => exact Cel.new wr #[.int .i64 y] _ (by unfold maxLen; omega) rfl
          case c3 => simp [Value.oneCell']
          case c4 => unfold maxLen; omega
          case c5 => omega
          case c6 => first | omega | (simp; omega)
          intro v3 w3 hown3 hg3 _
          have hb3 : Below w.heap.size w w3 := Below.grown (hbel.alloc hsz (.cells #[.int .i64 y] 3)) hg3 (by simp; omega) (fun j hj => (HO.out.lt j hj).1)
          have HR := Lib.hid (show RsRel w l x v3 (.bool false) (.int .i64 ((k + 1 : Nat) : Int)) w3 from ⟨k + 1, false, out ++ [y], rfl, by omega, rfl, by
            rw [HAPP.out, show (out ++ [y]).length = out.length + 1 by simp]; exact hown3, hb3, by simp; omega, by rw [HX.out, HDR.out]; have hnl : ¬ x < y := (by have := HLT.out; omega); simp [insN, hnl], by simp; omega⟩)
          clear hown3 hg3 hb3 hlt hc'
          go_wp2
          go_roundw
          case rel => exact HR.out
          case measure => simp [intOf]; omega
      · go_wp2_with (at_builtin; refine wpList_app (P := Tryz.prog) rfl (.tmp 29) (.tmp 34) 118 rfl 3 i0 _ 1 8 Tryz.underlying118 HI.out HZ0.out HZ1.out HZ2.out rfl (by decide) w.heap.size _ out.length (numCells out) rfl ?c1 (wr.heap.size + 1) _ _ _ [.int .i64 y] rfl ?c2 ?c3 ?c4 ?c5 ?c6 ?_)
        case c1 => exact World.ownsRow.alloc HO.out _
        case c2 => exact Cel.new wr #[.int .i64 y] _ (by unfold maxLen; omega) rfl
        case c3 => simp [Value.oneCell']
        case c4 => unfold maxLen; omega
        case c5 => omega
        case c6 => first | omega | (simp; omega)
        intro v3 w3 hown3 hg3 _
        have hb3 : Below w.heap.size w w3 := Below.grown (hbel.alloc hsz (.cells #[.int .i64 y] 3)) hg3 (by simp; omega) (fun j hj => (HO.out.lt j hj).1)
        have HR := Lib.hid (show RsRel w l x v3 (.bool true) (.int .i64 ((k + 1 : Nat) : Int)) w3 from ⟨k + 1, true, out ++ [y], rfl, by omega, rfl, by
          rw [HAPP.out, show (out ++ [y]).length = out.length + 1 by simp]; exact hown3, hb3, by simp; omega, by rw [HX.out, HDR.out]; simp, by simp⟩)
        clear hown3 hg3 hb3 hc'
        go_wp2
        go_roundw
        case rel => exact HR.out
        case measure => simp [intOf]; omega
    · have HDR := Lib.hid (show l.drop k = [] from List.drop_eq_nil_iff.2 (by omega))
      have t1 : ¬ (k : Int) < l.length := by omega
      cases done
      · have hdl := HDL.out rfl
        go_wp2_with (at_builtin; refine wpList_app (P := Tryz.prog) rfl (.tmp 38) (.tmp 40) 118 rfl 3 i0 _ 1 8 Tryz.underlying118 HI.out HZ0.out HZ1.out HZ2.out rfl (by decide) w.heap.size _ out.length (numCells out) rfl ?c1 (wr.heap.size + 1) _ _ _ [.int .i64 x] rfl ?c2 ?c3 ?c4 ?c5 ?c6 ?_)
        case c1 => exact World.ownsRow.alloc HO.out _
        case c2 => exact Cel.new wr #[.int .i64 x] _ (by unfold maxLen; omega) rfl
        case c3 => simp [Value.oneCell']
        case c4 => unfold maxLen; omega
        case c5 => omega
        case c6 => first | omega | (simp; omega)
        intro v3 w3 hown3 hg3 _
        have hb3 : Below w.heap.size w w3 := Below.grown (hbel.alloc hsz (.cells #[.int .i64 x] 3)) hg3 (by simp; omega) (fun j hj => (HO.out.lt j hj).1)
        have HR := Lib.hid (show RsPost w (insN x l) (.returned v3) w3 from ⟨v3, rfl, by
          rw [HX.out, HDR.out]
          simp only [Bool.false_eq_true, if_false, insN]
          rw [HAPP.out, show (out ++ [x]).length = out.length + 1 by simp]; exact hown3, hb3⟩)
        clear hown3 hg3 hb3
        go_wp2
        go_ret
        exact HR.out
      · have HR := Lib.hid (show RsPost w (insN x l) (.returned u5) wr from ⟨u5, rfl, by
          rw [HX.out, HDR.out]
          simp only [if_true, List.append_nil]
          exact HO.out, hbel⟩)
        go_wp2
        go_ret
        exact HR.out
end Go.Proofs.YtoljbbmjbgepiaaGreatDoor
