/-
  An event is written into a row of the call's own; two change places.
  The document's Alike.
  The laws' Some, Texts.
  The law IntakeOrder's offered.
-/
import Derived.Test.YtoljbbmjbgepiaaGreatDoorDSearch
import Derived.Deep.MidRow
import Derived.Test.YtoljbbmjbgepiaaGreatDoorDOrdPlain
import Derived.Test.YtoljbbmjbgepiaaGreatDoorDRef02
import Derived.Test.YtoljbbmjbgepiaaGreatDoorDItkTkn
namespace Go.Proofs.YtoljbbmjbgepiaaGreatDoor
open Go.RowKit

def setEv (w : World) (g o : Nat) (y : Ev) : World :=
  (((((((w.setCell ⟨g, o, none⟩ (.string ⟨y.src.toArray⟩)).setCell ⟨g, o + 1, none⟩ (.int .i64 y.num)).setCell ⟨g, o + 2, none⟩ (.int .i64 y.at_)).setCell ⟨g, o + 3, none⟩ (.int .i64 y.kind)).setCell ⟨g, o + 4, none⟩ (.string ⟨y.per.toArray⟩)).setCell ⟨g, o + 5, none⟩ (.string ⟨y.item.toArray⟩)).setCell ⟨g, o + 6, none⟩ (.int .i64 y.val)).setCell ⟨g, o + 7, none⟩ (.string ⟨y.text.toArray⟩)
theorem evCells_set (l : List Ev) (i : Nat) (y : Ev) (hi : i < l.length) : evCells (l.set i y) =
    ((((((((evCells l).set (i * 8) (.string ⟨y.src.toArray⟩)).set (i * 8 + 1) (.int .i64 y.num)).set (i * 8 + 2) (.int .i64 y.at_)).set (i * 8 + 3) (.int .i64 y.kind)).set (i * 8 + 4) (.string ⟨y.per.toArray⟩)).set (i * 8 + 5) (.string ⟨y.item.toArray⟩)).set (i * 8 + 6) (.int .i64 y.val)).set (i * 8 + 7) (.string ⟨y.text.toArray⟩) := by
  induction l generalizing i with
  | nil => simp at hi
  | cons e l ih =>
    cases i with
    | zero => simp [evCells, Ev.cells]
    | succ i =>
      have ih' := ih i (by simpa using hi)
      have h8 : e.cells.length = 8 := rfl
      have key : ∀ (R : List Value) (j : Nat) (u : Value), (e.cells ++ R).set ((i + 1) * 8 + j) u = e.cells ++ R.set (i * 8 + j) u := fun R j u => by
        rw [List.set_append_right _ _ (by rw [h8]; omega), h8, show (i + 1) * 8 + j - 8 = i * 8 + j by omega]
      have key0 : ∀ (R : List Value) (u : Value), (e.cells ++ R).set ((i + 1) * 8) u = e.cells ++ R.set (i * 8) u := fun R u => key R 0 u
      have e1 : evCells (e :: l) = e.cells ++ evCells l := rfl
      have e2 : evCells ((e :: l).set (i + 1) y) = e.cells ++ evCells (l.set i y) := rfl
      rw [e2, e1, ih', key0, key, key, key, key, key, key, key]
theorem OwnE.setEv {w : World} {base g n cap : Nat} {l : List Ev} (h : OwnE w base (.slice (some ⟨g, 0, none⟩) n cap) l) (hn : n = l.length) (i : Nat) (hi : i < l.length) (y : Ev) :
    OwnE (setEv w g (i * 8) y) base (.slice (some ⟨g, 0, none⟩) n cap) (l.set i y) ∧ w.grownBy (Go.Proofs.YtoljbbmjbgepiaaGreatDoor.setEv w g (i * 8) y) (some g) := by
  subst hn
  unfold OwnE at h ⊢
  rw [evCells_set l i y hi, List.length_set]
  obtain ⟨h0, g0⟩ := World.ownsRow.stored h (i * 8) (.string ⟨y.src.toArray⟩)
  obtain ⟨h1, g1⟩ := World.ownsRow.stored h0 (i * 8 + 1) (.int .i64 y.num)
  obtain ⟨h2, g2⟩ := World.ownsRow.stored h1 (i * 8 + 2) (.int .i64 y.at_)
  obtain ⟨h3, g3⟩ := World.ownsRow.stored h2 (i * 8 + 3) (.int .i64 y.kind)
  obtain ⟨h4, g4⟩ := World.ownsRow.stored h3 (i * 8 + 4) (.string ⟨y.per.toArray⟩)
  obtain ⟨h5, g5⟩ := World.ownsRow.stored h4 (i * 8 + 5) (.string ⟨y.item.toArray⟩)
  obtain ⟨h6, g6⟩ := World.ownsRow.stored h5 (i * 8 + 6) (.int .i64 y.val)
  obtain ⟨h7, g7⟩ := World.ownsRow.stored h6 (i * 8 + 7) (.string ⟨y.text.toArray⟩)
  exact ⟨h7, ((((((g0.trans g1).trans g2).trans g3).trans g4).trans g5).trans g6).trans g7⟩
theorem OwnE.there {w : World} {base g n cap : Nat} {l : List Ev} (h : OwnE w base (.slice (some ⟨g, 0, none⟩) n cap) l) (hn : n = l.length) (i : Nat) (hi : i < l.length) : w.there g (i * 8) 8 := fun j hj => by
  subst hn
  have hc := World.ownsRow.cellAt h (i * 8 + j) (by omega)
  exact ⟨by rw [hc, List.getElem?_eq_getElem (by rw [evCells_length]; omega)]; rfl, World.ownsRow.frozenAt h _⟩
theorem OwnE.drew {w : World} {base : Nat} {v : Value} {l : List Ev} (h : OwnE w base v l) : OwnE w.drew base v l := h
theorem below_drew {B : Nat} {a w : World} (h : Below B a w) : Below B a w.drew := below_drewN h 1
theorem swap_mem (l : List Ev) (i k : Nat) (hi : i < l.length) (hk : k < l.length) (e : Ev) : e ∈ (l.set i l[k]).set k l[i] ↔ e ∈ l := by
  have hp : ((l.set i l[k]).set k l[i]).Perm l := List.set_set_perm hi hk
  exact hp.mem_iff
section
variable {P : Program}
/-- a slice from a place on -/
theorem Cel.from_ {w : World} {B size n c : Nat} {A : Option Addr} {xs : List Value} (h : Cel w B size A n c xs) (m : Nat) (hm : m ≤ n) :
    Cel w B size (if c = m then A else A.map (·.add (m * size))) (n - m) (c - m) (xs.drop (m * size)) := by
  have hl := h.len
  have hcap := h.cap
  have hmax := h.max
  refine ⟨by rw [List.length_drop, hl, Nat.sub_mul], by omega, by omega, fun h0 => ?_⟩
  obtain ⟨b, off, e, hb, hc⟩ := h.cell (by omega)
  refine ⟨b, off + m * size, ?_, hb, fun i u hi => ?_⟩
  · rw [if_neg (by omega), e]
    simp [Addr.add]
  · rw [List.getElem?_drop] at hi
    rw [Nat.add_assoc]
    exact hc _ u hi
/-- a slice up to a place -/
theorem Cel.upto {w : World} {B size n c : Nat} {A : Option Addr} {xs : List Value} (h : Cel w B size A n c xs) (m : Nat) (hm : m ≤ n) : Cel w B size A m c (xs.take (m * size)) := by
  have hl := h.len
  have hcap := h.cap
  have hle : m * size ≤ n * size := Nat.mul_le_mul_right _ hm
  refine ⟨by rw [List.length_take, hl]; omega, by omega, h.max, fun h0 => ?_⟩
  obtain ⟨b, off, e, hb, hc⟩ := h.cell (by omega)
  refine ⟨b, off, e, hb, fun i u hi => ?_⟩
  rw [List.getElem?_take] at hi
  split at hi
  · exact hc _ u hi
  · cases hi
theorem evCells_dropN (l : List Ev) (m : Nat) : (evCells l).drop (m * 8) = evCells (l.drop m) := by
  induction l generalizing m with
  | nil => simp [evCells]
  | cons e l ih =>
    cases m with
    | zero => simp
    | succ m =>
      have h8 : e.cells.length = 8 := rfl
      have e1 : evCells (e :: l) = e.cells ++ evCells l := rfl
      rw [e1, List.drop_succ_cons, ← ih m, show (m + 1) * 8 = e.cells.length + m * 8 by omega, List.drop_append, List.drop_of_length_le (by omega), Nat.add_sub_cancel_left]; rfl
theorem evCells_takeN (l : List Ev) (m : Nat) : (evCells l).take (m * 8) = evCells (l.take m) := by
  induction l generalizing m with
  | nil => simp [evCells]
  | cons e l ih =>
    cases m with
    | zero => simp [evCells]
    | succ m =>
      have h8 : e.cells.length = 8 := rfl
      have e1 : evCells (e :: l) = e.cells ++ evCells l := rfl
      have e2 : evCells ((e :: l).take (m + 1)) = e.cells ++ evCells (l.take m) := rfl
      rw [e1, e2, ← ih m, show (m + 1) * 8 = e.cells.length + m * 8 by omega, List.take_append, List.take_of_length_le (by omega), Nat.add_sub_cancel_left]
theorem cells_ones (l : List Ev) : ∀ u ∈ evCells l, u.oneCell' = true := fun u hu => by
  unfold evCells at hu
  obtain ⟨e, _, he⟩ := List.mem_flatMap.1 hu
  exact cells_one e u he
/-- append to a row of the call's own, at a step of a region that draws its order -/
theorem step_app {ops : Array Oper} {o : Oper} {a : Act} {w : World} {K : Act → World → Prop} {Q : Exit → Act → World → Prop} {E : Prop} (hgd : o.guard = none) (s x : Operand) (t : TypeId)
    (ho : o.op = .call { callee := .builtin .append, args := #[s, x], argTypes := #[t, t] })
    (e : TypeId) (i : TypeInfo) (z : Value) (size bytes : Nat) (ht : P.underlying t = some (.slice e)) (hi : P.info? e = some i) (hz : i.zero = some z)
    (hsize : i.size = size) (hby : i.bytes = bytes) (hzs : z.cells.size = size) (hsz : 0 < size)
    (base : Nat) (v : Value) (n : Nat) (xs : List Value) (hs : a.eval s = v) (hown : w.ownsRow base e size v n xs)
    (B : Nat) (A : Option Addr) (m c : Nat) (ys : List Value) (hx : a.eval x = .slice A m c) (hr : Cel w B size A m c ys) (h1 : ∀ u ∈ ys, u.oneCell' = true)
    (h63 : n + m ≤ maxLen) (hbytes : (n + m) * bytes ≤ 140737488355328) (hbase : base ≤ w.heap.size)
    (h : ∀ v' w', w'.ownsRow base e size v' (n + m) (xs ++ ys) → w.grownBy w' v.ownBlock → (v'.ownBlock = v.ownBlock ∨ v'.ownBlock = some w.heap.size) → K (a.put o.dst v') w') :
    if Region.wanted o (yielded ops a.tmps) = true then Oper.wp P o a w K Q else E := by
  have hw : Region.wanted o (yielded ops a.tmps) = true := by simp [Region.wanted, hgd]
  rw [if_pos hw]
  obtain ⟨v', w', h1, h2, h3, h4⟩ := run_app (P := P) w t o.type e i z size bytes ht hi hz hsize hby hzs hsz base v n xs hown B A m c ys hr h1 h63 hbytes hbase
  unfold Oper.wp execOp
  simp only [ho, resolve, invoke, builtin, Sem.run_bind, Sem.run_pure, Result.andThen_ok, List.map_toArray, List.map_cons, List.map_nil, hs, hx, h1]
  exact h v' w' h2 h3 h4
end
end Go.Proofs.YtoljbbmjbgepiaaGreatDoor
namespace Go.Proofs.YtoljbbmjbgepiaaGreatDoor
open Go.RowKit Go.Maps Go.Sort

def AlikePost (w : World) (es : List Ev) (e : Ending) (w' : World) : Prop := ∃ b, e = .returned (.bool b) ∧ (b = true → AlikeP es) ∧ ∃ k, w' = w.drewN k
def AlkRel (w : World) (es : List Ev) (i : Value) (wr : World) : Prop := ∃ k q : Nat, i = .int .i64 k ∧ k ≤ es.length ∧ AlikeP (es.take k) ∧ wr = w.drewN q
def AlkRel2 (w : World) (es : List Ev) (x : Ev) (k : Nat) (i : Value) (wr : World) : Prop := ∃ j q : Nat, i = .int .i64 j ∧ j ≤ k ∧ (∀ a ∈ es.take j, a.src = x.src → a.num = x.num → a = x) ∧ wr = w.drewN q
theorem AlikeP.snoc {l : List Ev} {x : Ev} (h : AlikeP l) (h' : ∀ a ∈ l, a.src = x.src → a.num = x.num → a = x) : AlikeP (l ++ [x]) := by
  intro a ha b hb h1 h2
  rw [List.mem_append, List.mem_singleton] at ha hb
  rcases ha with ha | rfl <;> rcases hb with hb | rfl
  · exact h a ha b hb h1 h2
  · exact h' a ha h1 h2
  · exact (h' b hb h1.symm h2.symm).symm
  · rfl

/-- where two events part first -/
theorem ev_parts {x y : Ev} (h : y ≠ x) (h1 : (x.src == y.src) = true) (h2 : (x.num == y.num) = true) :
    (x.at_ == y.at_) = false ∨ ((x.at_ == y.at_) = true ∧ (x.kind == y.kind) = false) ∨ ((x.at_ == y.at_) = true ∧ (x.kind == y.kind) = true ∧ (x.per == y.per) = false) ∨
    ((x.at_ == y.at_) = true ∧ (x.kind == y.kind) = true ∧ (x.per == y.per) = true ∧ (x.item == y.item) = false) ∨
    ((x.at_ == y.at_) = true ∧ (x.kind == y.kind) = true ∧ (x.per == y.per) = true ∧ (x.item == y.item) = true ∧ (x.val == y.val) = false) ∨
    ((x.at_ == y.at_) = true ∧ (x.kind == y.kind) = true ∧ (x.per == y.per) = true ∧ (x.item == y.item) = true ∧ (x.val == y.val) = true ∧ (x.text == y.text) = false) := by
  obtain ⟨a1, a2, a3, a4, a5, a6, a7, a8⟩ := x
  obtain ⟨b1, b2, b3, b4, b5, b6, b7, b8⟩ := y
  simp only [ne_eq, Ev.mk.injEq, not_and, beq_iff_eq] at h h1 h2
  simp only [beq_eq_false_iff_ne, ne_eq, beq_iff_eq]
  by_cases k3 : a3 = b3
  · by_cases k4 : a4 = b4
    · by_cases k5 : a5 = b5
      · by_cases k6 : a6 = b6
        · by_cases k7 : a7 = b7
          · by_cases k8 : a8 = b8
            · exact absurd k8.symm (h h1.symm h2.symm k3.symm k4.symm k5.symm k6.symm k7.symm)
            · simp [*]
          · simp [*]
        · simp [*]
      · simp [*]
    · simp [*]
  · simp [*]
set_option maxRecDepth 100000 in
set_option maxHeartbeats 4000000 in
theorem alike_any (w : World) (A : Option Addr) (n c : Nat) (es : List Ev) (h : Evs w w.heap.size A n c es) (hn : n ≤ 100000) :
    Calls Tryz.prog 12 #[.slice A n c] w (AlikePost w es) := by
  have HH := Lib.hid h; clear h
  have HL := Lib.hid HH.out.len
  go_enter Tryz.func12, Tryz.ntmps12
  go_wp2
  go_loopw [3] (fun i wr => AlkRel w es i wr) (fun i _ => n - (intOf i).toNat)
  case atStart => exact ⟨0, 0, rfl, Nat.zero_le _, fun a ha => by simp at ha, rfl⟩
  case round =>
    obtain ⟨k, q, rfl, hk, hal, rfl⟩ := hrel
    have HAL := Lib.hid hal; clear hal
    have hkL : k ≤ n := by rw [← HL.out]; exact hk
    clear hk
    by_cases hkn : k < n
    · have hkl : k < es.length := by rw [HL.out]; exact hkn
      obtain ⟨b, off, rfl, hb, hev⟩ := HH.out.ev k hkl
      have htk : es.take (k + 1) = es.take k ++ [es[k]] := by rw [List.take_add_one, List.getElem?_eq_getElem hkl]; rfl
      have HTK := Lib.hid htk; clear htk
      have HEV := Lib.hid hev; clear hev
      generalize es[k] = x at *
      have t1 : (k : Int) < n := by omega
      go_wp2
      go_loopw [4] (fun i wz => AlkRel2 w es x k i wz) (fun i _ => k - (intOf i).toNat)
      case atStart => exact ⟨0, q, rfl, Nat.zero_le _, fun a ha => by simp at ha, rfl⟩
      case round =>
        obtain ⟨j, q', rfl, hj, hno, rfl⟩ := hrel
        have HNO := Lib.hid hno; clear hno
        by_cases hjk : j < k
        · have hjl : j < es.length := by rw [HL.out]; omega
          obtain ⟨b', off', he, hb', hev'⟩ := HH.out.ev j hjl
          injection he with he
          injection he with he1 he2
          subst he1 he2
          obtain ⟨e0, e1, e2, e3, e4, e5, e6, e7⟩ := HEV.out
          obtain ⟨f0, f1, f2, f3, f4, f5, f6, f7⟩ := hev'
          have HT := Lib.hid (show (es[j].src = x.src → es[j].num = x.num → es[j] = x) → ∀ a ∈ es.take (j + 1), a.src = x.src → a.num = x.num → a = x from fun h a ha => by
            rw [List.take_add_one, List.getElem?_eq_getElem hjl, Option.toList_some] at ha
            rcases List.mem_append.1 ha with ha | ha
            · exact HNO.out a ha
            · rw [List.mem_singleton] at ha; subst ha; exact h)
          generalize es[j] = y at *
          have t2 : (j : Int) < k := by omega
          have t3 : (j : Int) < n := by omega
          by_cases hs : x.src = y.src
          · by_cases hm : x.num = y.num
            · by_cases hxy : y = x
              · have HR := Lib.hid (HT.out fun _ _ => hxy)
                subst hxy
                clear HT hs hm
                go_wp2
                go_quiet (fail)
                go_wp2
                go_roundw
                case rel => exact ⟨j + 1, _, by go_num, by omega, HR.out, rfl⟩
                case measure => simp [intOf]; omega
              · have s1 : (x.src == y.src) = true := by simp [hs]
                have s2 : (x.num == y.num) = true := by simp [hm]
                clear HT hs hm
                rcases ev_parts hxy s1 s2 with s3 | ⟨s3, s4⟩ | ⟨s3, s4, s5⟩ | ⟨s3, s4, s5, s6⟩ | ⟨s3, s4, s5, s6, s7⟩ | ⟨s3, s4, s5, s6, s7, s8⟩
                all_goals
                  clear hxy
                  go_wp2
                  go_quiet (fail)
                  go_wp2
                  go_ret
                  exact ⟨false, rfl, fun h => (by cases h), _, World.drewN_drewN ..⟩
            · have HR := Lib.hid (HT.out fun _ h => absurd h.symm hm)
              have s1 : (x.src == y.src) = true := by simp [hs]
              have s2 : (x.num == y.num) = false := by simp [hm]
              clear HT hs hm
              go_wp2
              go_quiet (fail)
              go_wp2
              go_roundw
              case rel => exact ⟨j + 1, _, by go_num, by omega, HR.out, rfl⟩
              case measure => simp [intOf]; omega
          · have HR := Lib.hid (HT.out fun h _ => absurd h.symm hs)
            have s1 : (x.src == y.src) = false := by simp [hs]
            clear HT hs
            go_wp2
            go_quiet (fail)
            go_wp2
            go_roundw
            case rel => exact ⟨j + 1, _, by go_num, by omega, HR.out, rfl⟩
            case measure => simp [intOf]; omega
        · have t2 : ¬ (j : Int) < k := by omega
          have hjk' : j = k := by omega
          subst hjk'
          have HR := Lib.hid (show AlkRel w es (.int .i64 ((j + 1 : Nat) : Int)) (w.drewN q') from ⟨j + 1, q', rfl, by rw [HL.out]; omega, by rw [HTK.out]; exact HAL.out.snoc HNO.out, rfl⟩)
          go_wp2
          go_roundw
          case rel => exact HR.out
          case measure => simp [intOf]; omega
    · have t1 : ¬ (k : Int) < n := by omega
      have HA' := Lib.hid (show AlikeP es by have := HAL.out; rw [List.take_of_length_le (by rw [HL.out]; omega)] at this; exact this)
      go_wp2
      go_ret
      exact ⟨true, rfl, fun _ => HA'.out, _, rfl⟩
end Go.Proofs.YtoljbbmjbgepiaaGreatDoor
namespace Go.Proofs.YtoljbbmjbgepiaaGreatDoor
open Go.RowKit Go.Maps Go.Sort

def SmRel (w : World) (es : List Ev) (m : Int) (i : Value) (wr : World) : Prop := ∃ k : Nat, i = .int .i64 k ∧ k ≤ es.length ∧ (∀ d ∈ es.take k, bigB d m = false) ∧ Below w.heap.size w wr
set_option maxRecDepth 100000 in
set_option maxHeartbeats 2000000 in
theorem some_any (w : World) (A : Option Addr) (n c : Nat) (ds : List Ev) (h : Evs w w.heap.size A n c ds) (hn : n ≤ 140737488355328) (m : Int) :
    Calls Tryz.prog 11 #[.slice A n c, .int .i64 m] w (Says (ds.any (fun d => bigB d m)) w) := by
  have HH := Lib.hid h; clear h
  have hl := HH.out.len
  have HL := Lib.hid hl; clear hl
  go_enter Tryz.func11, Tryz.ntmps11
  go_wp2
  go_loopw [5] (fun i wr => SmRel w ds m i wr) (fun i _ => n - (intOf i).toNat)
  case atStart => exact ⟨0, rfl, Nat.zero_le _, fun d hd => by simp at hd, Below.refl _ _⟩
  case round =>
    obtain ⟨k, rfl, hk, hno, hbel⟩ := hrel
    have HNO := Lib.hid hno; clear hno
    have hkL : k ≤ n := by rw [← HL.out]; exact hk
    by_cases hkn : k < n
    · have hkl : k < ds.length := by rw [HL.out]; exact hkn
      obtain ⟨b, off, rfl, hb, hd⟩ := HH.out.ev k hkl
      obtain ⟨e0, e1, e2, e3, e4, e5, e6, e7⟩ := hd.below hbel hb
      have HT := Lib.hid (show bigB ds[k] m = false → ∀ d ∈ ds.take (k + 1), bigB d m = false from fun h d hd => by
        rw [List.take_add_one, List.getElem?_eq_getElem hkl, Option.toList_some] at hd
        rcases List.mem_append.1 hd with hd | hd
        · exact HNO.out d hd
        · simp at hd; subst hd; exact h)
      have HY := Lib.hid (show bigB ds[k] m = true → ds.any (fun d => bigB d m) = true from fun h => List.any_eq_true.2 ⟨_, List.getElem_mem hkl, h⟩)
      generalize ds[k] = d at *
      have t1 : (k : Int) < n := by omega
      go_wp2_with fail
      refine (big_any wr d m).mono ?_
      rintro r w2 ⟨rfl, hb2⟩
      have hbw2 : Below w.heap.size w w2 := hbel.trans (hb2.mono hbel.size)
      clear hb2 e0 e1 e2 e3 e4 e5 e6 e7 hd
      cases hbg : bigB d m
      · have HT' := Lib.hid (HT.out hbg)
        clear hbg
        go_wp2
        go_roundw
        case rel => exact ⟨k + 1, by go_num, by omega, HT'.out, hbw2⟩
        case measure => simp [intOf]; omega
      · have HY' := Lib.hid (HY.out hbg)
        clear hbg
        go_wp2
        go_ret
        exact ⟨ret_bool (by rw [HY'.out]), hbw2⟩
    · have HZ := Lib.hid (show ds.any (fun d => bigB d m) = false by
        rw [List.any_eq_false]
        intro d hd
        have := HNO.out d (by rw [List.take_of_length_le (by rw [HL.out]; omega)]; exact hd)
        simp [this])
      have t1 : ¬ (k : Int) < n := by omega
      go_wp2
      go_ret
      exact ⟨ret_bool (by rw [HZ.out]), hbel⟩
set_option maxHeartbeats 1000000 in
theorem texts_any (w : World) (B B' : Nat) (A A' : Option Addr) (n c c' : Nat) (ss : List (List UInt8)) (h : Strs w B A n c ss) (h' : Strs w B' A' n c' ss) (hn : n ≤ 100000) :
    Calls Tryz.prog 16 #[.slice A n c, .slice A' n c'] w fun e w' => e = .returned (.bool true) ∧ ∃ k, w' = w.drewN k := by
  have HH := Lib.hid h; clear h
  have HH' := Lib.hid h'; clear h'
  have hnn : ((n : Int) != (n : Int)) = false := by simp
  go_enter Tryz.func16, Tryz.ntmps16
  go_wp2
  clear hnn
  go_loopw [5] (fun i wr => ∃ k q : Nat, i = .int .i64 k ∧ k ≤ n ∧ wr = w.drewN q) (fun i _ => n - (intOf i).toNat)
  case atStart => exact ⟨0, 0, rfl, Nat.zero_le _, rfl⟩
  case round =>
    obtain ⟨k, q, rfl, hk, rfl⟩ := hrel
    by_cases hkn : k < n
    · have hkl : k < ss.length := by rw [HH.out.len]; exact hkn
      obtain ⟨b, off, rfl, hb, hc⟩ := HH.out.at_ k hkl
      obtain ⟨b', off', rfl, hb', hc'⟩ := HH'.out.at_ k hkl
      have t1 : (k : Int) < n := by omega
      generalize ss[k] = x at *
      have t5 : (!(x == x)) = false := by simp
      go_wp2
      go_quiet (fail)
      go_wp2
      go_roundw
      case rel => exact ⟨k + 1, _, by go_num, by omega, rfl⟩
      case measure => simp [intOf]; omega
    · go_wp2
      go_ret
      exact ⟨rfl, _, rfl⟩
end Go.Proofs.YtoljbbmjbgepiaaGreatDoor
namespace Go.Proofs.YtoljbbmjbgepiaaGreatDoor
open Go.RowKit Go.Maps Go.Sort

/-- all of a list offered at 0; and whether none was late -/
def offAll (x : Itk) (l : List Ev) : Itk := l.foldl (fun x e => x.offer e 0) x
def fineAll (x : Itk) : List Ev → Bool
  | [] => true
  | e :: l => x.offered e 0 != 2 && fineAll (x.offer e 0) l
theorem offAll_snoc (x : Itk) (l : List Ev) (e : Ev) : offAll x (l ++ [e]) = (offAll x l).offer e 0 := by unfold offAll; simp
theorem fineAll_snoc (x : Itk) (l : List Ev) (e : Ev) : fineAll x (l ++ [e]) = ((offAll x l).offered e 0 != 2 && fineAll x l) := by
  induction l generalizing x with
  | nil => simp [fineAll, offAll]
  | cons a l ih =>
    simp only [List.cons_append, fineAll]
    rw [ih]
    simp only [offAll, List.foldl_cons]
    cases (x.offered a 0 != 2) <;> simp
def OfRel (w : World) (bi n : Nat) (slack : Int) (l : List Ev) (f i : Value) (wr : World) : Prop := ∃ k : Nat, i = .int .i64 k ∧ k ≤ n ∧ f = .bool (fineAll (Itk.new slack 0) (l.take k)) ∧
  ∃ F, ItkAt wr F bi (2 * k) (offAll (Itk.new slack 0) (l.take k)) ∧ Below w.heap.size w wr ∧ ∀ b, F b → w.heap.size ≤ b
def OffdPost (w : World) (n : Nat) (slack : Int) (l : List Ev) (e : Ending) (w' : World) : Prop := ∃ bi F, e = .returned (.tuple #[.pointer (some ⟨bi, 0, none⟩), .bool (fineAll (Itk.new slack 0) l)]) ∧
  ItkAt w' F bi (2 * n) (offAll (Itk.new slack 0) l) ∧ Below w.heap.size w w' ∧ ∀ b, F b → w.heap.size ≤ b

set_option maxRecDepth 100000 in
set_option maxHeartbeats 4000000 in
theorem offd_any (w : World) (slack : Int) (A : Option Addr) (n c : Nat) (es : List Ev) (h : Evs w w.heap.size A n c es) (hn : n ≤ 40) (hsm : ∀ e ∈ es, e.small) (hmx : MaxAt w) :
    Calls Tryz.prog 13 #[.int .i64 slack, .slice A n c] w (OffdPost w n slack es) := by
  have HH := Lib.hid h; clear h
  have HSM := Lib.hid hsm; clear hsm
  have HMX := Lib.hid hmx
  have hmlt := hmx.lt
  clear hmx
  have HL := Lib.hid HH.out.len
  go_enter Tryz.func13, Tryz.ntmps13
  go_wp2_with fail
  refine (itknew_any w slack 0).mono ?_
  rintro r w2 ⟨bi, F, rfl, hI2, hb2, hF2⟩
  have HO2 := Lib.hid (show OfRel w bi n slack es (.bool true) (.int .i64 0) w2 from ⟨0, rfl, Nat.zero_le _, rfl, F, hI2, hb2, hF2⟩)
  clear hI2 hb2 hF2
  go_wp2
  go_loopw [7, 8] (fun f i wr => OfRel w bi n slack es f i wr) (fun _ i _ => n - (intOf i).toNat)
  case atStart => exact HO2.out
  case round =>
    obtain ⟨k, rfl, hk, rfl, F', hI, hbel, hFb⟩ := hrel
    by_cases hkn : k < n
    · have hkl : k < es.length := by rw [HL.out]; exact hkn
      have htk : es.take (k + 1) = es.take k ++ [es[k]] := by rw [List.take_add_one, List.getElem?_eq_getElem hkl]; rfl
      obtain ⟨b, off, rfl, hb, hev⟩ := HH.out.ev k hkl
      obtain ⟨e0, e1, e2, e3, e4, e5, e6, e7⟩ := hev.below hbel hb
      have HSX := Lib.hid (HSM.out _ (List.getElem_mem hkl))
      have HTO := Lib.hid (show offAll (Itk.new slack 0) (es.take (k + 1)) = (offAll (Itk.new slack 0) (es.take k)).offer es[k] 0 by rw [htk, offAll_snoc])
      have HTF := Lib.hid (show fineAll (Itk.new slack 0) (es.take (k + 1)) = ((offAll (Itk.new slack 0) (es.take k)).offered es[k] 0 != 2 && fineAll (Itk.new slack 0) (es.take k)) by rw [htk, fineAll_snoc])
      clear htk
      generalize es[k] = y at *
      generalize offAll (Itk.new slack 0) (es.take k) = x at *
      generalize fineAll (Itk.new slack 0) (es.take k) = fb at *
      have t1 : (k : Int) < n := by omega
      go_wp2_with fail
      refine (offer_any _ F' bi (2 * k) x hI (by omega) y HSX.out 0 (HMX.out.up hbel) (fun hf => by have := hFb _ hf; omega)).mono ?_
      rintro r w3 ⟨rfl, F3, hI3, hK3, hF3⟩
      have HRR := Lib.hid (show ∀ g, g = (x.offered y 0 != 2 && fb) → OfRel w bi n slack es (.bool g) (.int .i64 ((k + 1 : Nat) : Int)) w3 from fun g hg => ⟨k + 1, rfl, by omega, by rw [HTF.out, hg], F3, by rw [HTO.out, show 2 * (k + 1) = 2 * k + 2 by omega]; exact hI3,
        hbel.trans (hK3.below hbel.size (fun b' hb' hf => by have := hFb _ hf; omega)), fun b' hb' => by
          rcases hF3 b' hb' with h' | h'
          · exact hFb b' h'
          · have := hbel.size; omega⟩)
      clear hI hI3 hK3 hF3 e0 e1 e2 e3 e4 e5 e6 e7 hev hFb HTO HTF
      generalize x.offered y 0 = v at *
      by_cases hv2 : v = 2
      · subst hv2
        go_wp2
        go_roundw
        case rel => exact HRR.out _ rfl
        case measure => simp [intOf]; omega
      · have hv' : (v != 2) = true := by simp [hv2]
        go_wp2
        go_roundw
        case rel => exact HRR.out _ (by rw [hv']; rfl)
        case measure => simp [intOf]; omega
    · have t1 : ¬ (k : Int) < n := by omega
      have hkn' : k = n := by omega
      rw [List.take_of_length_le (by rw [HL.out]; omega)] at hI
      have HE := Lib.hid (show fineAll (Itk.new slack 0) (es.take k) = fineAll (Itk.new slack 0) es by rw [List.take_of_length_le (by rw [HL.out]; omega)])
      rw [HE.out]
      have HR := Lib.hid (show OffdPost w n slack es (.returned (.tuple #[.pointer (some ⟨bi, 0, none⟩), .bool (fineAll (Itk.new slack 0) es)])) wr from ⟨bi, F', rfl, by rw [← hkn']; exact hI, hbel, hFb⟩)
      clear hI hbel hFb hkn'
      go_wp2
      go_ret2
      exact HR.out
end Go.Proofs.YtoljbbmjbgepiaaGreatDoor
