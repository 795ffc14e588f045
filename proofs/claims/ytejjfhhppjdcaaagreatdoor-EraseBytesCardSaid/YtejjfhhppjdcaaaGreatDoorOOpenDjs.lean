/-
  What a slice of bytes that came in reads as.
  Layer 31: the law's long.
  What a slice of events that came in reads as, and how long its texts can be.
  What a slice of a journal's deeds that came in reads as.
  A world for the witness: the settled one, where the five tables that a journal's row lists hold what their initialisers lay.
-/
import Derived.Test.YtejjfhhppjdcaaaGreatDoorOBytes
import Derived.ProofKit
import Derived.OpenShut
import Derived.ShutString
import Derived.ChangeOld
import Derived.Test.YtejjfhhppjdcaaaGreatDoorORef02
import Derived.Deep.Slices
import Derived.SizedLaws
import Derived.Test.YtejjfhhppjdcaaaGreatDoorOJLives
namespace Go.Proofs.YtejjfhhppjdcaaaGreatDoor
open Go.RowKit Go.ChangeShapes Go.WideShapes Go.ChangeAt

theorem own : ownKnob Tryz.prog.godebug = none := by kernel_rfl
theorem laidOut : laidOutB Tryz.prog = true := by kernel_rfl

theorem byt_of_trod {H : Type} {enc : TypeId × Value → H} {W : World} {T E : TypeId} (hT : Tryz.prog.underlying T = some (.slice E)) (hE : Tryz.prog.underlying E = some (.int .u8)) (hc : Tryz.prog.cellsOf E = 1)
    {A : Option Addr} {n c : Nat} {x : DataW H × List MemPlace}
    (h : ∃ fuel, DataW.trod enc Tryz.prog W 0 (fun _ => true) true fuel T (Value.slice A n c).cells.toList = some x) : ∃ l, Byt W W.heap.size A n c l := by
  obtain ⟨fuel, hf⟩ := h
  rcases open_ints hT hE hc hf with ⟨hcs, _⟩ | ⟨x, l, c', zs, hcs, _, hl, hm, hz, _, hcell, hwz⟩
  · simp [Value.cells] at hcs
    obtain ⟨rfl, rfl, rfl⟩ := hcs
    exact ⟨[], Byt.nil _ _ _ _ (by unfold maxLen; omega)⟩
  · simp [Value.cells] at hcs
    obtain ⟨rfl, rfl, rfl⟩ := hcs
    have hz' : zs.length = c := by simpa using hz
    have hw8 : ∀ i, 0 ≤ zs.getD i 0 ∧ zs.getD i 0 < 256 := fun i => by
      by_cases hi : i < zs.length
      · have := hwz (zs[i]) (List.getElem_mem hi)
        have e : zs.getD i 0 = zs[i] := by simp [List.getD, hi]
        rw [e]
        have hb := this
        simp [Lit.wf, IntKind.min, IntKind.max, IntKind.signed, IntKind.bits] at hb
        omega
      · have e : zs.getD i 0 = 0 := by simp [List.getD, List.getElem?_eq_none (Nat.le_of_not_lt hi)]
        rw [e]; decide
    refine ⟨(zs.take n).map fun z => UInt8.ofNat z.toNat, by simp; omega, hl, hm, fun h0 => ?_⟩
    obtain ⟨b, off, spot⟩ := x
    have hc0 := hcell 0 (by omega)
    have hspot : spot = none := by simpa [Addr.add] using World.cell?_spot hc0
    subst hspot
    refine ⟨b, off, rfl, World.block_lt_of_cell? W ⟨b, off, none⟩ (by simpa [Addr.add] using hc0), fun i hi => ?_⟩
    have hi' : i < n := by simp at hi; omega
    have := hcell i (by omega)
    have hadd : (⟨b, off, none⟩ : Addr).add i = ⟨b, off + i, none⟩ := by unfold Addr.add; split <;> simp_all
    rw [hadd] at this
    rw [this]
    have h8 := hw8 i
    have e : zs.getD i 0 = zs[i]'(by omega) := by simp [List.getD, List.getElem?_eq_getElem (show i < zs.length by omega)]
    rw [e] at h8 ⊢
    simp
    omega
end Go.Proofs.YtejjfhhppjdcaaaGreatDoor
namespace Go.Proofs.YtejjfhhppjdcaaaGreatDoor
open Go.RowKit Go.Maps Go.Sort

def Ev.bulk (e : Ev) : Nat := e.src.length + e.per.length + e.item.length + e.text.length
/-- no text is longer than memory -/
def Ev.fit (e : Ev) : Prop := e.src.length ≤ 140737488355328 ∧ e.per.length ≤ 140737488355328 ∧ e.item.length ≤ 140737488355328 ∧ e.text.length ≤ 140737488355328
def longB (es : List Ev) : Bool := es.any (fun e => decide (400 < e.bulk)) || decide (40 < es.length)

set_option maxRecDepth 100000 in
set_option maxHeartbeats 2000000 in
theorem long_any (w : World) (A : Option Addr) (n c : Nat) (es : List Ev) (h : Evs w w.heap.size A n c es) (hn : n ≤ 140737488355328) (hfit : ∀ e ∈ es, e.fit) :
    Calls Tryz.prog 50 #[.slice A n c] w (Says (longB es) w) := by
  have HH := Lib.hid h; clear h
  have HF := Lib.hid hfit; clear hfit
  have hl := HH.out.len
  have HL := Lib.hid hl; clear hl
  go_enter Tryz.func50, Tryz.ntmps50
  go_wp2
  go_loopw [7] (fun i wr => ∃ k : Nat, i = .int .i64 k ∧ k ≤ n ∧ Below w.heap.size w wr ∧ Hid (∀ j (hj : j < es.length), j < k → es[j].bulk ≤ 400)) (fun i _ => n - (intOf i).toNat)
  case atStart => exact ⟨0, rfl, Nat.zero_le _, Below.refl _ _, fun j _ h => by omega⟩
  case round =>
    obtain ⟨k, rfl, hk, hbel, HK⟩ := hrel
    by_cases hkn : k < n
    · have hkl : k < es.length := by rw [HL.out]; exact hkn
      obtain ⟨b, off, rfl, hb, hev⟩ := HH.out.ev k hkl
      obtain ⟨e0, e1, e2, e3, e4, e5, e6, e7⟩ := hev.below hbel hb
      obtain ⟨s1, s2, s3, s4⟩ := HF.out es[k] (List.getElem_mem hkl)
      have HBU := Lib.hid (show es[k].bulk = es[k].src.length + es[k].per.length + es[k].item.length + es[k].text.length from rfl)
      have HMEM := Lib.hid (List.getElem_mem hkl)
      have HKK := Lib.hid (show es[k].bulk ≤ 400 → ∀ j (hj : j < es.length), j < k + 1 → es[j].bulk ≤ 400 from fun h j hj hlt => by
        by_cases e : j = k
        · subst e; exact h
        · exact HK.out j hj (by omega))
      clear hev
      generalize es[k] = x at *
      have t1 : (k : Int) < n := by omega
      have hb1 : Below w.heap.size w (wr.alloc (evObj x)) := hbel.alloc hbel.size _
      by_cases hbig : 400 < x.src.length + x.per.length + x.item.length + x.text.length
      · have hlb : longB es = true := by
          unfold longB
          have : es.any (fun e => decide (400 < e.bulk)) = true := List.any_eq_true.2 ⟨x, HMEM.out, decide_eq_true (by rw [HBU.out]; exact hbig)⟩
          rw [this]; rfl
        have HLB := Lib.hid hlb; clear hlb
        go_wp2
        go_ret
        exact ⟨ret_bool HLB.out.symm, hb1⟩
      · have HK2 := Lib.hid (HKK.out (by rw [HBU.out]; omega))
        go_wp2
        go_roundw
        case rel => exact ⟨k + 1, by go_num, by omega, hb1, HK2.out⟩
        case measure => simp [intOf]; omega
    · have hany : es.any (fun e => decide (400 < e.bulk)) = false := by
        rw [List.any_eq_false]
        intro e he
        obtain ⟨j, hj, rfl⟩ := List.getElem_of_mem he
        have := HK.out j hj (by rw [HL.out] at hj; omega)
        simpa using this
      have HA := Lib.hid hany; clear hany
      go_wp2
      go_ret
      refine ⟨ret_bool ?_, hbel⟩
      unfold longB
      rw [HA.out, Bool.false_or, HL.out]
      first | rfl | (rw [Bool.eq_iff_iff]; simp; omega)
end Go.Proofs.YtejjfhhppjdcaaaGreatDoor
namespace Go.Proofs.YtejjfhhppjdcaaaGreatDoor
open Go.RowKit Go.ChangeShapes Go.WideShapes Go.ChangeAt

/-- an event as the statements' data -/
def Ev.dat {H : Type} (e : Ev) : DataW H :=
  .agg [.lit (.string e.src), .lit (.int .i64 e.num), .lit (.int .i64 e.at_), .lit (.int .i64 e.kind), .lit (.string e.per), .lit (.string e.item), .lit (.int .i64 e.val), .lit (.string e.text)]

theorem ev_cells : Tryz.prog.cellsOf 36 = 8 := by kernel_rfl
theorem ev_cstr : Tryz.prog.cellsOf 9 = 1 := by kernel_rfl
theorem ev_cint : Tryz.prog.cellsOf 3 = 1 := by kernel_rfl
theorem ev_ckind : Tryz.prog.cellsOf 34 = 1 := by kernel_rfl

instance : Inhabited Ev := ⟨⟨[], 0, 0, 0, [], [], 0, []⟩⟩

set_option maxRecDepth 100000 in
theorem ev_of_trod {H : Type} {enc : TypeId × Value → H} {W : World} {base fuel : Nat} {sp : Nat → Bool} {held : Bool} {cs : List Value} {d : DataW H} {ps : List MemPlace}
    (h : DataW.trod enc Tryz.prog W base sp held fuel 36 cs = some (d, ps)) : ∃ e : Ev, cs = e.cells ∧ d = e.dat := by
  obtain ⟨xs, n, _, hx, hl, hlen, hf⟩ := DataW.trod_struct Tryz.underlying36 h
  rw [ev_cells] at hl
  match cs, hl with
  | [c0, c1, c2, c3, c4, c5, c6, c7], _ =>
  match xs, hlen with
  | [x0, x1, x2, x3, x4, x5, x6, x7], _ =>
  have h0 := hf 0 _ rfl
  have h1 := hf 1 _ rfl
  have h2 := hf 2 _ rfl
  have h3 := hf 3 _ rfl
  have h4 := hf 4 _ rfl
  have h5 := hf 5 _ rfl
  have h6 := hf 6 _ rfl
  have h7 := hf 7 _ rfl
  set_option linter.unusedSimpArgs false in
  simp only [ev_cstr, ev_cint, ev_ckind, List.drop_succ_cons, List.drop_zero, List.take_succ_cons, List.take_zero, List.getElem?_cons_zero, List.getElem?_cons_succ] at h0 h1 h2 h3 h4 h5 h6 h7
  obtain ⟨s0, e0, rfl, _⟩ := DataW.trod_string Tryz.underlying9 h0
  obtain ⟨n1, e1, rfl, _⟩ := DataW.trod_int Tryz.underlying3 h1
  obtain ⟨n2, e2, rfl, _⟩ := DataW.trod_int Tryz.underlying3 h2
  obtain ⟨n3, e3, rfl, _⟩ := DataW.trod_int Tryz.underlying34 h3
  obtain ⟨s4, e4, rfl, _⟩ := DataW.trod_string Tryz.underlying9 h4
  obtain ⟨s5, e5, rfl, _⟩ := DataW.trod_string Tryz.underlying9 h5
  obtain ⟨n6, e6, rfl, _⟩ := DataW.trod_int Tryz.underlying3 h6
  obtain ⟨s7, e7, rfl, _⟩ := DataW.trod_string Tryz.underlying9 h7
  injection e0 with e0; injection e1 with e1; injection e2 with e2; injection e3 with e3; injection e4 with e4; injection e5 with e5; injection e6 with e6; injection e7 with e7
  subst e0 e1 e2 e3 e4 e5 e6 e7
  refine ⟨⟨s0.data.toList, n1, n2, n3, s4.data.toList, s5.data.toList, n6, s7.data.toList⟩, ?_, ?_⟩
  · simp [Ev.cells]
  · injection hx with hx _

theorem weightsAll_mem {H : Type} {P : Program} {e : TypeId} : ∀ {ds : List (DataW H)} {d : DataW H}, d ∈ ds → ∀ n ∈ d.weights P e, n ∈ DataW.weightsAll P e ds
  | d0 :: ds, d, hd, n, hn => by
    simp only [DataW.weightsAll, List.mem_append]
    rcases List.mem_cons.1 hd with rfl | h
    · exact Or.inl hn
    · exact Or.inr (weightsAll_mem h n hn)
  | [], _, hd, _, _ => by cases hd

theorem ev_weights {H : Type} (e : Ev) : (e.dat (H := H)).weights Tryz.prog 36 = [e.src.length, e.per.length, e.item.length, e.text.length] := by
  unfold Ev.dat
  rw [DataW.weights, Tryz.underlying36]
  simp [DataW.weightsEach, DataW.weights]

theorem add_none (b o i : Nat) : (⟨b, o, none⟩ : Addr).add i = ⟨b, o + i, none⟩ := by unfold Addr.add; split <;> simp_all

/-- the events of a slice that came in; and what the form's reach says of them -/
theorem evs_of_trod {H : Type} {enc : TypeId × Value → H} {W : World} {A : Option Addr} {n c : Nat} {d : DataW H} {ps : List MemPlace}
    (h : DataW.Trod enc Tryz.prog W 0 (fun _ => true) true 22 (Value.slice A n c) d ps) (hz : ∀ m ∈ d.weights Tryz.prog 22, m ≤ reachBytes) :
    ∃ es, Evs W W.heap.size A n c es ∧ n ≤ 140737488355328 ∧ ∀ e ∈ es, e.fit := by
  obtain ⟨fuel, hf⟩ := h
  have hr : reachBytes ≤ 140737488355328 := by decide
  rcases Deep.open_slice Tryz.underlying22 hf with ⟨hcs, _⟩ | ⟨a, len, cap, m, fl, D, Pl, hcs, _, hl, hm, hmm, hx, hV⟩
  · simp [Value.cells] at hcs
    obtain ⟨rfl, rfl, rfl⟩ := hcs
    exact ⟨[], Cel.nil _ _ _ _ _ (by unfold maxLen; omega), by omega, fun e he => by cases he⟩
  · simp [Value.cells] at hcs
    obtain ⟨rfl, rfl, rfl⟩ := hcs
    have hmc : m = c := by simpa using hmm
    subst hmc
    injection hx with hd _
    rw [ev_cells] at hV
    have key : ∀ i, i < n → ∃ e : Ev, (∀ j, j < 8 → W.cell? ((a.add (i * 8)).add j) = e.cells[j]?) ∧ D i = e.dat := fun i hi => by
      obtain ⟨cs, h1, h2⟩ := hV i (by omega)
      obtain ⟨_, _, h3⟩ := World.cells?_some h1
      obtain ⟨e, rfl, he⟩ := ev_of_trod h2
      exact ⟨e, h3, he⟩
    obtain ⟨f, hfk⟩ := Deep.choose_lt (α := Ev) (p := fun i e => (∀ j, j < 8 → W.cell? ((a.add (i * 8)).add j) = e.cells[j]?) ∧ D i = e.dat) key
    have hwt : ∀ i, i < n → (f i).fit := fun i hi => by
      have hmem : (f i).dat ∈ (List.range n).map D := List.mem_map.2 ⟨i, by simpa using hi, (hfk i hi).2⟩
      have hw : ∀ k ∈ (f i).dat.weights (H := H) Tryz.prog 36, k ≤ reachBytes := fun k hk => hz k (by
        rw [hd, DataW.weights, Tryz.underlying22]
        simp only [List.mem_cons, List.mem_append]
        exact Or.inr (Or.inl (weightsAll_mem hmem k hk)))
      rw [ev_weights] at hw
      exact ⟨Nat.le_trans (hw _ (by simp)) hr, Nat.le_trans (hw _ (by simp)) hr, Nat.le_trans (hw _ (by simp)) hr, Nat.le_trans (hw _ (by simp)) hr⟩
    have hnn : n ≤ 140737488355328 := by
      have := hz ((((List.range n).map D).length + ((List.range (m - n)).map fun j => D (n + j)).length) * Tryz.prog.bytesOf 36) (by
        rw [hd, DataW.weights, Tryz.underlying22]
        exact List.mem_cons_self ..)
      have hb : Tryz.prog.bytesOf 36 = 96 := by kernel_rfl
      rw [hb] at this
      simp at this
      omega
    refine ⟨(List.range n).map f, ⟨by rw [evCells_length]; simp, hl, hm, fun h0 => ?_⟩, hnn, fun e he => ?_⟩
    · obtain ⟨b, off, spot⟩ := a
      have hc0 := (hfk 0 h0).1 0 (by omega)
      have hspot : spot = none := by
        have := World.cell?_spot (hc0.trans (show (f 0).cells[0]? = some _ from rfl))
        simpa [Addr.add] using this
      subst hspot
      refine ⟨b, off, rfl, World.block_lt_of_cell? W ⟨b, off, none⟩ (u := .string ⟨(f 0).src.toArray⟩) ?_, fun i u hi => ?_⟩
      · simpa [add_none] using hc0.trans (show (f 0).cells[0]? = some _ from rfl)
      · have hil : i < n * 8 := by
          have := (List.getElem?_eq_some_iff.1 hi).1
          rw [evCells_length] at this; simpa using this
        have e1 : i = (i / 8) * 8 + i % 8 := by omega
        have hq : i / 8 < ((List.range n).map f).length := by simp; omega
        rw [e1, evCells_get _ (i / 8) (i % 8) hq (by omega)] at hi
        have hq' : i / 8 < n := by omega
        have := (hfk (i / 8) hq').1 (i % 8) (by omega)
        rw [add_none, add_none] at this
        have e2 : off + i = off + i / 8 * 8 + i % 8 := by omega
        rw [e2, this]
        simpa using hi
    · obtain ⟨i, hi, rfl⟩ := List.mem_map.1 he
      exact hwt i (by simpa using hi)
end Go.Proofs.YtejjfhhppjdcaaaGreatDoor
namespace Go.Proofs.YtejjfhhppjdcaaaGreatDoor
open Go.RowKit Go.ChangeShapes Go.WideShapes Go.ChangeAt

theorem dj_cells : Tryz.prog.cellsOf 61 = 5 := by kernel_rfl
theorem dj_csl : Tryz.prog.cellsOf 22 = 1 := by kernel_rfl
theorem dj_cu8 : Tryz.prog.cellsOf 5 = 1 := by kernel_rfl
/-- a deed's cells -/
def djCells (e : Dj) (A : Option Addr) (n c : Nat) : List Value := [.int .u8 e.kind, .slice A n c, .string ⟨e.per.toArray⟩, .int .i64 e.from_, .int .i64 e.n]
def DjIn (W : World) (e : Dj) (cs : List Value) : Prop := ∃ A n c, cs = djCells e A n c ∧ Evs W W.heap.size A n c e.l ∧ n ≤ 140737488355328 ∧ 0 ≤ e.kind ∧ e.kind ≤ 255

set_option maxRecDepth 100000 in
theorem dj_of_trod {H : Type} {enc : TypeId × Value → H} {W : World} {fuel : Nat} {cs : List Value} {d : DataW H} {ps : List MemPlace}
    (h : DataW.trod enc Tryz.prog W 0 (fun _ => true) true fuel 61 cs = some (d, ps)) (hz : ∀ m ∈ d.weights Tryz.prog 61, m ≤ reachBytes) : ∃ e : Dj, DjIn W e cs := by
  obtain ⟨xs, n, _, hx, hl, hlen, hf⟩ := DataW.trod_struct Tryz.underlying61 h
  rw [dj_cells] at hl
  match cs, hl with
  | [c0, c1, c2, c3, c4], _ =>
  match xs, hlen with
  | [x0, x1, x2, x3, x4], _ =>
  have h0 := hf 0 _ rfl
  have h1 := hf 1 _ rfl
  have h2 := hf 2 _ rfl
  have h3 := hf 3 _ rfl
  have h4 := hf 4 _ rfl
  set_option linter.unusedSimpArgs false in
  simp only [dj_cu8, dj_csl, ev_cstr, ev_cint, List.drop_succ_cons, List.drop_zero, List.take_succ_cons, List.take_zero, List.getElem?_cons_zero, List.getElem?_cons_succ] at h0 h1 h2 h3 h4
  obtain ⟨n0, e0, rfl, w0⟩ := DataW.trod_int Tryz.underlying5 h0
  obtain ⟨s2, e2, rfl, _⟩ := DataW.trod_string Tryz.underlying9 h2
  obtain ⟨n3, e3, rfl, _⟩ := DataW.trod_int Tryz.underlying3 h3
  obtain ⟨n4, e4, rfl, _⟩ := DataW.trod_int Tryz.underlying3 h4
  injection e0 with e0; injection e2 with e2; injection e3 with e3; injection e4 with e4
  subst e0 e2 e3 e4
  obtain ⟨d1, p1⟩ := x1
  have hd : d = .agg [.lit (.int .u8 n0), d1, .lit (.string s2.data.toList), .lit (.int .i64 n3), .lit (.int .i64 n4)] := by injection hx with hx _
  have hw : ∀ m ∈ d1.weights Tryz.prog 22, m ≤ reachBytes := fun m hm => hz m (by
    rw [hd, DataW.weights, Tryz.underlying61]
    exact DataW.weights_mem_each (j := 1) (t := 22) (d := d1) rfl rfl m hm)
  have hsl : ∃ A n c, c1 = .slice A n c := by
    rcases Deep.open_slice Tryz.underlying22 h1 with ⟨hcs, _⟩ | ⟨a, len, cap, m, fl, D, Pl, hcs, _⟩
    · injection hcs with hcs; exact ⟨_, _, _, hcs⟩
    · injection hcs with hcs; exact ⟨_, _, _, hcs⟩
  obtain ⟨A, m, c, rfl⟩ := hsl
  obtain ⟨es, hes, hm, _⟩ := evs_of_trod (W := W) (A := A) (n := m) (c := c) ⟨_, h1⟩ hw
  have hb := bounds_u8 w0
  exact ⟨⟨n0, es, s2.data.toList, n3, n4⟩, A, m, c, by simp [djCells], hes, hm, hb.1, hb.2⟩

/-- the deeds of a slice that came in -/
theorem djs_of_trod {H : Type} {enc : TypeId × Value → H} {W : World} {A : Option Addr} {n c : Nat} {d : DataW H} {ps : List MemPlace}
    (h : DataW.Trod enc Tryz.prog W 0 (fun _ => true) true 57 (Value.slice A n c) d ps) (hz : ∀ m ∈ d.weights Tryz.prog 57, m ≤ reachBytes) :
    ∃ es, Djs W W.heap.size A n c es ∧ n ≤ 140737488355328 ∧ ∀ e ∈ es, 0 ≤ e.kind ∧ e.kind ≤ 255 := by
  obtain ⟨fuel, hf⟩ := h
  have hr : reachBytes ≤ 140737488355328 := by decide
  rcases Deep.open_slice Tryz.underlying57 hf with ⟨hcs, _⟩ | ⟨a, len, cap, m, fl, D, Pl, hcs, _, hl, hm, hmm, hx, hV⟩
  · simp [Value.cells] at hcs
    obtain ⟨rfl, rfl, rfl⟩ := hcs
    exact ⟨[], ⟨rfl, Nat.zero_le _, by unfold maxLen; omega, fun k hk => by simp at hk⟩, by omega, fun e he => by cases he⟩
  · simp [Value.cells] at hcs
    obtain ⟨rfl, rfl, rfl⟩ := hcs
    have hmc : m = c := by simpa using hmm
    subst hmc
    injection hx with hd _
    rw [dj_cells] at hV
    have hwD : ∀ i, i < n → ∀ k ∈ (D i).weights Tryz.prog 61, k ≤ reachBytes := fun i hi k hk => hz k (by
      rw [hd, DataW.weights, Tryz.underlying57]
      simp only [List.mem_cons, List.mem_append]
      exact Or.inr (Or.inl (weightsAll_mem (List.mem_map.2 ⟨i, by simpa using hi, rfl⟩) k hk)))
    have key : ∀ i, i < n → ∃ e : Dj, ∃ cs, DjIn W e cs ∧ ∀ j, j < 5 → W.cell? ((a.add (i * 5)).add j) = cs[j]? := fun i hi => by
      obtain ⟨cs, h1, h2⟩ := hV i (by omega)
      obtain ⟨_, _, h3⟩ := World.cells?_some h1
      obtain ⟨e, he⟩ := dj_of_trod h2 (hwD i hi)
      exact ⟨e, cs, he, h3⟩
    obtain ⟨f, hfk⟩ := Deep.choose_lt (α := Dj) (p := fun i e => ∃ cs, DjIn W e cs ∧ ∀ j, j < 5 → W.cell? ((a.add (i * 5)).add j) = cs[j]?) key
    have hnn : n ≤ 140737488355328 := by
      have := hz ((((List.range n).map D).length + ((List.range (m - n)).map fun j => D (n + j)).length) * Tryz.prog.bytesOf 61) (by
        rw [hd, DataW.weights, Tryz.underlying57]
        exact List.mem_cons_self ..)
      have hb : Tryz.prog.bytesOf 61 = 64 := by kernel_rfl
      rw [hb] at this
      simp at this
      omega
    refine ⟨(List.range n).map f, ⟨by simp, hl, hm, fun k hk => ?_⟩, hnn, fun e he => ?_⟩
    · have hkn : k < n := by simpa using hk
      obtain ⟨cs, ⟨A1, n1, c1, rfl, hev, hn1, _⟩, hc⟩ := hfk k hkn
      obtain ⟨b, off, spot⟩ := a
      have hspot : spot = none := by
        obtain ⟨cs0, ⟨A0, n0, c0, rfl, _⟩, hc0⟩ := hfk 0 (by omega)
        have := World.cell?_spot ((hc0 0 (by omega)).trans (show (djCells (f 0) A0 n0 c0)[0]? = some _ from rfl))
        simpa [Addr.add] using this
      subst hspot
      have hj : ∀ j, j < 5 → W.cell? ⟨b, off + k * 5 + j, none⟩ = (djCells (f k) A1 n1 c1)[j]? := fun j hj => by
        have := hc j hj; rw [add_none, add_none] at this; exact this
      rw [show ((List.range n).map f)[k] = f k by simp]
      refine ⟨b, off, rfl, World.block_lt_of_cell? W ⟨b, off + k * 5, none⟩ ((hj 0 (by omega)).trans rfl), (hj 0 (by omega)).trans rfl, ⟨A1, n1, c1, (hj 1 (by omega)).trans rfl, hev, hn1⟩, (hj 2 (by omega)).trans rfl, (hj 3 (by omega)).trans rfl, (hj 4 (by omega)).trans rfl⟩
    · obtain ⟨i, hi, rfl⟩ := List.mem_map.1 he
      obtain ⟨cs, ⟨_, _, _, _, _, _, h0, h1⟩, _⟩ := hfk i (by simpa using hi)
      exact ⟨h0, h1⟩
end Go.Proofs.YtejjfhhppjdcaaaGreatDoor
namespace Go.Proofs.YtejjfhhppjdcaaaGreatDoor
open Go.RowKit

def firstInts : List Int := List.replicate 128 240 ++ List.replicate 66 241 ++ List.replicate 30 2 ++ [19] ++ List.replicate 12 3 ++ [35, 3, 3, 52, 4, 4, 4, 68] ++ List.replicate 11 241
def rangeInts : List Int := [128, 191, 160, 191, 128, 159, 144, 191, 128, 143] ++ List.replicate 22 0
def layInts (l : List Int) : Obj → Obj
  | .cells _ t frozen => .cells (l.map (Value.int .u8)).toArray t frozen
  | o => o
/-- the values of a laid table -/
def datVal : DataW Unit → Value
  | .lit (.int k z) => .int k z
  | _ => .bool false
def datVals : DataW Unit → List Value
  | .agg l => l.map datVal
  | _ => []
def layVals (d : DataW Unit) : Obj → Obj
  | .cells _ t frozen => .cells (datVals d).toArray t frozen
  | o => o
noncomputable def laidWorld (os : Os) : World :=
  { World.holding Tryz.prog os ⟨#[], #[], []⟩ with
    heap := ((((((World.holding Tryz.prog os ⟨#[], #[], []⟩).heap.modify 4 (layInts firstInts)).modify 5 (layInts rangeInts)).modify 2 (layVals Rows.laid_math_bits_deBruijn32tab)).modify 3 (layVals Rows.laid_math_bits_deBruijn64tab)).modify 0 (layVals Rows.laid_internal_strconv_uint64pow10)) }
end Go.Proofs.YtejjfhhppjdcaaaGreatDoor
