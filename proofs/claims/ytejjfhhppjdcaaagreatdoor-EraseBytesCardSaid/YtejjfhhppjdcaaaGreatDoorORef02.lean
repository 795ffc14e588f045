/-
  A map from texts to bools that is used as a set: made, stored into, asked, told rising.
  Layer 31: erase.sieve.
  Slices of texts in memory.
  Layer 2: the document's Same, Texts, Big, Some.
-/
import Derived.Test.YtejjfhhppjdcaaaGreatDoorOStepApp
import Derived.StringKeys
import Derived.Maps.OwnSet
import Derived.Maps.OwnOps
import Derived.Sort.KeysCollected
namespace Go.Proofs.YtejjfhhppjdcaaaGreatDoor
open Go.RowKit Go.Maps Go.Sort

theorem keyS : Keyed Tryz.prog 9 := string_keyed Tryz.underlying9
theorem zeroB (w : World) : (zeroValue 4).run Tryz.prog w = .ok (.bool false) w := by kernel_rfl

theorem plainElem_bool_inv {P : Program} {e : TypeId} (he : P.underlying e = some .bool) {v : Value} {x : Bool} {ps : List MemPlace} (h : plainElem (H := Unit) P e v = some (.lit (.bool x), ps)) : v = .bool x := by
  cases v <;> simp [plainElem, he] at h
  rw [h.1]

/-- block b is a map that holds true just at these texts, and nothing else -/
def SetB (w : World) (b n : Nat) (ks : List (List UInt8)) : Prop :=
  ∃ D : DataW Unit, w.ownsMap Tryz.prog 9 (plainElem Tryz.prog 4) b n D ∧ Tidy D ∧ ∀ k : List UInt8, D.atKey (.string k) (.lit (.bool false)) = .lit (.bool (decide (k ∈ ks))) ∧ has D (.string k) = decide (k ∈ ks)

theorem SetB.made (w : World) : SetB (w.alloc (.map #[] 0)) w.heap.size 0 [] :=
  ⟨.map [], World.ownsMap_made _ _ _ _, tidy_empty, fun k => ⟨by simp [DataW.atKey], by simp [has]⟩⟩
theorem SetB.lt {w : World} {b n : Nat} {ks : List (List UInt8)} (h : SetB w b n ks) : b < w.heap.size := by obtain ⟨D, h1, _⟩ := h; exact h1.lt
theorem SetB.block {w w' : World} {b n : Nat} {ks : List (List UInt8)} (h : SetB w b n ks) (hb : w'.heap[b]? = w.heap[b]?) : SetB w' b n ks := by
  obtain ⟨D, ⟨es, clock, h1, h2⟩, h3⟩ := h
  exact ⟨D, ⟨es, clock, hb.trans h1, h2⟩, h3⟩
theorem SetB.below {w w' : World} {b n B : Nat} {ks : List (List UInt8)} (h : SetB w b n ks) (hb : Below B w w') (hB : b < B) : SetB w' b n ks := h.block (hb.block b hB)
theorem SetB.alloc {w : World} {b n : Nat} {ks : List (List UInt8)} (h : SetB w b n ks) (o : Obj) : SetB (w.alloc o) b n ks := h.block (Below.heap_alloc w o b h.lt)
theorem SetB.drewN {w : World} {b n : Nat} {ks : List (List UInt8)} (h : SetB w b n ks) (k : Nat) : SetB (w.drewN k) b n ks := h.block rfl

theorem key_str (k : List UInt8) (hk : k.length ≤ maxLen) : keyOf Tryz.prog 9 (.string ⟨k.toArray⟩) = some (.string k) := by
  have := WideMaps.keyOf_string_mk (P := Tryz.prog) Tryz.underlying9 (s := ⟨k.toArray⟩) (by simpa [ByteArray.size] using hk)
  simpa using this

theorem SetB.look {w : World} {b n : Nat} {ks : List (List UInt8)} (h : SetB w b n ks) (k : List UInt8) (hk : k.length ≤ maxLen) :
    (Instr.lookup 134 (.map (some b)) (.string ⟨k.toArray⟩) false).run Tryz.prog w = .ok (.bool (decide (k ∈ ks))) w := by
  obtain ⟨D, h1, _, h3⟩ := h
  obtain ⟨v, ps, hr, hv⟩ := h1.lookup keyS Tryz.underlying134 (zeroB w) (plainElem_bool (P := Tryz.prog) Tryz.underlying4 false) (key_str k hk)
  rw [hr]
  rw [(h3 k).1] at hv
  rw [plainElem_bool_inv Tryz.underlying4 hv]

theorem SetB.put {w : World} {b n : Nat} {ks : List (List UInt8)} (h : SetB w b n ks) (hn : n < maxLen) (k : List UInt8) (hk : k.length ≤ maxLen) :
    ∃ w', (Instr.mapUpdate 134 (.map (some b)) (.string ⟨k.toArray⟩) (.bool true)).run Tryz.prog w = .ok () w' ∧ SetB w' b (n + 1) (k :: ks) ∧ w.grownBy w' (some b) := by
  obtain ⟨D, h1, h2, h3⟩ := h
  obtain ⟨w', hr, r1, r2⟩ := h1.update keyS Tryz.underlying134 hn (key_str k hk) (plainElem_bool (P := Tryz.prog) Tryz.underlying4 true)
  have hkl : WideAt.IsKeyLit (.string k) := keyS.key (key_str k hk)
  refine ⟨w', hr, ⟨D.put (.string k) (.lit (.bool true)), r1, h2.put hkl _, fun x => ?_⟩, r2⟩
  by_cases e : x = k
  · subst e
    exact ⟨by rw [atKey_put_same h2.isMap hkl]; simp, by rw [has_put_same h2.isMap hkl]; simp⟩
  · have hne : Lit.string x ≠ .string k := fun h => e (by injection h)
    rw [atKey_put_other hne, has_put_other hne, (h3 x).1, (h3 x).2]
    have : decide (x ∈ k :: ks) = decide (x ∈ ks) := by simp [e]
    rw [this]
    exact ⟨rfl, rfl⟩

theorem wpList_setput {ops : Array Oper} {rest : List Oper} {o : Oper} {a : Act} {Q : Exit → Act → World → Prop} {w : World} (hg : o.guard = none) (m x v : Operand) (hop : o.op = Op.mapUpdate 134 m x v)
    (b n : Nat) (ks : List (List UInt8)) (hm : a.eval m = .map (some b)) (hown : SetB w b n ks) (hn : n < maxLen) (k : List UInt8) (hx : a.eval x = .string ⟨k.toArray⟩) (hk : k.length ≤ maxLen) (hv : a.eval v = .bool true)
    (h : ∀ w', SetB w' b (n + 1) (k :: ks) → w.grownBy w' (some b) → wpList Tryz.prog ops Q rest (a.put o.dst undef) w') : wpList Tryz.prog ops Q (o :: rest) a w := by
  refine wpList_plain hg fun K hK => ?_
  obtain ⟨w', hr, h1, h2⟩ := hown.put hn k hk
  unfold Oper.wp
  simp [execOp, hop, hm, hx, hv, hr, Result.andThen]
  exact hK _ _ (h w' h1 h2)

/-- the keys, as they are told sorted -/
theorem SetB.perm {w : World} {b n : Nat} {ks : List (List UInt8)} {D : DataW Unit} (h1 : w.ownsMap Tryz.prog 9 (plainElem Tryz.prog 4) b n D) (h3 : ∀ k : List UInt8, has D (.string k) = decide (k ∈ ks)) {ss : List (List UInt8)} (hnd : ss.Nodup) (hm : ∀ x, x ∈ ss ↔ x ∈ ks) :
    ss.Perm (strKeys D) := by
  obtain ⟨es, hD, hpw, _⟩ := h1.entries keyS
  obtain ⟨es', hD', hko⟩ := h1.keysOf
  obtain rfl : es = es' := by rw [hD] at hD'; simpa using hD'
  subst hD
  exact perm_strKeys hpw (fun p hp => by obtain ⟨v, hv⟩ := hko p hp; obtain ⟨x, _, hx, _⟩ := Maps.keyOf_str Tryz.underlying9 hv; exact ⟨x, hx⟩) hnd (fun x => by rw [h3 x, hm x]; simp)
end Go.Proofs.YtejjfhhppjdcaaaGreatDoor
namespace Go.Proofs.YtejjfhhppjdcaaaGreatDoor
open Go.RowKit

/-- it gives b, and changes nothing that was there -/
def Says (b : Bool) (w : World) (e : Ending) (w' : World) : Prop := e = .returned (.bool b) ∧ Below w.heap.size w w'

/-- v is a slice of the call's own that holds just these events -/
def OwnE (w : World) (base : Nat) (v : Value) (es : List Ev) : Prop := w.ownsRow base 36 8 v es.length (evCells es)

def SievePost (w : World) (es : List Ev) (p : Ev → Bool) (e : Ending) (w' : World) : Prop :=
  ∃ v, e = .returned v ∧ OwnE w' w.heap.size v (es.filter p) ∧ Below w.heap.size w w'

def SieveRel (w : World) (n : Nat) (es : List Ev) (p : Ev → Bool) (v i : Value) (wr : World) : Prop :=
  ∃ k : Nat, i = .int .i64 k ∧ k ≤ n ∧ OwnE wr w.heap.size v ((es.take k).filter p) ∧ Below w.heap.size w wr

set_option maxHeartbeats 1000000 in
set_option maxRecDepth 100000 in
theorem sieve_any (w : World) (A : Option Addr) (n c : Nat) (es : List Ev) (h : Evs w w.heap.size A n c es) (F : Nat) (caps : Array Value) (p : Ev → Bool) (hn : n ≤ 1000)
    (hcall : ∀ (args : Array Value) (w : World), (callFunc F args).run Tryz.prog w = .ok (.enter F args) w)
    (hf : ∀ (w1 : World) (e : Ev), e ∈ es → Below w.heap.size w w1 → Calls Tryz.prog F (#[e.agg] ++ caps) w1 (Says (p e) w1)) :
    Calls Tryz.prog 116 #[.slice A n c, .func (.func F) #[] caps] w (SievePost w es p) := by
  have HH := Lib.hid h; clear h
  have HF := Lib.hid hf; clear hf
  go_enter Tryz.func116, Tryz.ntmps116
  go_wp2
  go_loopw [5, 10] (fun v i wr => SieveRel w n es p v i wr) (fun _ i _ => n - (intOf i).toNat)
  case atStart => exact ⟨0, rfl, Nat.zero_le _, World.ownsRow_nil _ _ _ _, Below.refl _ _⟩
  case round =>
    obtain ⟨k, rfl, hk, hown, hbel⟩ := hrel
    have HO := Lib.hid hown; clear hown
    by_cases hkn : k < n
    · have hkl : k < es.length := by rw [HH.out.len]; exact hkn
      obtain ⟨b, off, rfl, hb, hev⟩ := HH.out.ev k hkl
      obtain ⟨e0, e1, e2, e3, e4, e5, e6, e7⟩ := hev.below hbel hb
      have HTK := Lib.hid (show (es.take (k + 1)).filter p = (es.take k).filter p ++ (if p es[k] then [es[k]] else []) by
        rw [List.take_add_one, List.getElem?_eq_getElem hkl, Option.toList_some, List.filter_append]
        simp [List.filter_cons])
      have HM := Lib.hid (List.getElem_mem hkl)
      generalize es[k] = x at *
      have t1 : (k : Int) < n := by omega
      go_wp2_with fail
      have hb1 : Below w.heap.size w (wr.alloc (evObj x)) := hbel.alloc hbel.size _
      refine (HF.out _ x HM.out hb1).mono ?_
      rintro e w1 ⟨rfl, hbw1⟩
      have hbw : Below w.heap.size w w1 := hb1.trans (hbw1.mono hb1.size)
      have hs1 : wr.heap.size + 1 ≤ w1.heap.size := by have := hbw1.size; simp at this; omega
      have hs0 := hbel.size
      have HOW := Lib.hid (ownsRow_below (World.ownsRow.alloc HO.out (evObj x)) hbw1 (Nat.le_refl _))
      have hin := (EvIn.new wr x).below hbw1 (by simp)
      obtain ⟨f0, f1, f2, f3, f4, f5, f6, f7⟩ := hin
      clear e0 e1 e2 e3 e4 e5 e6 e7 hb1 hbw1 hev hcall
      have hlen : ((es.take k).filter p).length ≤ k := by
        have := List.length_filter_le p (es.take k); rw [List.length_take] at this; omega
      cases hp : p x
      · have HT : Hid ((es.take (k + 1)).filter p = (es.take k).filter p) := by have := HTK.out; rw [hp] at this; unfold Hid; simpa using this
        clear hp HTK
        go_wp2
        go_roundw
        case rel => exact ⟨k + 1, by go_num, by omega, by rw [HT.out]; exact HOW.out, hbw⟩
        case measure => simp [intOf]; omega
      · have HT : Hid ((es.take (k + 1)).filter p = (es.take k).filter p ++ [x]) := by have := HTK.out; rw [hp] at this; unfold Hid; simpa using this
        clear hp HTK
        obtain ⟨i0, hi, hz0, hz1, hz2⟩ := info_parts ev_info
        have HI := Lib.hid hi; have HZ0 := Lib.hid hz0; have HZ1 := Lib.hid hz1; have HZ2 := Lib.hid hz2
        clear hi hz0 hz1 hz2
        go_wp2_with (at_builtin; refine wpList_app (P := Tryz.prog) rfl (.tmp 17) (.tmp 19) 22 rfl 36 i0 _ 8 96 Tryz.underlying22 HI.out HZ0.out HZ1.out HZ2.out rfl (by decide) w.heap.size _ ((es.take k).filter p).length (evCells ((es.take k).filter p)) rfl ?c1 (w1.heap.size + 1) _ _ _ x.cells rfl ?c2 (cells_one x) ?c4 ?c5 ?c6 ?_)
        case c1 => exact World.ownsRow.alloc HOW.out _
        case c2 => exact Cel.new w1 _ _ (by unfold maxLen; omega) rfl
        case c4 => unfold maxLen; omega
        case c5 => omega
        case c6 => first | omega | (simp; omega)
        intro v' w2 hown2 hg2 _
        have hb2 : Below w.heap.size w w2 := Below.grown (hbw.alloc (by omega) _) hg2 (by simp; omega) (fun k' hk' => (HOW.out.lt k' hk').1)
        have HO2 := Lib.hid hown2
        have HB2 := Lib.hid hb2
        clear hown2 hg2 hb2 f0 f1 f2 f3 f4 f5 f6 f7
        go_wp2
        go_roundw
        case rel =>
          refine ⟨k + 1, by go_num, by omega, ?_, HB2.out⟩
          rw [HT.out]
          unfold OwnE
          rw [evCells_one, List.length_append]
          exact HO2.out
        case measure => simp [intOf]; omega
    · have hkk : es.take k = es := List.take_of_length_le (by rw [HH.out.len]; omega)
      have HKK := Lib.hid hkk; clear hkk
      go_wp2
      go_ret
      exact ⟨u5, rfl, by have := HO.out; rw [HKK.out] at this; exact this, hbel⟩
end Go.Proofs.YtejjfhhppjdcaaaGreatDoor
namespace Go.Proofs.YtejjfhhppjdcaaaGreatDoor
open Go.RowKit Go.Maps Go.Sort

theorem str_info : (Tryz.prog.info? 9).map (fun i => (i.zero, i.size, i.bytes)) = some (some (.string ByteArray.empty), 1, 16) := by kernel_rfl

/-- the slice value 'A, n, c' reads as these texts -/
def Strs (w : World) (B : Nat) (A : Option Addr) (n c : Nat) (ss : List (List UInt8)) : Prop := Cel w B 1 A n c (ss.map encStr)
theorem Strs.len {w : World} {B n c : Nat} {A : Option Addr} {ss : List (List UInt8)} (h : Strs w B A n c ss) : ss.length = n := by
  have := Cel.len h; simpa using this
theorem Strs.at_ {w : World} {B n c : Nat} {A : Option Addr} {ss : List (List UInt8)} (h : Strs w B A n c ss) (k : Nat) (hk : k < ss.length) :
    ∃ b off, A = some ⟨b, off, none⟩ ∧ b < B ∧ w.cell? ⟨b, off + k, none⟩ = some (.string ⟨ss[k].toArray⟩) := by
  have hl := h.len
  obtain ⟨b, off, e, hb, hc⟩ := Cel.cell h (by omega)
  exact ⟨b, off, e, hb, hc k _ (by simp [hk, encStr])⟩

end Go.Proofs.YtejjfhhppjdcaaaGreatDoor
namespace Go.Proofs.YtejjfhhppjdcaaaGreatDoor
open Go.RowKit Go.Maps Go.Sort

set_option maxRecDepth 100000 in
set_option maxHeartbeats 2000000 in
theorem same02_any (w : World) (B B' : Nat) (A A' : Option Addr) (n c c' : Nat) (es : List Ev) (h : Evs w B A n c es) (h' : Evs w B' A' n c' es) (hn : n ≤ 100000) :
    Calls Tryz.prog 38 #[.slice A n c, .slice A' n c'] w fun e w' => e = .returned (.bool true) ∧ ∃ k, w' = w.drewN k := by
  have HH := Lib.hid h; clear h
  have HH' := Lib.hid h'; clear h'
  have hnn : ((n : Int) != (n : Int)) = false := by simp
  go_enter Tryz.func38, Tryz.ntmps38
  go_wp2
  clear hnn
  go_loopw [5] (fun i wr => ∃ k q : Nat, i = .int .i64 k ∧ k ≤ n ∧ wr = w.drewN q) (fun i _ => n - (intOf i).toNat)
  case atStart => exact ⟨0, 0, rfl, Nat.zero_le _, rfl⟩
  case round =>
    obtain ⟨k, q, rfl, hk, rfl⟩ := hrel
    by_cases hkn : k < n
    · have hkl : k < es.length := by rw [HH.out.len]; exact hkn
      obtain ⟨b, off, rfl, hb, hc⟩ := HH.out.ev k hkl
      obtain ⟨b', off', rfl, hb', hc'⟩ := HH'.out.ev k hkl
      obtain ⟨e0, e1, e2, e3, e4, e5, e6, e7⟩ := hc
      obtain ⟨f0, f1, f2, f3, f4, f5, f6, f7⟩ := hc'
      have t1 : (k : Int) < n := by omega
      generalize es[k] = x at *
      go_wp2
      go_quiet (fail)
      go_wp2
      go_roundw
      case rel => exact ⟨k + 1, q + nq, by go_num, by omega, by first | rfl | exact World.drewN_drewN ..⟩
      case measure => simp [intOf]; omega
    · go_wp2
      go_ret
      exact ⟨rfl, _, rfl⟩

def bigB (e : Ev) (m : Int) : Bool := decide (m < e.src.length) || decide (m < e.per.length) || decide (m < e.item.length) || decide (m < e.text.length)
theorem big_any (w : World) (e : Ev) (m : Int) : Calls Tryz.prog 45 #[e.agg, .int .i64 m] w (Says (bigB e m) w) := by
  have HB := Lib.hid (show bigB e m = (decide (m < e.src.length) || decide (m < e.per.length) || decide (m < e.item.length) || decide (m < e.text.length)) from rfl)
  have hb : Below w.heap.size w (w.alloc (evObj e)) := (Below.refl _ _).alloc (Nat.le_refl _) _
  unfold Ev.agg
  cases h1 : decide (m < (e.src.length : Int))
  · cases h2 : decide (m < (e.per.length : Int))
    · cases h3 : decide (m < (e.item.length : Int))
      · have HX := Lib.hid (show bigB e m = decide (m < e.text.length) by rw [HB.out, h1, h2, h3]; rfl)
        go_enter Tryz.func45, Tryz.ntmps45
        go_wp2
        go_ret
        exact ⟨ret_bool HX.out.symm, hb⟩
      · have HX := Lib.hid (show bigB e m = true by rw [HB.out, h1, h2, h3]; rfl)
        go_enter Tryz.func45, Tryz.ntmps45
        go_wp2
        go_ret
        exact ⟨ret_bool HX.out.symm, hb⟩
    · have HX := Lib.hid (show bigB e m = true by rw [HB.out, h1, h2]; rfl)
      go_enter Tryz.func45, Tryz.ntmps45
      go_wp2
      go_ret
      exact ⟨ret_bool HX.out.symm, hb⟩
  · have HX := Lib.hid (show bigB e m = true by rw [HB.out, h1]; rfl)
    go_enter Tryz.func45, Tryz.ntmps45
    go_wp2
    go_ret
    exact ⟨ret_bool HX.out.symm, hb⟩
end Go.Proofs.YtejjfhhppjdcaaaGreatDoor
