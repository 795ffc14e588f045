/-
  Layer 2, the document's: Less.
  Layer 8, the document's: In, Twin, Without.
-/
import Derived.Test.YtoljbbmjbgepiaaGreatDoorMItkPlain
import Derived.Test.YtoljbbmjbgepiaaGreatDoorMRef02
import Derived.StillTailTactics
namespace Go.Proofs.YtoljbbmjbgepiaaGreatDoor
open Go.RowKit Go.Maps Go.Sort

theorem blbb2 : ∀ a b : List UInt8, Op.bytesLess a b = bytesBefore a b
  | [], [] => rfl
  | [], _ :: _ => rfl
  | _ :: _, [] => rfl
  | x :: a, y :: b => by unfold Op.bytesLess bytesBefore; rw [blbb2 a b]
set_option maxHeartbeats 2000000 in
theorem rless_any (w : World) (a b : Ev) : Calls Tryz.prog 143 #[a.agg, b.agg] w (Says (decide (LtE a b)) w) := by
  have HLT := Lib.hid (show LtE a b ↔ (a.at_ < b.at_ ∨ (a.at_ = b.at_ ∧ (bytesBefore a.src b.src = true ∨ (a.src = b.src ∧ a.num < b.num)))) from Iff.rfl)
  have hb1 : Below w.heap.size w (w.alloc (evObj a)) := (Below.refl _ _).alloc (Nat.le_refl _) _
  have hb : Below w.heap.size w ((w.alloc (evObj a)).alloc (evObj b)) := hb1.alloc (by simp) _
  have hbs := blbb2 a.src b.src
  unfold Ev.agg
  by_cases h1 : a.at_ = b.at_
  · by_cases h2 : a.src = b.src
    · have HR := Lib.hid (show decide (LtE a b) = decide (a.num < b.num) by
        rw [decide_eq_decide, HLT.out, h1, h2, bb_irrefl]; simp)
      have c1 : (a.at_ == b.at_) = true := by simp [h1]
      have c2 : (a.src == b.src) = true := by simp [h2]
      have c1' : (a.at_ != b.at_) = false := by simp [h1]
      have c2' : (a.src != b.src) = false := by simp [h2]
      clear h1 h2 HLT hbs
      go_enter Tryz.func143, Tryz.ntmps143
      go_wp2
      go_ret
      exact ⟨ret_bool HR.out.symm, hb⟩
    · have HR := Lib.hid (show decide (LtE a b) = Op.bytesLess a.src b.src by
        rw [hbs, Bool.eq_iff_iff, decide_eq_true_iff, HLT.out, h1]; simp [h2])
      have c1 : (a.at_ == b.at_) = true := by simp [h1]
      have c2 : (a.src == b.src) = false := by simp [h2]
      have c1' : (a.at_ != b.at_) = false := by simp [h1]
      have c2' : (a.src != b.src) = true := by simp [h2]
      clear h1 h2 HLT hbs
      go_enter Tryz.func143, Tryz.ntmps143
      go_wp2
      go_ret
      exact ⟨ret_bool HR.out.symm, hb⟩
  · have HR := Lib.hid (show decide (LtE a b) = decide (a.at_ < b.at_) by
      rw [decide_eq_decide, HLT.out]
      constructor
      · rintro (h | ⟨h, _⟩)
        · exact h
        · exact absurd h h1
      · exact .inl)
    have c1 : (a.at_ == b.at_) = false := by simp [h1]
    have c1' : (a.at_ != b.at_) = true := by simp [h1]
    clear h1 HLT hbs
    go_enter Tryz.func143, Tryz.ntmps143
    go_wp2
    go_ret
    exact ⟨ret_bool HR.out.symm, hb⟩
theorem pos_back {e : Ev} {l : List Ev} (hs : SortedE l) (j : Nat) (hj : j ≤ l.length) (h1 : ∀ i (h : i < l.length), j ≤ i → LtE e l[i]) (h2 : ∀ h : 0 < j, ¬ LtE e (l[j - 1]'(by omega))) : j = posE e l := by
  refine posE_search j hj (fun i hi hij hlt => ?_) h1
  by_cases e0 : i = j - 1
  · subst e0; exact h2 (by omega) hlt
  · have hle : LeE l[i] (l[j - 1]'(by omega)) := List.pairwise_iff_getElem.1 hs i (j - 1) hi (by omega) (by omega)
    exact h2 (by omega) (hle.lt hlt)
def sortL (l : List Ev) : List Ev := l.foldl (fun out e => insE e out) []
theorem sortL_snoc (l : List Ev) (e : Ev) : sortL (l ++ [e]) = insE e (sortL l) := by unfold sortL; simp
theorem sortL_sorted : ∀ (l : List Ev), SortedE (sortL l) := fun l => by
  suffices h : ∀ (l out : List Ev), SortedE out → SortedE (l.foldl (fun out e => insE e out) out) from h l [] List.Pairwise.nil
  intro l
  induction l with
  | nil => intro out h; exact h
  | cons e l ih => intro out h; exact ih _ (insE_sorted h)
theorem sortL_length (l : List Ev) : (sortL l).length = l.length := by
  suffices h : ∀ (l out : List Ev), (l.foldl (fun out e => insE e out) out).length = out.length + l.length by
    have := h l []; unfold sortL; simpa using this
  intro l
  induction l with
  | nil => intro out; rfl
  | cons e l ih => intro out; rw [List.foldl_cons, ih, insE_length, List.length_cons]; omega
theorem insE_last {e : Ev} {l : List Ev} (h : ∀ a ∈ l, ¬ LtE e a) : insE e l = l ++ [e] := by
  have : l.takeWhile (fun a => !decide (LtE e a)) = l := by
    have : ∀ a ∈ l, (fun a => !decide (LtE e a)) a = true := fun a ha => by simpa using h a ha
    clear this
    induction l with
    | nil => rfl
    | cons a l ih => rw [List.takeWhile_cons_of_pos (by simpa using h a (by simp)), ih fun b hb => h b (by simp [hb])]
  have h2 : l.dropWhile (fun a => !decide (LtE e a)) = [] := by
    have e0 : l.takeWhile (fun a => !decide (LtE e a)) ++ l.dropWhile (fun a => !decide (LtE e a)) = l := List.takeWhile_append_dropWhile
    rw [this] at e0
    simpa using e0
  unfold insE
  rw [this, h2]
theorem sortL_same {l : List Ev} (h : SortedE l) : sortL l = l := by
  suffices hh : ∀ (l out : List Ev), SortedE (out ++ l) → l.foldl (fun out e => insE e out) out = out ++ l from hh l [] h
  intro l
  induction l with
  | nil => intro out _; simp
  | cons e l ih =>
    intro out h
    rw [List.foldl_cons, insE_last (fun a ha => (List.pairwise_append.1 h).2.2 a ha e (by simp))]
    rw [ih (out ++ [e]) (by simpa using h)]
    simp
end Go.Proofs.YtoljbbmjbgepiaaGreatDoor
namespace Go.Proofs.YtoljbbmjbgepiaaGreatDoor
open Go.RowKit Go.Maps Go.Sort

set_option maxHeartbeats 1000000 in
theorem rin08_any (w : World) (B : Nat) (A : Option Addr) (n c : Nat) (ss : List (List UInt8)) (h : Strs w B A n c ss) (hn : n ≤ 100000) (s : List UInt8) :
    Calls Tryz.prog 29 #[.slice A n c, .string ⟨s.toArray⟩] w fun e w' => e = .returned (.bool (decide (s ∈ ss))) ∧ w = w' := by
  have HH := Lib.hid h; clear h
  go_enter Tryz.func29, Tryz.ntmps29
  go_wp2
  go_loop [5] (fun i => ∃ k : Nat, i = .int .i64 k ∧ k ≤ n ∧ Hid (∀ j (hj : j < ss.length), j < k → ss[j] ≠ s)) (fun i => n - (intOf i).toNat)
  case atStart => exact ⟨0, rfl, Nat.zero_le _, fun j _ h => by omega⟩
  case round =>
    obtain ⟨k, rfl, hk, HK⟩ := hrel
    by_cases hkn : k < n
    · have hkl : k < ss.length := by rw [HH.out.len]; exact hkn
      obtain ⟨b, off, rfl, hb, hc⟩ := HH.out.at_ k hkl
      have t1 : (k : Int) < n := by omega
      cases he : (ss[k] == s)
      · have hne : ss[k] ≠ s := by simpa using he
        have HN := Lib.hid hne; clear hne
        go_wp2
        go_round
        case rel => exact ⟨k + 1, by go_num, by omega, fun j hj hlt => by
          by_cases e : j = k
          · subst e; exact HN.out
          · exact HK.out j hj (by omega)⟩
        case measure => simp [intOf]; omega
      · have hin : s ∈ ss := by have : ss[k] = s := by simpa using he
                                rw [← this]; exact List.getElem_mem hkl
        have HI := Lib.hid hin; clear hin
        go_wp2
        go_ret
        exact ⟨ret_bool (decide_eq_true HI.out).symm, rfl⟩
    · have hni : s ∉ ss := fun hin => by
        obtain ⟨j, hj, e⟩ := List.getElem_of_mem hin
        exact HK.out j hj (by rw [HH.out.len] at hj; omega) e
      have HI := Lib.hid hni; clear hni
      go_wp2
      go_ret
      exact ⟨ret_bool (decide_eq_false HI.out).symm, rfl⟩


def twinB (es : List Ev) (e : Ev) : Bool := decide (idOf e ∈ es.map idOf)
def TwRel (w1 : World) (es : List Ev) (e : Ev) (i : Value) (wr : World) : Prop := ∃ k q : Nat, i = .int .i64 k ∧ k ≤ es.length ∧ (∀ a ∈ es.take k, idOf a ≠ idOf e) ∧ wr = w1.drewN q
set_option maxRecDepth 100000 in
set_option maxHeartbeats 2000000 in
theorem rtwin_any (w : World) (A : Option Addr) (n c : Nat) (es : List Ev) (h : Evs w w.heap.size A n c es) (hn : n ≤ 100000) (e : Ev) :
    Calls Tryz.prog 74 #[.slice A n c, e.agg] w (Says (twinB es e) w) := by
  have HH := Lib.hid h; clear h
  have HL := Lib.hid HH.out.len
  have hb1 : Below w.heap.size w (w.alloc (evObj e)) := (Below.refl _ _).alloc (Nat.le_refl _) _
  have HE1 := Lib.hid (EvIn.new w e)
  have HH1 := Lib.hid (show Evs (w.alloc (evObj e)) w.heap.size A n c es from Cel.below HH.out hb1)
  have hsw : (w.alloc (evObj e)).heap.size = w.heap.size + 1 := by simp
  unfold Ev.agg
  go_enter Tryz.func74, Tryz.ntmps74
  go_wp2
  generalize w.alloc (evObj e) = w1 at *
  go_loopw [5] (fun i wr => TwRel w1 es e i wr) (fun i _ => n - (intOf i).toNat)
  case atStart => exact ⟨0, 0, rfl, Nat.zero_le _, fun a ha => by simp at ha, rfl⟩
  case round =>
    obtain ⟨k, q, rfl, hk, hno, hwr⟩ := hrel
    have HNO := Lib.hid hno; clear hno
    have hbq : Below w.heap.size w wr := by rw [hwr]; exact below_drewN hb1 q
    have HHQ := Lib.hid (show Evs wr w.heap.size A n c es by rw [hwr]; exact HH1.out.drewN q)
    have HEQ := Lib.hid (show EvIn wr w.heap.size e by rw [hwr]; exact HE1.out)
    have HQQ := Lib.hid (show ∀ m, ∃ q', wr.drewN m = w1.drewN q' from fun m => by rw [hwr]; exact ⟨_, World.drewN_drewN ..⟩)
    clear hwr
    by_cases hkn : k < n
    · have hkl : k < es.length := by have := HL.out; omega
      obtain ⟨b, off, rfl, hb, hev⟩ := HHQ.out.ev k hkl
      obtain ⟨e0, e1, e2, e3, e4, e5, e6, e7⟩ := hev
      obtain ⟨g0, g1, g2, g3, g4, g5, g6, g7⟩ := HEQ.out
      have HTK := Lib.hid (show idOf es[k] ≠ idOf e → ∀ a ∈ es.take (k + 1), idOf a ≠ idOf e from fun h a ha => by
        rw [List.take_add_one, List.getElem?_eq_getElem hkl, Option.toList_some] at ha
        rcases List.mem_append.1 ha with ha | ha
        · exact HNO.out a ha
        · rw [List.mem_singleton] at ha; rw [ha]; exact h)
      have HYES := Lib.hid (show idOf es[k] = idOf e → idOf e ∈ es.map idOf from fun h => List.mem_map.2 ⟨es[k], List.getElem_mem hkl, h⟩)
      generalize es[k] = x at *
      have t1 : (k : Int) < n := by omega
      clear e2 e3 e4 e5 e6 e7 g2 g3 g4 g5 g6 g7
      by_cases hs : x.src = e.src
      · by_cases hm : x.num = e.num
        · have HR := Lib.hid (show twinB es e = true from decide_eq_true (HYES.out (by unfold idOf; rw [hs, hm])))
          have s1 : (x.src == e.src) = true := by simp [hs]
          have s2 : (x.num == e.num) = true := by simp [hm]
          clear hs hm HTK HYES
          go_wp2
          go_quiet (fail)
          go_wp2
          go_ret
          exact ⟨ret_bool HR.out.symm, below_drewN hbq _⟩
        · have HR := Lib.hid (HTK.out (fun he => hm (by unfold idOf at he; injection he)))
          have s1 : (x.src == e.src) = true := by simp [hs]
          have s2 : (x.num == e.num) = false := by simp [hm]
          clear hs hm HTK HYES
          go_wp2
          go_quiet (fail)
          go_wp2
          go_roundw
          case rel => obtain ⟨q', hq'⟩ := HQQ.out nq; exact ⟨k + 1, q', by go_num, by have := HL.out; omega, HR.out, hq'⟩
          case measure => simp [intOf]; omega
      · have HR := Lib.hid (HTK.out (fun he => hs (by unfold idOf at he; injection he)))
        have s1 : (x.src == e.src) = false := by simp [hs]
        clear hs HTK HYES
        go_wp2
        go_quiet (fail)
        go_wp2
        go_roundw
        case rel => obtain ⟨q', hq'⟩ := HQQ.out nq; exact ⟨k + 1, q', by go_num, by have := HL.out; omega, HR.out, hq'⟩
        case measure => simp [intOf]; omega
    · have t1 : ¬ (k : Int) < n := by omega
      have HR := Lib.hid (show twinB es e = false from decide_eq_false fun hm => by
        obtain ⟨a, ha, he⟩ := List.mem_map.1 hm
        exact HNO.out a (by rw [List.take_of_length_le (by have := HL.out; omega)]; exact ha) he)
      go_wp2
      go_ret
      exact ⟨ret_bool HR.out.symm, hbq⟩

theorem wfilt_take (es : List Ev) (p : Ev → Bool) (k : Nat) (hk : k < es.length) : (es.take (k + 1)).filter p = (es.take k).filter p ++ (if p es[k] then [es[k]] else []) := by
  rw [List.take_add_one, List.getElem?_eq_getElem hk, Option.toList_some, List.filter_append]
  simp [List.filter_cons]
set_option maxRecDepth 100000 in
set_option maxHeartbeats 2000000 in
theorem rwith08_any (w : World) (p : List UInt8) (A : Option Addr) (n c : Nat) (es : List Ev) (h : Evs w w.heap.size A n c es) (hn : n ≤ 90000) :
    Calls Tryz.prog 36 #[.slice A n c, .string ⟨p.toArray⟩] w (SievePost w es (keepB p)) := by
  have HH := Lib.hid h; clear h
  obtain ⟨i0, hi, hz0, hz1, hz2⟩ := info_parts ev_info
  have HI := Lib.hid hi; have HZ0 := Lib.hid hz0; have HZ1 := Lib.hid hz1; have HZ2 := Lib.hid hz2
  clear hi hz0 hz1 hz2
  go_enter Tryz.func36, Tryz.ntmps36
  go_wp2
  go_loopw [5, 6] (fun v i wr => SieveRel w n es (keepB p) v i wr) (fun _ i _ => n - (intOf i).toNat)
  case atStart => exact ⟨0, rfl, Nat.zero_le _, World.ownsRow_lit w #[] 0 (Nat.le_refl _) (by simp [maxLen]) rfl, (Below.refl _ _).alloc (Nat.le_refl _) _⟩
  case round =>
    obtain ⟨k, rfl, hk, hown, hbel⟩ := hrel
    have HO := Lib.hid hown; clear hown
    have hs0 := hbel.size
    by_cases hkn : k < n
    · have hkl : k < es.length := by rw [HH.out.len]; exact hkn
      obtain ⟨b, off, rfl, hb, hev⟩ := HH.out.ev k hkl
      obtain ⟨e0, e1, e2, e3, e4, e5, e6, e7⟩ := hev.below hbel hb
      clear hev
      have HTK := Lib.hid (wfilt_take es (keepB p) k hkl)
      have hlen : ((es.take k).filter (keepB p)).length ≤ k := by
        have := List.length_filter_le (keepB p) (es.take k); rw [List.length_take] at this; omega
      generalize es[k] = x at *
      have t1 : (k : Int) < n := by omega
      have HKB := Lib.hid (show keepB p x = ((x.per != p) || (x.kind == 14)) from rfl)
      have HAPP : Hid (keepB p x = true → (es.take (k + 1)).filter (keepB p) = (es.take k).filter (keepB p) ++ [x]) := fun h => by have := HTK.out; rw [h] at this; simpa using this
      have HSKIP : Hid (keepB p x = false → (es.take (k + 1)).filter (keepB p) = (es.take k).filter (keepB p)) := fun h => by have := HTK.out; rw [h] at this; simpa using this
      generalize (es.take k).filter (keepB p) = out at *
      cases hp : (x.per == p)
      · have b1 : (x.per != p) = true := by simp [bne, hp]
        have HT := Lib.hid (HAPP.out (by rw [HKB.out, b1]; rfl))
        clear HAPP HSKIP HKB HTK
        go_wp2_with (at_builtin; refine wpList_app (P := Tryz.prog) rfl (.tmp 29) (.tmp 34) 22 rfl 28 i0 _ 8 96 Tryz.underlying22 HI.out HZ0.out HZ1.out HZ2.out rfl (by decide) w.heap.size _ out.length (evCells out) rfl ?c1 (wr.heap.size + 1) _ _ _ x.cells rfl ?c2 (cells_one x) ?c4 ?c5 ?c6 ?_)
        case c1 => exact World.ownsRow.alloc HO.out _
        case c2 => exact Cel.new wr _ _ (by unfold maxLen; omega) rfl
        case c4 => unfold maxLen; omega
        case c5 => omega
        case c6 => first | omega | (simp; omega)
        intro v' w2 hown2 hg2 _
        have hb2 : Below w.heap.size w w2 := Below.grown (hbel.alloc (by omega) _) hg2 (by simp; omega) (fun k' hk' => (HO.out.lt k' hk').1)
        have HR := Lib.hid (show SieveRel w n es (keepB p) v' (.int .i64 ((k + 1 : Nat) : Int)) w2 from ⟨k + 1, rfl, by omega, by rw [HT.out]; unfold OwnE; rw [evCells_one, List.length_append]; exact hown2, hb2⟩)
        clear hown2 hg2 hb2 e0 e1 e2 e3 e4 e5 e6 e7
        go_wp2
        go_roundw
        case rel => exact HR.out
        case measure => simp [intOf]; omega
      · have b1 : (x.per != p) = false := by simp [bne, hp]
        cases hk14 : (x.kind == 14)
        · have HR := Lib.hid (show SieveRel w n es (keepB p) u5 (.int .i64 ((k + 1 : Nat) : Int)) wr from ⟨k + 1, rfl, by omega, by rw [HSKIP.out (by rw [HKB.out, b1, hk14]; rfl)]; exact HO.out, hbel⟩)
          clear HAPP HSKIP HKB HTK
          go_wp2
          go_roundw
          case rel => exact HR.out
          case measure => simp [intOf]; omega
        · have HT := Lib.hid (HAPP.out (by rw [HKB.out, b1, hk14]; rfl))
          clear HAPP HSKIP HKB HTK
          go_wp2_with (at_builtin; refine wpList_app (P := Tryz.prog) rfl (.tmp 29) (.tmp 34) 22 rfl 28 i0 _ 8 96 Tryz.underlying22 HI.out HZ0.out HZ1.out HZ2.out rfl (by decide) w.heap.size _ out.length (evCells out) rfl ?c1 (wr.heap.size + 1) _ _ _ x.cells rfl ?c2 (cells_one x) ?c4 ?c5 ?c6 ?_)
          case c1 => exact World.ownsRow.alloc HO.out _
          case c2 => exact Cel.new wr _ _ (by unfold maxLen; omega) rfl
          case c4 => unfold maxLen; omega
          case c5 => omega
          case c6 => first | omega | (simp; omega)
          intro v' w2 hown2 hg2 _
          have hb2 : Below w.heap.size w w2 := Below.grown (hbel.alloc (by omega) _) hg2 (by simp; omega) (fun k' hk' => (HO.out.lt k' hk').1)
          have HR := Lib.hid (show SieveRel w n es (keepB p) v' (.int .i64 ((k + 1 : Nat) : Int)) w2 from ⟨k + 1, rfl, by omega, by rw [HT.out]; unfold OwnE; rw [evCells_one, List.length_append]; exact hown2, hb2⟩)
          clear hown2 hg2 hb2 e0 e1 e2 e3 e4 e5 e6 e7
          go_wp2
          go_roundw
          case rel => exact HR.out
          case measure => simp [intOf]; omega
    · have hkk : es.take k = es := List.take_of_length_le (by rw [HH.out.len]; omega)
      have HKK := Lib.hid hkk; clear hkk
      go_wp2
      go_ret
      exact ⟨u5, rfl, by have := HO.out; rw [HKK.out] at this; exact this, hbel⟩
end Go.Proofs.YtoljbbmjbgepiaaGreatDoor
