/-
  Layer 2, the document's: Parts, Tags, Label.
-/
import Derived.Test.YtejjfhhppjdcaaaGreatDoorBRMay1
namespace Go.Proofs.YtejjfhhppjdcaaaGreatDoor
open Go.RowKit Go.Maps Go.Sort

theorem mid_not {c : UInt8} {s : List UInt8} {f k : Nat} (hk : k ≤ s.length) (h : ∀ j (hj : j < s.length), f ≤ j → j < k → s[j] ≠ c) : c ∉ (s.drop f).take (k - f) := by
  intro hc
  obtain ⟨i, hi, he⟩ := List.getElem_of_mem hc
  rw [List.length_take, List.length_drop] at hi
  rw [List.getElem_take, List.getElem_drop] at he
  exact h (f + i) (by omega) (by omega) (by omega) he
theorem parts_last {c : UInt8} {s : List UInt8} {f : Nat} (h : ∀ j (hj : j < s.length), f ≤ j → j < s.length → s[j] ≠ c) : partsL c (s.drop f) = [(s.drop f).take (s.length - f)] := by
  have e : (s.drop f).take (s.length - f) = s.drop f := List.take_of_length_le (by simp)
  have := mid_not (Nat.le_refl _) h
  rw [e] at this ⊢
  exact partsL_miss this
theorem parts_next {c : UInt8} {s : List UInt8} {f k : Nat} (hf : f ≤ k) (hk : k < s.length) (hc : s[k] = c) (h : ∀ j (hj : j < s.length), f ≤ j → j < k → s[j] ≠ c) :
    partsL c (s.drop f) = (s.drop f).take (k - f) :: partsL c (s.drop (k + 1)) := by
  have e : s.drop f = (s.drop f).take (k - f) ++ c :: s.drop (k + 1) := by
    have e1 : (s.drop f).drop (k - f) = s[k] :: s.drop (k + 1) := by
      rw [List.drop_drop, show f + (k - f) = k by omega]; exact List.drop_eq_getElem_cons hk
    conv => lhs; rw [← List.take_append_drop (k - f) (s.drop f), e1, hc]
  conv => lhs; rw [e]
  exact partsL_hit _ (mid_not (Nat.le_of_lt hk) h)

/-- how far the parts are told -/
def PtRel (w : World) (s : List UInt8) (c : UInt8) (v f i : Value) (wr : World) : Prop :=
  ∃ (k f' : Nat) (out : List (List UInt8)), i = .int .i64 k ∧ f = .int .i64 f' ∧ wr.ownsRow w.heap.size 9 1 v out.length (out.map encStr) ∧ Below w.heap.size w wr ∧ out.length ≤ k ∧ k ≤ s.length + 1 ∧
    ((k ≤ s.length ∧ f' ≤ k ∧ out ++ partsL c (s.drop f') = partsL c s ∧ ∀ j (hj : j < s.length), f' ≤ j → j < k → s[j] ≠ c) ∨ (k = s.length + 1 ∧ out = partsL c s))
def StrsPost (w : World) (ss : List (List UInt8)) (e : Ending) (w' : World) : Prop := ∃ A c, e = .returned (.slice A ss.length c) ∧ Strs w' w'.heap.size A ss.length c ss ∧ Below w.heap.size w w'

set_option maxRecDepth 100000 in
set_option maxHeartbeats 2000000 in
theorem rparts_any (w : World) (s : List UInt8) (hs : s.length ≤ 1000000000) (c : UInt8) :
    Calls Tryz.prog 142 #[.string ⟨s.toArray⟩, .int .u8 c.toNat] w (StrsPost w (partsL c s)) := by
  obtain ⟨i0, hi, hz0, hz1, hz2⟩ := info_parts str_info
  have HI := Lib.hid hi; have HZ0 := Lib.hid hz0; have HZ1 := Lib.hid hz1; have HZ2 := Lib.hid hz2
  clear hi hz0 hz1 hz2
  have hsz : (⟨s.toArray⟩ : ByteArray).size = s.length := by simp [ByteArray.size]
  go_enter Tryz.func142, Tryz.ntmps142
  go_wp2
  go_loopw [5, 6, 7] (fun v f i wr => PtRel w s c v f i wr) (fun _ _ i _ => s.length + 1 - (intOf i).toNat)
  case atStart => exact ⟨0, 0, [], rfl, rfl, World.ownsRow_lit w #[] 0 (Nat.le_refl _) (by simp [maxLen]) rfl, (Below.refl _ _).alloc (Nat.le_refl _) _, by simp, by omega, .inl ⟨by omega, by omega, by simp, fun j _ _ h => by omega⟩⟩
  case round =>
    obtain ⟨k, f, out, rfl, rfl, hown, hbel, hol, hks, hor⟩ := hrel
    have HO := Lib.hid hown; clear hown
    have HOR := Lib.hid hor; clear hor
    have hbs := hbel.size
    by_cases hkn : k ≤ s.length
    · have t1 : (k : Int) ≤ s.length := by omega
      obtain ⟨_, hfk, hpp, hno⟩ : k ≤ s.length ∧ f ≤ k ∧ out ++ partsL c (s.drop f) = partsL c s ∧ ∀ j (hj : j < s.length), f ≤ j → j < k → s[j] ≠ c := by
        rcases HOR.out with h | h
        · exact h
        · omega
      have HPP := Lib.hid hpp; have HNO := Lib.hid hno
      clear hpp hno HOR
      have hmid : ∀ wx, (Instr.slice 9 (.string ⟨s.toArray⟩) (some (.int .i64 (f : Int))) (some (.int .i64 (k : Int))) none).run Tryz.prog wx = .ok (.string ⟨((s.drop f).take (k - f)).toArray⟩) wx := fun wx => str_mid _ Tryz.underlying9 s f k f k rfl rfl hfk (by omega) wx
      by_cases hke : k = s.length
      · have HE := Lib.hid (show out ++ [(s.drop f).take (k - f)] = partsL c s by
          rw [← HPP.out, hke, parts_last (fun j hj h1 h2 => HNO.out j hj h1 (by omega))])
        have b1 : ((k : Int) == (s.length : Int)) = true := by simp [hke]
        have HKK := Lib.hid hke
        clear hke
        generalize (s.drop f).take (k - f) = pc at *
        go_wp2_with (at_builtin; refine wpList_app (P := Tryz.prog) rfl (.tmp 26) (.tmp 31) 37 rfl 9 i0 (.string ByteArray.empty) 1 16 Tryz.underlying37 HI.out HZ0.out HZ1.out HZ2.out rfl (by decide) w.heap.size _ out.length (out.map encStr) rfl ?c1 (wr.heap.size + 1) _ _ _ [.string ⟨pc.toArray⟩] rfl ?c2 ?c3 ?c4 ?c5 ?c6 ?_)
        case c1 => exact World.ownsRow.alloc HO.out _
        case c2 => exact Cel.new wr #[.string ⟨pc.toArray⟩] _ (by unfold maxLen; omega) rfl
        case c3 => simp [Value.oneCell']
        case c4 => unfold maxLen; omega
        case c5 => omega
        case c6 => first | omega | (simp; omega)
        intro v2 w2 hown2 hg2 _
        have hb2 : Below w.heap.size w w2 := Below.grown (hbel.alloc hbs (.cells #[.string ⟨pc.toArray⟩] 9)) hg2 (by simp; omega) (fun j hj => (HO.out.lt j hj).1)
        have HR := Lib.hid (show PtRel w s c v2 (.int .i64 ((k + 1 : Nat) : Int)) (.int .i64 ((k + 1 : Nat) : Int)) w2 from ⟨k + 1, k + 1, out ++ [pc], rfl, rfl, by
          rw [List.map_append, List.length_append]; exact hown2, hb2, by simp; omega, by omega, .inr ⟨by have := HKK.out; omega, HE.out⟩⟩)
        clear hown2 hg2 hb2 hmid
        go_wp2
        go_roundw
        case rel => exact HR.out
        case measure => simp [intOf]; omega
      · have hklt : k < s.length := by omega
        have g0 : (⟨s.toArray⟩ : ByteArray)[k]'(by simpa [ByteArray.size] using hklt) = s[k] := rfl
        have b1 : ((k : Int) == (s.length : Int)) = false := by rw [beq_eq_false_iff_ne]; omega
        by_cases hc : s[k] = c
        · have HE := Lib.hid (show out ++ [(s.drop f).take (k - f)] ++ partsL c (s.drop (k + 1)) = partsL c s by
            rw [← HPP.out, parts_next hfk hklt hc HNO.out]; simp)
          have b2 : ((s[k].toNat : Int) == (c.toNat : Int)) = true := by simp [hc]
          clear hc hke
          generalize (s.drop f).take (k - f) = pc at *
          generalize s[k] = x at *
          go_wp2_with (at_builtin; refine wpList_app (P := Tryz.prog) rfl (.tmp 26) (.tmp 31) 37 rfl 9 i0 (.string ByteArray.empty) 1 16 Tryz.underlying37 HI.out HZ0.out HZ1.out HZ2.out rfl (by decide) w.heap.size _ out.length (out.map encStr) rfl ?c1 (wr.heap.size + 1) _ _ _ [.string ⟨pc.toArray⟩] rfl ?c2 ?c3 ?c4 ?c5 ?c6 ?_)
          case c1 => exact World.ownsRow.alloc HO.out _
          case c2 => exact Cel.new wr #[.string ⟨pc.toArray⟩] _ (by unfold maxLen; omega) rfl
          case c3 => simp [Value.oneCell']
          case c4 => unfold maxLen; omega
          case c5 => omega
          case c6 => first | omega | (simp; omega)
          intro v2 w2 hown2 hg2 _
          have hb2 : Below w.heap.size w w2 := Below.grown (hbel.alloc hbs (.cells #[.string ⟨pc.toArray⟩] 9)) hg2 (by simp; omega) (fun j hj => (HO.out.lt j hj).1)
          have HR := Lib.hid (show PtRel w s c v2 (.int .i64 ((k + 1 : Nat) : Int)) (.int .i64 ((k + 1 : Nat) : Int)) w2 from ⟨k + 1, k + 1, out ++ [pc], rfl, rfl, by
            rw [List.map_append, List.length_append]; exact hown2, hb2, by simp; omega, by omega, .inl ⟨by omega, Nat.le_refl _, HE.out, fun j _ h1 h2 => by omega⟩⟩)
          clear hown2 hg2 hb2 hmid
          go_wp2
          go_roundw
          case rel => exact HR.out
          case measure => simp [intOf]; omega
        · have b2 : ((s[k].toNat : Int) == (c.toNat : Int)) = false := by
            rw [beq_eq_false_iff_ne]
            intro e
            exact hc (UInt8.toNat_inj.1 (by omega))
          have HR := Lib.hid (show PtRel w s c u5 (.int .i64 (f : Int)) (.int .i64 ((k + 1 : Nat) : Int)) wr from ⟨k + 1, f, out, rfl, rfl, HO.out, hbel, by omega, by omega, .inl ⟨by omega, by omega, HPP.out, fun j hj h1 h2 => by
            by_cases e : j = k
            · subst e; exact hc
            · exact HNO.out j hj h1 (by omega)⟩⟩)
          clear hc hke hmid
          generalize s[k] = x at *
          go_wp2
          go_roundw
          case rel => exact HR.out
          case measure => simp [intOf]; omega
    · have t1 : ¬ (k : Int) ≤ s.length := by omega
      have hout : out = partsL c s := by
        rcases HOR.out with h | h
        · exact absurd h.1 hkn
        · exact h.2
      obtain ⟨A3, c3, hv⟩ := ownsRow_form HO.out
      have HR := Lib.hid (show StrsPost w (partsL c s) (.returned u5) wr from ⟨A3, c3, by rw [← hout, hv], by
        have := HO.out
        rw [hv] at this
        rw [← hout]
        exact Cel.of_own this, hbel⟩)
      clear hout hv HOR
      go_wp2
      go_ret
      exact HR.out
end Go.Proofs.YtejjfhhppjdcaaaGreatDoor
