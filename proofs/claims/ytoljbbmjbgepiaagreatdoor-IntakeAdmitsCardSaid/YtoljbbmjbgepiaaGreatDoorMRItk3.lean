/-
  Layer 8, the document's: Put.
  Layer 8, the document's intake in memory; New, wrong.
-/
import Derived.Test.YtoljbbmjbgepiaaGreatDoorMRItk1
import Derived.Test.YtoljbbmjbgepiaaGreatDoorMOrdAll
import Derived.Test.YtoljbbmjbgepiaaGreatDoorMRClk3
import Derived.Test.YtoljbbmjbgepiaaGreatDoorMItkGone
import Derived.Test.YtoljbbmjbgepiaaGreatDoorMRHad4
import Derived.Test.YtoljbbmjbgepiaaGreatDoorMRClk4
import Derived.Test.YtoljbbmjbgepiaaGreatDoorMRMay4
import Derived.Test.YtoljbbmjbgepiaaGreatDoorMRSort2
namespace Go.Proofs.YtoljbbmjbgepiaaGreatDoor
open Go.RowKit Go.Maps Go.Sort

/-- a text more in a rising row -/
def putT (ss : List (List UInt8)) (s : List UInt8) : List (List UInt8) := if s ∈ ss then ss else (ss.takeWhile fun x => Op.bytesLess x s) ++ s :: (ss.dropWhile fun x => Op.bytesLess x s)
theorem cut_at {ss : List (List UInt8)} {s : List UInt8} (k : Nat) (hk : k ≤ ss.length) (h1 : ∀ i (h : i < ss.length), i < k → Op.bytesLess ss[i] s = true) (h2 : ∀ h : k < ss.length, Op.bytesLess ss[k] s = false) :
    (ss.takeWhile fun x => Op.bytesLess x s) = ss.take k ∧ (ss.dropWhile fun x => Op.bytesLess x s) = ss.drop k := by
  have e0 : ss = ss.take k ++ ss.drop k := (List.take_append_drop k ss).symm
  have hp : ∀ x ∈ ss.take k, Op.bytesLess x s = true := fun x hx => by
    obtain ⟨i, hi, rfl⟩ := List.getElem_of_mem hx
    rw [List.length_take] at hi
    rw [List.getElem_take]
    exact h1 i (by omega) (by omega)
  have ht : (ss.drop k).takeWhile (fun x => Op.bytesLess x s) = [] := by
    rcases Nat.lt_or_ge k ss.length with hlt | hge
    · rw [List.drop_eq_getElem_cons hlt, List.takeWhile_cons_of_neg (by rw [h2 hlt]; simp)]
    · rw [List.drop_of_length_le hge]; rfl
  have h3 : (ss.takeWhile fun x => Op.bytesLess x s) = ss.take k := by
    conv => lhs; rw [e0]
    rw [List.takeWhile_append_of_pos hp, ht, List.append_nil]
  refine ⟨h3, ?_⟩
  have h4 : ss.takeWhile (fun x => Op.bytesLess x s) ++ ss.dropWhile (fun x => Op.bytesLess x s) = ss := List.takeWhile_append_dropWhile
  rw [h3] at h4
  have h5 : ss.take k ++ ss.drop k = ss.take k ++ ss.dropWhile (fun x => Op.bytesLess x s) := by rw [h4, List.take_append_drop]
  exact (List.append_cancel_left h5).symm
def PutTPost (w : World) (S : Nat → Prop) (ss : List (List UInt8)) (e : Ending) (w' : World) : Prop :=
  ∃ A' c', e = .returned (.slice A' ss.length c') ∧ Strs w' w'.heap.size A' ss.length c' ss ∧ VwIn (fun b => S b ∨ (w.heap.size ≤ b ∧ b < w'.heap.size)) A' ss.length ∧ Below w.heap.size w w'
theorem encs_one (l : List (List UInt8)) : ∀ u ∈ l.map encStr, u.oneCell' = true := fun u hu => by
  obtain ⟨x, _, rfl⟩ := List.mem_map.1 hu; rfl

theorem own_in9 {w : World} {base n : Nat} {e : TypeId} {size : Nat} {A : Option Addr} {c : Nat} {xs : List Value} (h : w.ownsRow base e size (.slice A n c) n xs) : VwIn (fun b => base ≤ b ∧ b < w.heap.size) A n := by
  intro a ha hn
  subst ha
  rcases h.2 with ⟨_, h'⟩ | ⟨g, cap, cur, e, hb, hg, _⟩
  · omega
  · injection e with e1; injection e1 with e1; subst e1; exact ⟨hb, (Array.getElem?_eq_some_iff.1 hg).1⟩
set_option maxRecDepth 100000 in
set_option maxHeartbeats 4000000 in
theorem rput08_any (w : World) (S : Nat → Prop) (A : Option Addr) (n c : Nat) (ss : List (List UInt8)) (h : Strs w w.heap.size A n c ss) (hvw : VwIn S A n) (hn : n ≤ 90000) (s : List UInt8) :
    Calls Tryz.prog 42 #[.slice A n c, .string ⟨s.toArray⟩] w (PutTPost w S (putT ss s)) := by
  have HH := Lib.hid h; clear h
  have HL := Lib.hid HH.out.len
  have HVW := Lib.hid hvw; clear hvw
  obtain ⟨i0, hi, hz0, hz1, hz2⟩ := info_parts str_info
  have HI := Lib.hid hi; have HZ0 := Lib.hid hz0; have HZ1 := Lib.hid hz1; have HZ2 := Lib.hid hz2
  clear hi hz0 hz1 hz2
  go_enter Tryz.func42, Tryz.ntmps42
  go_wp2_with fail
  refine (rin08_any w _ A n c ss HH.out (by omega) s).mono ?_
  rintro r w1 ⟨rfl, rfl⟩
  by_cases hin : s ∈ ss
  · have HR := Lib.hid (show PutTPost w S (putT ss s) (.returned (.slice A n c)) w by
      have e : putT ss s = ss := by unfold putT; rw [if_pos hin]
      rw [e]
      have hl := HL.out
      subst hl
      exact ⟨A, c, rfl, HH.out, HVW.out.mono (fun b hb => .inl hb), Below.refl _ _⟩)
    rw [decide_eq_true hin]
    clear hin
    go_wp2
    go_ret
    exact HR.out
  have HPT := Lib.hid (show putT ss s = (ss.takeWhile fun x => Op.bytesLess x s) ++ s :: (ss.dropWhile fun x => Op.bytesLess x s) by unfold putT; rw [if_neg hin])
  rw [decide_eq_false hin]
  clear hin
  have hcap := Cel.cap HH.out
  go_wp2
  go_loop [5] (fun i => ∃ k : Nat, i = .int .i64 k ∧ k ≤ n ∧ Hid (∀ j (h : j < ss.length), j < k → Op.bytesLess ss[j] s = true)) (fun i => n - (intOf i).toNat)
  case atStart => exact ⟨0, rfl, Nat.zero_le _, fun j _ h => by omega⟩
  case round =>
    obtain ⟨k, rfl, hk, HK⟩ := hrel
    have HEXIT : Hid ((∀ h : k < ss.length, Op.bytesLess ss[k] s = false) → putT ss s = ss.take k ++ s :: ss.drop k) := fun h => by
      obtain ⟨h1, h2⟩ := cut_at k (by have := HL.out; omega) HK.out h
      rw [HPT.out, h1, h2]
    obtain ⟨TK, hTK⟩ : ∃ TK, TK = (ss.take k).map encStr := ⟨_, rfl⟩
    obtain ⟨DK, hDK⟩ : ∃ DK, DK = (ss.drop k).map encStr := ⟨_, rfl⟩
    have H1T := Lib.hid (show ∀ u ∈ TK, u.oneCell' = true by rw [hTK]; exact encs_one _)
    have H1D := Lib.hid (show ∀ u ∈ DK, u.oneCell' = true by rw [hDK]; exact encs_one _)
    have HTK := Lib.hid hTK; have HDK := Lib.hid hDK
    clear hTK hDK
    by_cases hkn : k < n
    · have hkl : k < ss.length := by have := HL.out; omega
      obtain ⟨b, off, rfl, hb, hc⟩ := HH.out.at_ k hkl
      have t1 : (k : Int) < n := by omega
      cases hbl : Op.bytesLess ss[k] s
      · have HE := Lib.hid (HEXIT.out (fun _ => hbl))
        clear HEXIT
        generalize ss[k] = y at *
        have hbA : Below w.heap.size w (w.alloc (.cells #[] 9)) := (Below.refl _ _).alloc (Nat.le_refl _) _
        have HOA := Lib.hid (show (w.alloc (.cells #[] 9)).ownsRow w.heap.size 9 1 (.slice (some ⟨w.heap.size, 0, none⟩) 0 0) 0 [] from World.ownsRow_lit w #[] 0 (Nat.le_refl _) (by simp [maxLen]) rfl)
        have HCA := Lib.hid (show Cel (w.alloc (.cells #[] 9)) w.heap.size 1 (some ⟨b, off, none⟩) k c TK by
          have := Cel.upto (Cel.below HH.out hbA) k hk
          rw [Nat.mul_one, ← List.map_take, ← HTK.out] at this; exact this)
        have hkc : k ≤ c := by omega
        have HBA := Lib.hid hbA
        clear hbA
        go_wp2_with (at_builtin; refine wpList_app (P := Tryz.prog) rfl (.tmp 25) (.tmp 28) 35 rfl 9 i0 _ 1 16 Tryz.underlying35 HI.out HZ0.out HZ1.out HZ2.out rfl (by decide) w.heap.size _ 0 [] rfl ?c1 w.heap.size _ _ _ TK rfl ?c2 (by first | exact H1T.out | exact H1D.out | simp [Value.oneCell']) (by unfold maxLen; omega) (by omega) (by first | omega | (simp; done) | (simp; omega)) ?_)
        case c1 => exact HOA.out
        case c2 => exact HCA.out
        intro v2 w2 how2 hgw2 hvw2
        have HO2 := Lib.hid (show w2.ownsRow w.heap.size 9 1 v2 k TK by have h2 := how2; first | exact h2 | (rw [Nat.zero_add] at h2; exact h2))
        have hb2 : Below w.heap.size w w2 := Below.grown HBA.out hgw2 (by simp) (fun j hj => (HOA.out.lt j hj).1)
        have hs2 := hb2.size
        clear how2 hgw2 hvw2 HOA HCA HBA
        go_wp2_with (at_builtin; refine wpList_app (P := Tryz.prog) rfl (.tmp 29) (.tmp 31) 35 rfl 9 i0 _ 1 16 Tryz.underlying35 HI.out HZ0.out HZ1.out HZ2.out rfl (by decide) w.heap.size _ k TK rfl ?c1 (w2.heap.size + 1) _ _ _ [.string ⟨s.toArray⟩] rfl ?c2 (by first | exact H1T.out | exact H1D.out | simp [Value.oneCell']) (by unfold maxLen; omega) (by omega) (by first | omega | (simp; done) | (simp; omega)) ?_)
        case c1 => exact World.ownsRow.alloc HO2.out _
        case c2 => exact Cel.new w2 #[.string ⟨s.toArray⟩] _ (by unfold maxLen; omega) rfl
        intro v3 w3 how3 hgw3 hvw3
        have HO3 := Lib.hid how3
        have hb3 : Below w.heap.size w w3 := Below.grown (hb2.alloc hs2 (.cells #[.string ⟨s.toArray⟩] 9)) hgw3 (by simp; omega) (fun j hj => (HO2.out.lt j hj).1)
        have hs3 := hb3.size
        have HC3 := Lib.hid (show Cel w3 w.heap.size 1 (if c = k then (some ⟨b, off, none⟩) else Option.map (fun x : Addr => x.add (k * 1)) (some ⟨b, off, none⟩)) (n - k) (c - k) DK by
          have := Cel.from_ (Cel.below HH.out hb3) k hk
          rw [Nat.mul_one, ← List.map_drop, ← HDK.out] at this
          rw [Nat.mul_one]; exact this)
        clear how3 hgw3 hvw3
        by_cases hcj : c = k
        · rw [if_pos hcj] at HC3
          go_wp2_with (at_builtin; refine wpList_app (P := Tryz.prog) rfl (.tmp 33) (.tmp 36) 35 rfl 9 i0 _ 1 16 Tryz.underlying35 HI.out HZ0.out HZ1.out HZ2.out rfl (by decide) w.heap.size _ (k + 1) (TK ++ [.string ⟨s.toArray⟩]) rfl ?c1 w.heap.size _ _ _ DK rfl ?c2 (by first | exact H1T.out | exact H1D.out | simp [Value.oneCell']) (by unfold maxLen; omega) (by omega) (by first | omega | (simp; done) | (simp; omega)) ?_)
          case c1 => exact HO3.out
          case c2 => first | exact HC3.out | (have h8 := HC3.out; simpa [Addr.add_mid, hcj] using h8)
          intro v4 w4 how4 hgw4 hvw4
          have hb4 : Below w.heap.size w w4 := Below.grown hb3 hgw4 hs3 (fun j hj => (HO3.out.lt j hj).1)
          have HR := Lib.hid (show PutTPost w S (putT ss s) (.returned v4) w4 by
            have hlen : (ss.take k ++ s :: ss.drop k).length = k + 1 + (n - k) := by
              rw [List.length_append, List.length_cons, List.length_take, List.length_drop, HL.out]; omega
            have henc : (ss.take k ++ s :: ss.drop k).map encStr = TK ++ [.string ⟨s.toArray⟩] ++ DK := by rw [HTK.out, HDK.out]; simp [encStr]
            obtain ⟨A4, c4, hv4⟩ := ownsRow_form how4
            rw [HE.out]
            refine ⟨A4, c4, by rw [hlen]; first | exact congrArg _ hv4 | (rw [hv4]; simp), ?_, ?_, hb4⟩
            · unfold Strs
              rw [henc, hlen]
              have h9 := how4
              rw [hv4] at h9
              first | exact Cel.of_own h9 | (have := Cel.of_own h9; simpa using this)
            · rw [hlen]
              have h9 := how4
              rw [hv4] at h9
              exact (own_in9 h9).mono fun b h => .inr h)
          clear how4 hgw4 hvw4 hb4
          go_wp2
          go_ret
          exact HR.out
        · rw [if_neg hcj] at HC3
          go_wp2_with (at_builtin; refine wpList_app (P := Tryz.prog) rfl (.tmp 33) (.tmp 36) 35 rfl 9 i0 _ 1 16 Tryz.underlying35 HI.out HZ0.out HZ1.out HZ2.out rfl (by decide) w.heap.size _ (k + 1) (TK ++ [.string ⟨s.toArray⟩]) rfl ?c1 w.heap.size _ _ _ DK rfl ?c2 (by first | exact H1T.out | exact H1D.out | simp [Value.oneCell']) (by unfold maxLen; omega) (by omega) (by first | omega | (simp; done) | (simp; omega)) ?_)
          case c1 => exact HO3.out
          case c2 => first | exact HC3.out | (have h8 := HC3.out; simpa [Addr.add_mid, hcj] using h8)
          intro v4 w4 how4 hgw4 hvw4
          have hb4 : Below w.heap.size w w4 := Below.grown hb3 hgw4 hs3 (fun j hj => (HO3.out.lt j hj).1)
          have HR := Lib.hid (show PutTPost w S (putT ss s) (.returned v4) w4 by
            have hlen : (ss.take k ++ s :: ss.drop k).length = k + 1 + (n - k) := by
              rw [List.length_append, List.length_cons, List.length_take, List.length_drop, HL.out]; omega
            have henc : (ss.take k ++ s :: ss.drop k).map encStr = TK ++ [.string ⟨s.toArray⟩] ++ DK := by rw [HTK.out, HDK.out]; simp [encStr]
            obtain ⟨A4, c4, hv4⟩ := ownsRow_form how4
            rw [HE.out]
            refine ⟨A4, c4, by rw [hlen]; first | exact congrArg _ hv4 | (rw [hv4]; simp), ?_, ?_, hb4⟩
            · unfold Strs
              rw [henc, hlen]
              have h9 := how4
              rw [hv4] at h9
              first | exact Cel.of_own h9 | (have := Cel.of_own h9; simpa using this)
            · rw [hlen]
              have h9 := how4
              rw [hv4] at h9
              exact (own_in9 h9).mono fun b h => .inr h)
          clear how4 hgw4 hvw4 hb4
          go_wp2
          go_ret
          exact HR.out
      · have HN := Lib.hid (show ∀ j (h : j < ss.length), j < k + 1 → Op.bytesLess ss[j] s = true from fun j hj hlt => by
          by_cases e : j = k
          · subst e; exact hbl
          · exact HK.out j hj (by omega))
        clear HEXIT
        generalize ss[k] = y at *
        go_wp2
        go_round
        case rel => exact ⟨k + 1, by go_num, by omega, HN.out⟩
        case measure => simp [intOf]; omega
    · have t1 : ¬ (k : Int) < n := by omega
      have HE := Lib.hid (HEXIT.out (fun h => by have := HL.out; omega))
      clear HEXIT
      have hbA : Below w.heap.size w (w.alloc (.cells #[] 9)) := (Below.refl _ _).alloc (Nat.le_refl _) _
      have HOA := Lib.hid (show (w.alloc (.cells #[] 9)).ownsRow w.heap.size 9 1 (.slice (some ⟨w.heap.size, 0, none⟩) 0 0) 0 [] from World.ownsRow_lit w #[] 0 (Nat.le_refl _) (by simp [maxLen]) rfl)
      have HCA := Lib.hid (show Cel (w.alloc (.cells #[] 9)) w.heap.size 1 A k c TK by
        have := Cel.upto (Cel.below HH.out hbA) k hk
        rw [Nat.mul_one, ← List.map_take, ← HTK.out] at this; exact this)
      have hkc : k ≤ c := by omega
      have HBA := Lib.hid hbA
      clear hbA
      go_wp2_with (at_builtin; refine wpList_app (P := Tryz.prog) rfl (.tmp 25) (.tmp 28) 35 rfl 9 i0 _ 1 16 Tryz.underlying35 HI.out HZ0.out HZ1.out HZ2.out rfl (by decide) w.heap.size _ 0 [] rfl ?c1 w.heap.size _ _ _ TK rfl ?c2 (by first | exact H1T.out | exact H1D.out | simp [Value.oneCell']) (by unfold maxLen; omega) (by omega) (by first | omega | (simp; done) | (simp; omega)) ?_)
      case c1 => exact HOA.out
      case c2 => exact HCA.out
      intro v2 w2 how2 hgw2 hvw2
      have HO2 := Lib.hid (show w2.ownsRow w.heap.size 9 1 v2 k TK by have h2 := how2; first | exact h2 | (rw [Nat.zero_add] at h2; exact h2))
      have hb2 : Below w.heap.size w w2 := Below.grown HBA.out hgw2 (by simp) (fun j hj => (HOA.out.lt j hj).1)
      have hs2 := hb2.size
      clear how2 hgw2 hvw2 HOA HCA HBA
      go_wp2_with (at_builtin; refine wpList_app (P := Tryz.prog) rfl (.tmp 29) (.tmp 31) 35 rfl 9 i0 _ 1 16 Tryz.underlying35 HI.out HZ0.out HZ1.out HZ2.out rfl (by decide) w.heap.size _ k TK rfl ?c1 (w2.heap.size + 1) _ _ _ [.string ⟨s.toArray⟩] rfl ?c2 (by first | exact H1T.out | exact H1D.out | simp [Value.oneCell']) (by unfold maxLen; omega) (by omega) (by first | omega | (simp; done) | (simp; omega)) ?_)
      case c1 => exact World.ownsRow.alloc HO2.out _
      case c2 => exact Cel.new w2 #[.string ⟨s.toArray⟩] _ (by unfold maxLen; omega) rfl
      intro v3 w3 how3 hgw3 hvw3
      have HO3 := Lib.hid how3
      have hb3 : Below w.heap.size w w3 := Below.grown (hb2.alloc hs2 (.cells #[.string ⟨s.toArray⟩] 9)) hgw3 (by simp; omega) (fun j hj => (HO2.out.lt j hj).1)
      have hs3 := hb3.size
      have HC3 := Lib.hid (show Cel w3 w.heap.size 1 (if c = k then A else A.map (·.add (k * 1))) (n - k) (c - k) DK by
        have := Cel.from_ (Cel.below HH.out hb3) k hk
        rw [Nat.mul_one, ← List.map_drop, ← HDK.out] at this
        rw [Nat.mul_one]; exact this)
      clear how3 hgw3 hvw3
      by_cases hcj : c = k
      · rw [if_pos hcj] at HC3
        go_wp2_with (at_builtin; refine wpList_app (P := Tryz.prog) rfl (.tmp 33) (.tmp 36) 35 rfl 9 i0 _ 1 16 Tryz.underlying35 HI.out HZ0.out HZ1.out HZ2.out rfl (by decide) w.heap.size _ (k + 1) (TK ++ [.string ⟨s.toArray⟩]) rfl ?c1 w.heap.size _ _ _ DK rfl ?c2 (by first | exact H1T.out | exact H1D.out | simp [Value.oneCell']) (by unfold maxLen; omega) (by omega) (by first | omega | (simp; done) | (simp; omega)) ?_)
        case c1 => exact HO3.out
        case c2 => first | exact HC3.out | (have h8 := HC3.out; simpa [Addr.add_mid, hcj] using h8)
        intro v4 w4 how4 hgw4 hvw4
        have hb4 : Below w.heap.size w w4 := Below.grown hb3 hgw4 hs3 (fun j hj => (HO3.out.lt j hj).1)
        have HR := Lib.hid (show PutTPost w S (putT ss s) (.returned v4) w4 by
          have hlen : (ss.take k ++ s :: ss.drop k).length = k + 1 + (n - k) := by
            rw [List.length_append, List.length_cons, List.length_take, List.length_drop, HL.out]; omega
          have henc : (ss.take k ++ s :: ss.drop k).map encStr = TK ++ [.string ⟨s.toArray⟩] ++ DK := by rw [HTK.out, HDK.out]; simp [encStr]
          obtain ⟨A4, c4, hv4⟩ := ownsRow_form how4
          rw [HE.out]
          refine ⟨A4, c4, by rw [hlen]; first | exact congrArg _ hv4 | (rw [hv4]; simp), ?_, ?_, hb4⟩
          · unfold Strs
            rw [henc, hlen]
            have h9 := how4
            rw [hv4] at h9
            first | exact Cel.of_own h9 | (have := Cel.of_own h9; simpa using this)
          · rw [hlen]
            have h9 := how4
            rw [hv4] at h9
            exact (own_in9 h9).mono fun b h => .inr h)
        clear how4 hgw4 hvw4 hb4
        go_wp2
        go_ret
        exact HR.out
      · rw [if_neg hcj] at HC3
        go_wp2_with (at_builtin; refine wpList_app (P := Tryz.prog) rfl (.tmp 33) (.tmp 36) 35 rfl 9 i0 _ 1 16 Tryz.underlying35 HI.out HZ0.out HZ1.out HZ2.out rfl (by decide) w.heap.size _ (k + 1) (TK ++ [.string ⟨s.toArray⟩]) rfl ?c1 w.heap.size _ _ _ DK rfl ?c2 (by first | exact H1T.out | exact H1D.out | simp [Value.oneCell']) (by unfold maxLen; omega) (by omega) (by first | omega | (simp; done) | (simp; omega)) ?_)
        case c1 => exact HO3.out
        case c2 => first | exact HC3.out | (have h8 := HC3.out; simpa [Addr.add_mid, hcj] using h8)
        intro v4 w4 how4 hgw4 hvw4
        have hb4 : Below w.heap.size w w4 := Below.grown hb3 hgw4 hs3 (fun j hj => (HO3.out.lt j hj).1)
        have HR := Lib.hid (show PutTPost w S (putT ss s) (.returned v4) w4 by
          have hlen : (ss.take k ++ s :: ss.drop k).length = k + 1 + (n - k) := by
            rw [List.length_append, List.length_cons, List.length_take, List.length_drop, HL.out]; omega
          have henc : (ss.take k ++ s :: ss.drop k).map encStr = TK ++ [.string ⟨s.toArray⟩] ++ DK := by rw [HTK.out, HDK.out]; simp [encStr]
          obtain ⟨A4, c4, hv4⟩ := ownsRow_form how4
          rw [HE.out]
          refine ⟨A4, c4, by rw [hlen]; first | exact congrArg _ hv4 | (rw [hv4]; simp), ?_, ?_, hb4⟩
          · unfold Strs
            rw [henc, hlen]
            have h9 := how4
            rw [hv4] at h9
            first | exact Cel.of_own h9 | (have := Cel.of_own h9; simpa using this)
          · rw [hlen]
            have h9 := how4
            rw [hv4] at h9
            exact (own_in9 h9).mono fun b h => .inr h)
        clear how4 hgw4 hvw4 hb4
        go_wp2
        go_ret
        exact HR.out
end Go.Proofs.YtoljbbmjbgepiaaGreatDoor
namespace Go.Proofs.YtoljbbmjbgepiaaGreatDoor
open Go.RowKit Go.Maps Go.Sort

abbrev ritkObj (bc : Nat) (vh vt vl vg : Value) : Obj := .cells #[.pointer (some ⟨bc, 0, none⟩), vh, vt, vl, vg] 53
/-- what the document's intake holds, beside the clock -/
structure RParts (w : World) (S : Nat → Prop) (N : Nat) (x : Itk) (vh vt vl vg : Value) : Prop where
  had : ∃ A c R, vh = .slice A R.length c ∧ Hads w S A R.length c R ∧ keysH R = x.had.map (fun p => (p.1, nums p.2)) ∧ R.length ≤ N ∧ ∀ q ∈ R, q.2.1.length ≤ N
  taken : ∃ A c, vt = .slice A x.taken.length c ∧ Evs w w.heap.size A x.taken.length c x.taken ∧ VwIn S A x.taken.length
  late : ∃ A c, vl = .slice A x.late.length c ∧ Evs w w.heap.size A x.late.length c x.late ∧ VwIn S A x.late.length
  gone : ∃ A c gs, vg = .slice A gs.length c ∧ Strs w w.heap.size A gs.length c gs ∧ VwIn S A gs.length ∧ Rising gs x.gone ∧ gs.length ≤ N
/-- the document's intake lies at bm, its clock at bc, all else in blocks of S -/
structure RItk (w : World) (bm bc : Nat) (S : Nat → Prop) (N : Nat) (x : Itk) : Prop where
  blk : ∃ vh vt vl vg, w.heap[bm]? = some (ritkObj bc vh vt vl vg) ∧ RParts w S N x vh vt vl vg
  clk : RClk w bc S N x.clk
  ns : ¬ S bm
  ne : bm ≠ bc
  ok : HadOk x.had
  tl : x.taken.length ≤ N
  ll : x.late.length ≤ N
theorem IntsV.stay {w w' : World} {S F : Nat → Prop} {v : Value} {l : List Int} (h : IntsV w S v l) (hk : Keep F w w') (hF : ∀ b, F b → ¬ S b) : IntsV w' S v l := by
  obtain ⟨A, c, hv, hc, hvw⟩ := h
  exact ⟨A, c, hv, Cel.stay hc hvw hk.size (fun b off hb hlt => hk.cell (p := ⟨b, off, none⟩) hlt (fun hf => hF _ hf hb)), hvw⟩
theorem Hads.stay {w w' : World} {S F : Nat → Prop} {A : Option Addr} {n c : Nat} {R : List HRow} (h : Hads w S A n c R) (hk : Keep F w w') (hF : ∀ b, F b → ¬ S b) : Hads w' S A n c R :=
  ⟨Cel.stay h.cel h.vw hk.size (fun b off hb hlt => hk.cell (p := ⟨b, off, none⟩) hlt (fun hf => hF _ hf hb)), fun q hq => (h.row q hq).stay hk hF, h.vw⟩
theorem RParts.stay {w w' : World} {S F : Nat → Prop} {N : Nat} {x : Itk} {vh vt vl vg : Value} (h : RParts w S N x vh vt vl vg) (hk : Keep F w w') (hF : ∀ b, F b → ¬ S b) : RParts w' S N x vh vt vl vg := by
  have key : ∀ {size : Nat} {A : Option Addr} {n c : Nat} {xs : List Value}, Cel w w.heap.size size A n c xs → VwIn S A n → Cel w' w'.heap.size size A n c xs := fun hc hvw => Cel.stay hc hvw hk.size (fun b off hb hlt => hk.cell (p := ⟨b, off, none⟩) hlt (fun hf => hF _ hf hb))
  refine ⟨?_, ?_, ?_, ?_⟩
  · obtain ⟨A, c, R, h1, h2, h3⟩ := h.had; exact ⟨A, c, R, h1, h2.stay hk hF, h3⟩
  · obtain ⟨A, c, h1, h2, h3⟩ := h.taken; exact ⟨A, c, h1, key h2 h3, h3⟩
  · obtain ⟨A, c, h1, h2, h3⟩ := h.late; exact ⟨A, c, h1, key h2 h3, h3⟩
  · obtain ⟨A, c, gs, h1, h2, h3, h4⟩ := h.gone; exact ⟨A, c, gs, h1, key h2 h3, h3, h4⟩
theorem RItk.stay {w w' : World} {bm bc N : Nat} {S F : Nat → Prop} {x : Itk} (h : RItk w bm bc S N x) (hk : Keep F w w') (hF : ∀ b, F b → ¬ S b ∧ b ≠ bm ∧ b ≠ bc) : RItk w' bm bc S N x := by
  obtain ⟨vh, vt, vl, vg, hb, hp⟩ := h.blk
  have hlt : bm < w.heap.size := (Array.getElem?_eq_some_iff.1 hb).1
  exact ⟨⟨vh, vt, vl, vg, (hk.block bm hlt (fun hf => (hF _ hf).2.1 rfl)).trans hb, hp.stay hk (fun b hf => (hF b hf).1)⟩, h.clk.stay hk (fun b hf => ⟨(hF b hf).1, (hF b hf).2.2⟩), h.ns, h.ne, h.ok, h.tl, h.ll⟩
theorem RItk.up {w w' : World} {bm bc N : Nat} {S : Nat → Prop} {x : Itk} (h : RItk w bm bc S N x) (hb : Below w.heap.size w w') : RItk w' bm bc S N x := h.stay (F := fun _ => False) (Keep.of_below hb) (fun _ h => h.elim)

def RNewPost (w : World) (x : Itk) (e : Ending) (w' : World) : Prop := ∃ bm bc, e = .returned (.pointer (some ⟨bm, 0, none⟩)) ∧ RItk w' bm bc (fun _ => False) 0 x ∧ w.heap.size ≤ bm ∧ w.heap.size ≤ bc ∧ Below w.heap.size w w'
theorem rclknew_any (w : World) (slack idle : Int) : Calls Tryz.prog 104 #[.int .i64 slack, .int .i64 idle] w fun e w' => e = .returned (.pointer (some ⟨w.heap.size, 0, none⟩)) ∧ w' = w.alloc (rclkObj (Clk.new slack idle) (.slice none 0 0)) := by
  have HN := Lib.hid (show Clk.new slack idle = ⟨boundI slack, boundI idle, 0, -1, []⟩ from rfl)
  go_enter Tryz.func104, Tryz.ntmps104
  go_wp2_with fail
  refine (held_any w slack).mono ?_
  rintro r w1 ⟨rfl, hw1⟩
  rw [hw1]; clear hw1
  go_wp2_with fail
  refine (held_any w idle).mono ?_
  rintro r w1 ⟨rfl, hw1⟩
  rw [hw1]; clear hw1
  go_wp2
  go_ret
  exact ⟨rfl, rfl⟩
theorem ritknew_any (w : World) (slack idle : Int) : Calls Tryz.prog 64 #[.int .i64 slack, .int .i64 idle] w (RNewPost w (Itk.new slack idle)) := by
  go_enter Tryz.func64, Tryz.ntmps64
  go_wp2_with fail
  refine (rclknew_any w slack idle).mono ?_
  rintro r w1 ⟨rfl, rfl⟩
  have HR := Lib.hid (show RNewPost w (Itk.new slack idle) (.returned (.pointer (some ⟨w.heap.size + 1, 0, none⟩))) ((w.alloc (rclkObj (Clk.new slack idle) (.slice none 0 0))).alloc (ritkObj w.heap.size (.slice none 0 0) (.slice none 0 0) (.slice none 0 0) (.slice none 0 0))) from by
    have hb1 : Below w.heap.size w (w.alloc (rclkObj (Clk.new slack idle) (.slice none 0 0))) := (Below.refl _ _).alloc (Nat.le_refl _) _
    have hb2 := hb1.alloc hb1.size (ritkObj w.heap.size (.slice none 0 0) (.slice none 0 0) (.slice none 0 0) (.slice none 0 0))
    have hm : (0 : Nat) ≤ maxLen := Nat.zero_le _
    have hs1 : (w.alloc (rclkObj (Clk.new slack idle) (.slice none 0 0))).heap.size = w.heap.size + 1 := by simp
    have hv : ∀ (S : Nat → Prop), VwIn S none 0 := fun S a ha => by cases ha
    refine ⟨w.heap.size + 1, w.heap.size, rfl, ⟨⟨_, _, _, _, by rw [← hs1]; exact heap_alloc_new _ _, ⟨⟨none, 0, [], rfl, ⟨Cel.nil _ _ _ _ _ hm, fun q hq => (by cases hq), hv _⟩, rfl, Nat.le_refl _, fun q hq => (by cases hq)⟩, ⟨none, 0, rfl, Cel.nil _ _ _ _ _ hm, hv _⟩, ⟨none, 0, rfl, Cel.nil _ _ _ _ _ hm, hv _⟩, ⟨none, 0, [], rfl, Cel.nil _ _ _ _ _ hm, hv _, ⟨List.Pairwise.nil, fun y => by simp [Itk.new]⟩, Nat.le_refl _⟩⟩⟩, ⟨⟨none, 0, 0, ?_, Cel.nil _ _ _ _ _ hm, hv _⟩, fun h => h, fun b h => h.elim, ClkOk.new slack idle, Nat.le_refl _⟩, fun h => h, by omega, HadOk.nil, Nat.le_refl _, Nat.le_refl _⟩, by omega, Nat.le_refl _, hb2⟩
    exact (Below.heap_alloc _ _ w.heap.size (by rw [hs1]; omega)).trans (heap_alloc_new w _))
  go_wp2
  go_ret
  exact HR.out
end Go.Proofs.YtoljbbmjbgepiaaGreatDoor
