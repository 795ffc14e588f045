/-
  slices.insertionSortCmpFunc at events.
-/
import Derived.Test.YtoljbbmjbgepiaaGreatDoorDStSwap
import Derived.Deep.RegionHeld3
namespace Go.Proofs.YtoljbbmjbgepiaaGreatDoor
open Go.RowKit Go.Maps Go.Sort

/-- the events' comparison, as a value -/
abbrev cmpV : Value := .func (.func 58) #[] #[]
theorem get_at (p r : List Ev) (x : Ev) {i : Nat} (hi : p.length = i) (h : i < (p ++ x :: r).length) : (p ++ x :: r)[i]'h = x := by subst hi; simp
theorem Srt.at_ {w0 wr : World} {base g n cap : Nat} {P R : List Ev} {x : Ev} {l : List Ev} (h : Srt w0 base g n cap l wr) (hl : l = P ++ x :: R) {i : Nat} (hi : P.length = i) : EvAt wr g (i * 8) x := by
  subst hl
  have h1 := h.ev i (by rw [← hi]; simp)
  rw [get_at P R x hi] at h1
  exact h1
def SInsPost (w0 : World) (base g n cap : Nat) (X S Y : List Ev) (e : Ending) (w' : World) : Prop := e = .returned (.tuple #[]) ∧ ∃ S', SortedE S' ∧ S'.Perm S ∧ Srt w0 base g n cap (X ++ S' ++ Y) w'
def InsRel (w0 : World) (base g n cap a : Nat) (X S Y : List Ev) (iv : Value) (wr : World) : Prop := ∃ (c : Nat) (P : List Ev), iv = .int .i64 ((a + c : Nat) : Int) ∧ 1 ≤ c ∧ c ≤ S.length + 1 ∧ SortedE P ∧ P.Perm (S.take c) ∧ Srt w0 base g n cap (X ++ (P ++ S.drop c) ++ Y) wr
def InnRel (w0 : World) (base g n cap a : Nat) (X P R : List Ev) (x : Ev) (jv : Value) (wr : World) : Prop := ∃ (Q Q' : List Ev), jv = .int .i64 ((a + Q.length : Nat) : Int) ∧ Q ++ Q' = P ∧ (∀ y ∈ Q', LeE x y) ∧ Srt w0 base g n cap ((X ++ Q) ++ x :: (Q' ++ R)) wr

set_option maxRecDepth 100000 in
set_option maxHeartbeats 8000000 in
theorem insSort_any (w0 w : World) (base g n cap : Nat) (X S Y : List Ev) (h : Srt w0 base g n cap (X ++ S ++ Y) w) (hn : n ≤ 1000000) (a b : Nat) (ha : X.length = a) (hb : a + S.length = b) :
    Calls Tryz.prog 131 #[.slice (some ⟨g, 0, none⟩) n cap, .int .i64 a, .int .i64 b, cmpV] w (SInsPost w0 base g n cap X S Y) := by
  have hlen : n = X.length + S.length + Y.length := by have := h.len; simp at this; omega
  have hbn : b ≤ n := by omega
  have HH := Lib.hid (show InsRel w0 base g n cap a X S Y (.int .i64 ((a : Int) + 1)) w from ⟨1, S.take 1, by congr 1, Nat.le_refl _, by omega, by
      cases S with
      | nil => exact List.Pairwise.nil
      | cons x s => exact List.pairwise_singleton _ _, List.Perm.refl _, by rw [List.take_append_drop]; exact h⟩)
  have HA := Lib.hid ha; have HB := Lib.hid hb
  have hsb : S.length = b - a := by omega
  have HSB := Lib.hid hsb
  have hab : a ≤ b := by omega
  clear h hlen ha hb hsb
  go_enter Tryz.func131, Tryz.ntmps131
  go_wp2
  go_loopw [8] (fun i wr => InsRel w0 base g n cap a X S Y i wr) (fun i _ => b - (intOf i).toNat)
  case atStart => exact HH.out
  case round =>
    obtain ⟨c, P, rfl, hc1, hc2, hP, hPS, hS⟩ := hrel
    have HP := Lib.hid hP; have HPS := Lib.hid hPS; have HS := Lib.hid hS
    have hc3 : a + c ≤ b + 1 := by have := HB.out; omega
    clear hP hPS hS HH hc2
    obtain ⟨i, hi⟩ : ∃ i, i = a + c := ⟨_, rfl⟩
    have HI := Lib.hid hi
    rw [← hi]
    rw [← hi] at hc3
    have hai : a < i := by omega
    clear hi
    by_cases hib : i < b
    · have t1 : (i : Int) < b := by omega
      have hcS : c < S.length := by have := HI.out; have := HB.out; omega
      have hPl : P.length = c := by rw [HPS.out.length_eq, List.length_take]; omega
      have HPL := Lib.hid hPl
      have HTK := Lib.hid (show S.take (c + 1) = S.take c ++ [S[c]] by rw [List.take_add_one, List.getElem?_eq_getElem hcS]; rfl)
      have HIN := Lib.hid (show InnRel w0 base g n cap a X P (S.drop (c + 1) ++ Y) S[c] (.int .i64 (i : Int)) wr from ⟨P, [], by rw [HI.out, hPl], by simp, fun y hy => by simp at hy, by
        have h1 := HS.out
        rw [List.drop_eq_getElem_cons hcS] at h1
        simpa only [List.append_assoc, List.cons_append, List.nil_append] using h1⟩)
      have HNX := Lib.hid (show ∀ W P', SortedE P' → P'.Perm (P ++ [S[c]]) → Srt w0 base g n cap (X ++ (P' ++ (S.drop (c + 1) ++ Y))) W → InsRel w0 base g n cap a X S Y (.int .i64 ((i + 1 : Nat) : Int)) W from fun W P' h1 h2 h3 => ⟨c + 1, P', by rw [HI.out, Nat.add_assoc], by omega, by omega, h1, by rw [HTK.out]; exact h2.trans (HPS.out.append_right _), by simpa only [List.append_assoc] using h3⟩)
      generalize S[c] = x at *
      clear hcS hPl HS HTK HPL
      generalize S.drop (c + 1) ++ Y = R at *
      go_wp2
      go_loopw [9] (fun j wz => InnRel w0 base g n cap a X P R x j wz) (fun j _ => (intOf j).toNat)
      case atStart => exact HIN.out
      case round =>
        obtain ⟨Q, Q', rfl, hQP, hQ', hS⟩ := hrel
        generalize wr = wz at *
        have HS := Lib.hid hS; have HQP := Lib.hid hQP; have HQ' := Lib.hid hQ'
        have hl : a + Q.length < n := by have h1 := HA.out; have := hS.len; simp at this; omega
        obtain ⟨j, hj⟩ : ∃ j, j = a + Q.length := ⟨_, rfl⟩
        rw [← hj]
        rw [← hj] at hl
        have HJ := Lib.hid hj
        clear hS hQP hQ' HIN
        rcases List.eq_nil_or_concat Q with hQ | ⟨Q0, y, hQ⟩
        · have hja : j = a := by rw [hj, hQ]; simp
          have HF := Lib.hid (show ∀ q, InsRel w0 base g n cap a X S Y (.int .i64 ((i + 1 : Nat) : Int)) (wz.drewN q) from fun q => HNX.out _ (x :: Q') (by
            have hs := HP.out
            rw [← HQP.out, hQ] at hs
            exact List.pairwise_cons.2 ⟨HQ'.out, by rw [List.nil_append] at hs; exact hs⟩) (by
            rw [← HQP.out, hQ]
            simpa using (List.perm_append_singleton x Q').symm) (by
            have h1 := HS.out.drewN q
            rw [hQ] at h1
            simpa only [List.append_assoc, List.cons_append, List.nil_append, List.append_nil] using h1))
          have t2 : ¬ (a : Int) < j := by omega
          have t3 : ¬ a < j := by omega
          clear hj hQ hja
          go_wp2
          go_quiet (fail)
          go_wp2
          go_roundw
          case rel => exact HF.out nq
          case measure => simp [intOf]; omega
        · rw [List.concat_eq_append] at hQ
          subst hQ
          obtain ⟨jm, hjm⟩ : ∃ jm, jm = a + Q0.length := ⟨_, rfl⟩
          have hj2 : j = jm + 1 := by rw [hj, hjm]; simp; omega
          have HJM := Lib.hid hjm
          have haj : a < j := by omega
          have t2 : (a : Int) < j := by omega
          have hjn : (j : Int) < n := by omega
          have hjmn : (jm : Int) < n := by omega
          have hxa : X.length = a := HA.out
          have HEV1 := Lib.hid (show ∀ W, Srt w0 base g n cap ((X ++ (Q0 ++ [y])) ++ x :: (Q' ++ R)) W → EvAt W g (j * 8) x from fun W hW => hW.at_ rfl (by rw [hj, List.length_append, hxa]))
          have HEV2 := Lib.hid (show ∀ W, Srt w0 base g n cap ((X ++ (Q0 ++ [y])) ++ x :: (Q' ++ R)) W → EvAt W g (jm * 8) y from fun W hW => hW.at_ (P := X ++ Q0) (R := x :: (Q' ++ R)) (by simp only [List.append_assoc, List.cons_append, List.nil_append]) (by rw [hjm, List.length_append, hxa]))
          have HSWF := Lib.hid (show ∀ W, Srt w0 base g n cap ((X ++ (Q0 ++ [y])) ++ x :: (Q' ++ R)) W → SwF w0 base g n cap ((X ++ Q0) ++ x :: ([] ++ y :: (Q' ++ R))) jm j y x W from fun W hW => Srt.swf (Q := []) (by simpa only [List.append_assoc, List.cons_append, List.nil_append] using hW) (by rw [hjm, List.length_append, hxa]) (by rw [hj, List.length_append, hxa]; simp; omega))
          have HIX := Lib.hid (show ∀ W, LtE x y → Srt w0 base g n cap ((X ++ Q0) ++ x :: ([] ++ y :: (Q' ++ R))) W → InnRel w0 base g n cap a X P R x (.int .i64 (jm : Int)) W from fun W hlt hW => ⟨Q0, y :: Q', by rw [HJM.out], by rw [← HQP.out]; simp, fun z hz => by
            rcases List.mem_cons.1 hz with rfl | hz
            · exact hlt.le
            · exact HQ'.out z hz, by simpa only [List.append_assoc, List.cons_append, List.nil_append] using hW⟩)
          have HOX := Lib.hid (show ∀ W, ¬ LtE x y → Srt w0 base g n cap ((X ++ (Q0 ++ [y])) ++ x :: (Q' ++ R)) W → InsRel w0 base g n cap a X S Y (.int .i64 ((i + 1 : Nat) : Int)) W from fun W hlt hW => HNX.out W ((Q0 ++ [y]) ++ x :: Q') (by
            have hs := HP.out
            rw [← HQP.out] at hs
            refine sorted_put hs (fun z hz => ?_) HQ'.out
            have h1 := (sorted_append.1 (sorted_append.1 hs).1).2.2
            rcases List.mem_append.1 hz with hz | hz
            · exact (h1 z hz y (by simp)).trans hlt
            · rw [List.mem_singleton] at hz; subst hz; exact hlt) (by
            rw [← HQP.out]
            have h2 : ((Q0 ++ [y]) ++ x :: Q').Perm (x :: ((Q0 ++ [y]) ++ Q')) := List.perm_middle
            exact h2.trans (List.perm_append_singleton x _).symm) (by simpa only [List.append_assoc, List.cons_append, List.nil_append] using hW))
          clear hj hjm hxa HQP HQ' HNX
          generalize hLL : (X ++ (Q0 ++ [y])) ++ x :: (Q' ++ R) = LL at *
          generalize hLM : (X ++ Q0) ++ x :: ([] ++ y :: (Q' ++ R)) = LM at *
          clear hLL hLM
          have HCM := Lib.hid (show ∀ W, Calls Tryz.prog 58 #[.agg #[.string ⟨x.src.toArray⟩, .int .i64 x.num, .int .i64 x.at_, .int .i64 x.kind, .string ⟨x.per.toArray⟩, .string ⟨x.item.toArray⟩, .int .i64 x.val, .string ⟨x.text.toArray⟩], .agg #[.string ⟨y.src.toArray⟩, .int .i64 y.num, .int .i64 y.at_, .int .i64 y.kind, .string ⟨y.per.toArray⟩, .string ⟨y.item.toArray⟩, .int .i64 y.val, .string ⟨y.text.toArray⟩]] W fun e w' => e = .returned (.int .i64 (cmpE x y)) ∧ Below W.heap.size W w' from fun W => compare_any W x y)
          by_cases hlt : cmpE x y < 0
          · have HLT := Lib.hid (cmpE_neg.1 hlt)
            obtain ⟨s1, s2⟩ : (j : Int) - 1 = (jm : Int) ∧ IntKind.i64.wrap (jm : Int) = (jm : Int) := ⟨by omega, IntWalk.i64_in _ (by omega)⟩
            clear hj2
            go_wp2
            have HSS := Lib.hid (show ∀ W : World, Srt w0 base g n cap LL W → (W.cell? ⟨g, j * 8, none⟩ = some (.string ⟨x.src.toArray⟩) ∧ W.cell? ⟨g, j * 8 + 1, none⟩ = some (.int .i64 x.num) ∧ W.cell? ⟨g, j * 8 + 2, none⟩ = some (.int .i64 x.at_) ∧ W.cell? ⟨g, j * 8 + 3, none⟩ = some (.int .i64 x.kind) ∧ W.cell? ⟨g, j * 8 + 4, none⟩ = some (.string ⟨x.per.toArray⟩) ∧ W.cell? ⟨g, j * 8 + 5, none⟩ = some (.string ⟨x.item.toArray⟩) ∧ W.cell? ⟨g, j * 8 + 6, none⟩ = some (.int .i64 x.val) ∧ W.cell? ⟨g, j * 8 + 7, none⟩ = some (.string ⟨x.text.toArray⟩) ∧ W.cell? ⟨g, jm * 8, none⟩ = some (.string ⟨y.src.toArray⟩) ∧ W.cell? ⟨g, jm * 8 + 1, none⟩ = some (.int .i64 y.num) ∧ W.cell? ⟨g, jm * 8 + 2, none⟩ = some (.int .i64 y.at_) ∧ W.cell? ⟨g, jm * 8 + 3, none⟩ = some (.int .i64 y.kind) ∧ W.cell? ⟨g, jm * 8 + 4, none⟩ = some (.string ⟨y.per.toArray⟩) ∧ W.cell? ⟨g, jm * 8 + 5, none⟩ = some (.string ⟨y.item.toArray⟩) ∧ W.cell? ⟨g, jm * 8 + 6, none⟩ = some (.int .i64 y.val) ∧ W.cell? ⟨g, jm * 8 + 7, none⟩ = some (.string ⟨y.text.toArray⟩)) from fun W hW => by
              obtain ⟨a0, a1, a2, a3, a4, a5, a6, a7⟩ := HEV1.out W hW
              obtain ⟨b0, b1, b2, b3, b4, b5, b6, b7⟩ := HEV2.out W hW
              exact ⟨a0, a1, a2, a3, a4, a5, a6, a7, b0, b1, b2, b3, b4, b5, b6, b7⟩)
            have HX := Lib.hid (HS.out.drewN 1)
            have hS := HSS.out _ HS.out
            go_region_held3 (fun W => W.cell? ⟨g, j * 8, none⟩ = some (.string ⟨x.src.toArray⟩) ∧ W.cell? ⟨g, j * 8 + 1, none⟩ = some (.int .i64 x.num) ∧ W.cell? ⟨g, j * 8 + 2, none⟩ = some (.int .i64 x.at_) ∧ W.cell? ⟨g, j * 8 + 3, none⟩ = some (.int .i64 x.kind) ∧ W.cell? ⟨g, j * 8 + 4, none⟩ = some (.string ⟨x.per.toArray⟩) ∧ W.cell? ⟨g, j * 8 + 5, none⟩ = some (.string ⟨x.item.toArray⟩) ∧ W.cell? ⟨g, j * 8 + 6, none⟩ = some (.int .i64 x.val) ∧ W.cell? ⟨g, j * 8 + 7, none⟩ = some (.string ⟨x.text.toArray⟩) ∧ W.cell? ⟨g, jm * 8, none⟩ = some (.string ⟨y.src.toArray⟩) ∧ W.cell? ⟨g, jm * 8 + 1, none⟩ = some (.int .i64 y.num) ∧ W.cell? ⟨g, jm * 8 + 2, none⟩ = some (.int .i64 y.at_) ∧ W.cell? ⟨g, jm * 8 + 3, none⟩ = some (.int .i64 y.kind) ∧ W.cell? ⟨g, jm * 8 + 4, none⟩ = some (.string ⟨y.per.toArray⟩) ∧ W.cell? ⟨g, jm * 8 + 5, none⟩ = some (.string ⟨y.item.toArray⟩) ∧ W.cell? ⟨g, jm * 8 + 6, none⟩ = some (.int .i64 y.val) ∧ W.cell? ⟨g, jm * 8 + 7, none⟩ = some (.string ⟨y.text.toArray⟩)) (first | assumption | exact HSS.out _ HX.out | go_keep) ((go_at_call 58; (with_reducible refine (HCM.out _).mono ?_); rintro r9 w9 ⟨rfl, hb9⟩; have HX2 := Lib.hid (HX.out.up hb9); clear HX; have HX := HX2; clear HX2; (try clear hS); have hS := HSS.out _ HX.out; clear hb9))
            clear hS HSS HCM HEV1 HEV2
            have hSW := HSWF.out _ HX.out
            have HRR := Lib.hid (HIX.out _ HLT.out hSW.resHi)
            obtain ⟨e0, e1, e2, e3, e4, e5, e6, e7⟩ := hSW.ex
            obtain ⟨f0, f1, f2, f3, f4, f5, f6, f7⟩ := hSW.ey
            have hfr := hSW.fr
            obtain ⟨⟨z, z0, z1, z2, z3, z4, z5, z6, z7⟩, hf5⟩ := hSW.hi
            unfold setEv at z0 z1 z2 z3 z4 z5 z6 z7 hf5
            clear hSW HX
            go_wp2
            go_region_law (fail)
            all_goals
              clear z0 z1 z2 z3 z4 z5 z6 z7 hf5 e0 e1 e2 e3 e4 e5 e6 e7 f0 f1 f2 f3 f4 f5 f6 f7 hfr
              change Exit.inBlock _ _ _ _ (setEv (setEv w9 g (j * 8) y) g (jm * 8) x).drew
              generalize (setEv (setEv w9 g (j * 8) y) g (jm * 8) x).drew = w5 at *
              go_wp2
              go_roundw
              case rel => exact HRR.out
              case measure => simp [intOf]; omega
          · have HLT := Lib.hid (show ¬ LtE x y from fun h => hlt (cmpE_neg.2 h))
            obtain ⟨s1, s2⟩ : (j : Int) - 1 = (jm : Int) ∧ IntKind.i64.wrap (jm : Int) = (jm : Int) := ⟨by omega, IntWalk.i64_in _ (by omega)⟩
            clear hj2
            go_wp2
            have HSS := Lib.hid (show ∀ W : World, Srt w0 base g n cap LL W → (W.cell? ⟨g, j * 8, none⟩ = some (.string ⟨x.src.toArray⟩) ∧ W.cell? ⟨g, j * 8 + 1, none⟩ = some (.int .i64 x.num) ∧ W.cell? ⟨g, j * 8 + 2, none⟩ = some (.int .i64 x.at_) ∧ W.cell? ⟨g, j * 8 + 3, none⟩ = some (.int .i64 x.kind) ∧ W.cell? ⟨g, j * 8 + 4, none⟩ = some (.string ⟨x.per.toArray⟩) ∧ W.cell? ⟨g, j * 8 + 5, none⟩ = some (.string ⟨x.item.toArray⟩) ∧ W.cell? ⟨g, j * 8 + 6, none⟩ = some (.int .i64 x.val) ∧ W.cell? ⟨g, j * 8 + 7, none⟩ = some (.string ⟨x.text.toArray⟩) ∧ W.cell? ⟨g, jm * 8, none⟩ = some (.string ⟨y.src.toArray⟩) ∧ W.cell? ⟨g, jm * 8 + 1, none⟩ = some (.int .i64 y.num) ∧ W.cell? ⟨g, jm * 8 + 2, none⟩ = some (.int .i64 y.at_) ∧ W.cell? ⟨g, jm * 8 + 3, none⟩ = some (.int .i64 y.kind) ∧ W.cell? ⟨g, jm * 8 + 4, none⟩ = some (.string ⟨y.per.toArray⟩) ∧ W.cell? ⟨g, jm * 8 + 5, none⟩ = some (.string ⟨y.item.toArray⟩) ∧ W.cell? ⟨g, jm * 8 + 6, none⟩ = some (.int .i64 y.val) ∧ W.cell? ⟨g, jm * 8 + 7, none⟩ = some (.string ⟨y.text.toArray⟩)) from fun W hW => by
              obtain ⟨a0, a1, a2, a3, a4, a5, a6, a7⟩ := HEV1.out W hW
              obtain ⟨b0, b1, b2, b3, b4, b5, b6, b7⟩ := HEV2.out W hW
              exact ⟨a0, a1, a2, a3, a4, a5, a6, a7, b0, b1, b2, b3, b4, b5, b6, b7⟩)
            have HX := Lib.hid (HS.out.drewN 1)
            have hS := HSS.out _ HS.out
            go_region_held3 (fun W => W.cell? ⟨g, j * 8, none⟩ = some (.string ⟨x.src.toArray⟩) ∧ W.cell? ⟨g, j * 8 + 1, none⟩ = some (.int .i64 x.num) ∧ W.cell? ⟨g, j * 8 + 2, none⟩ = some (.int .i64 x.at_) ∧ W.cell? ⟨g, j * 8 + 3, none⟩ = some (.int .i64 x.kind) ∧ W.cell? ⟨g, j * 8 + 4, none⟩ = some (.string ⟨x.per.toArray⟩) ∧ W.cell? ⟨g, j * 8 + 5, none⟩ = some (.string ⟨x.item.toArray⟩) ∧ W.cell? ⟨g, j * 8 + 6, none⟩ = some (.int .i64 x.val) ∧ W.cell? ⟨g, j * 8 + 7, none⟩ = some (.string ⟨x.text.toArray⟩) ∧ W.cell? ⟨g, jm * 8, none⟩ = some (.string ⟨y.src.toArray⟩) ∧ W.cell? ⟨g, jm * 8 + 1, none⟩ = some (.int .i64 y.num) ∧ W.cell? ⟨g, jm * 8 + 2, none⟩ = some (.int .i64 y.at_) ∧ W.cell? ⟨g, jm * 8 + 3, none⟩ = some (.int .i64 y.kind) ∧ W.cell? ⟨g, jm * 8 + 4, none⟩ = some (.string ⟨y.per.toArray⟩) ∧ W.cell? ⟨g, jm * 8 + 5, none⟩ = some (.string ⟨y.item.toArray⟩) ∧ W.cell? ⟨g, jm * 8 + 6, none⟩ = some (.int .i64 y.val) ∧ W.cell? ⟨g, jm * 8 + 7, none⟩ = some (.string ⟨y.text.toArray⟩)) (first | assumption | exact HSS.out _ HX.out | go_keep) ((go_at_call 58; (with_reducible refine (HCM.out _).mono ?_); rintro r9 w9 ⟨rfl, hb9⟩; have HX2 := Lib.hid (HX.out.up hb9); clear HX; have HX := HX2; clear HX2; (try clear hS); have hS := HSS.out _ HX.out; clear hb9))
            clear hS HSS HCM HEV1 HEV2
            have HRR := Lib.hid (HOX.out _ HLT.out HX.out)
            clear HX
            go_wp2
            go_roundw
            case rel => exact HRR.out
            case measure => simp [intOf]; omega
    · have t1 : ¬ (i : Int) < b := by omega
      have HF := Lib.hid (show SInsPost w0 base g n cap X S Y (.returned (.tuple #[])) wr from ⟨rfl, P, HP.out, by
        have h1 := HPS.out
        rw [List.take_of_length_le (by have := HI.out; have := HB.out; omega)] at h1
        exact h1, by
        have h1 := HS.out
        rw [List.drop_eq_nil_of_le (by have := HI.out; have := HB.out; omega), List.append_nil] at h1
        exact h1⟩)
      go_wp2
      go_end0
      exact HF.out
end Go.Proofs.YtoljbbmjbgepiaaGreatDoor
