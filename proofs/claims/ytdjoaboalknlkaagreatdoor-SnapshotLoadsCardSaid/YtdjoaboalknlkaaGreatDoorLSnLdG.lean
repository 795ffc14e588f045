/-
  Layer 30, plain: how much a set's and a clock's bytes can hold.
  Layer 30, plain: how much a text can hold; what frames hold.
  Layer 30: Load, of any bytes that are whole frames.
-/
import Derived.Test.YtdjoaboalknlkaaGreatDoorLSnSv
import Derived.Test.YtdjoaboalknlkaaGreatDoorLSnRd3
import Derived.Test.YtdjoaboalknlkaaGreatDoorLSnPcs
import Derived.Test.YtdjoaboalknlkaaGreatDoorLSnLd
namespace Go.Proofs.YtdjoaboalknlkaaGreatDoor
open Go.RowKit

theorem numD_len : ∀ (f i acc : Nat) (l : List UInt8) (n : Nat) (r : List UInt8), numD f i acc l = .ok n r → r.length < l.length
  | 0, _, _, _, _, _, h => by simp [numD] at h
  | _ + 1, _, _, [], _, _, h => by simp [numD] at h
  | f + 1, i, acc, c :: l, n, r, h => by
    unfold numD at h
    split at h
    · cases h
    · split at h
      · injection h with _ h; subst h; simp
      · have := numD_len f _ _ l n r h
        simp only [List.length_cons]; omega
theorem numR_short {l : List UInt8} {n : Nat} {r : List UInt8} (h : numR l = .ok n r) : r.length < l.length := numD_len _ _ _ _ _ _ h
theorem srcR_len {l : List UInt8} {s r : List UInt8} (h : srcR l = .ok s r) : r.length < l.length := by
  cases l with
  | nil => simp [srcR] at h
  | cons c l =>
    simp only [srcR] at h
    by_cases h1 : l.length < c.toNat
    · rw [if_pos h1] at h; cases h
    · rw [if_neg h1] at h
      by_cases h2 : nameB (l.take c.toNat) = true
      · rw [if_pos h2] at h; injection h with _ h; subst h; simp only [List.length_drop, List.length_cons]; omega
      · rw [if_neg h2] at h; cases h
theorem rgsA_len : ∀ (n : Nat) (rs : Rg) (l : List UInt8) (rs' : Rg) (r : List UInt8), rgsA n rs l = .ok rs' r → rs'.length + r.length ≤ rs.length + l.length
  | 0, rs, l, rs', r, h => by unfold rgsA at h; injection h with h1 h2; subst h1 h2; exact Nat.le_refl _
  | n + 1, rs, l, rs', r, h => by
    unfold rgsA at h
    cases h1 : numR l with
    | torn => simp [h1] at h
    | form => simp [h1] at h
    | ok gap l1 =>
      have k1 := numR_short h1
      simp only [h1] at h
      split at h
      · cases h
      · cases h2 : numR l1 with
        | torn => simp [h2] at h
        | form => simp [h2] at h
        | ok many l2 =>
          have k2 := numR_short h2
          simp only [h2] at h
          split at h
          · cases h
          · have := rgsA_len n _ l2 rs' r h
            rw [List.length_append] at this
            simp only [List.length_cons, List.length_nil] at this
            omega
theorem rangeR_len {l : List UInt8} {rs : Rg} {r : List UInt8} (h : rangeR l = .ok rs r) : rs.length + r.length ≤ l.length := by
  unfold rangeR at h
  cases h1 : numR l with
  | torn => simp [h1] at h
  | form => simp [h1] at h
  | ok n l1 =>
    have k1 := numR_short h1
    simp only [h1] at h
    split at h
    · cases h
    · have := rgsA_len n _ l1 rs r h
      simp only [List.length_nil] at this; omega
/-- sources and ranges, counted -/
def sizH (m : Had) : Nat := (m.map fun p => 1 + p.2.length).sum
theorem srcsA_len : ∀ (n : Nat) (m : Had) (l : List UInt8) (m' : Had) (r : List UInt8), srcsA n m l = .ok m' r → sizH m' + r.length ≤ sizH m + l.length
  | 0, m, l, m', r, h => by unfold srcsA at h; injection h with h1 h2; subst h1 h2; exact Nat.le_refl _
  | n + 1, m, l, m', r, h => by
    unfold srcsA at h
    cases h1 : srcR l with
    | torn => simp [h1] at h
    | form => simp [h1] at h
    | ok s l1 =>
      have k1 := srcR_len h1
      simp only [h1] at h
      split at h
      · cases h2 : rangeR l1 with
        | torn => simp [h2] at h
        | form => simp [h2] at h
        | ok rs l2 =>
          have k2 := rangeR_len h2
          simp only [h2] at h
          have := srcsA_len n _ l2 m' r h
          have e : sizH (m ++ [(s, rs)]) = sizH m + (1 + rs.length) := by simp [sizH]
          rw [e] at this
          omega
      · cases h
theorem decH_len {b : List UInt8} {m : Had} {r : List UInt8} (h : decH b = .ok m r) : sizH m ≤ b.length := by
  unfold decH at h
  cases h1 : numR b with
  | torn => simp [h1] at h
  | form => simp [h1] at h
  | ok n l =>
    have k1 := numR_short h1
    simp only [h1] at h
    cases h2 : srcsA n [] l with
    | torn => simp [h2] at h
    | form => simp [h2] at h
    | ok m2 r2 =>
      have k2 := srcsA_len n [] l m2 r2 h2
      simp only [h2] at h
      split at h
      · injection h with h3 _; subst h3
        have e : sizH [] = 0 := rfl
        rw [e] at k2; omega
      · cases h
theorem sizH_le : ∀ (m : Had), m.length ≤ sizH m ∧ ∀ p ∈ m, p.2.length ≤ sizH m
  | [] => ⟨Nat.le_refl _, fun _ h => by cases h⟩
  | q :: m => by
    have ih := sizH_le m
    have e : sizH (q :: m) = 1 + q.2.length + sizH m := by simp [sizH]
    rw [e]
    refine ⟨by simp only [List.length_cons]; omega, fun p hp => ?_⟩
    rcases List.mem_cons.1 hp with rfl | hp
    · omega
    · have := ih.2 p hp; omega
theorem flat_siz : ∀ (m : Had), (∀ p ∈ m, (encS p).length ≤ 33 + 16 * p.2.length) → (m.flatMap encS).length ≤ 33 * sizH m
  | [], _ => by simp [sizH]
  | p :: m, h => by
    have h1 := flat_siz m (fun q hq => h q (List.mem_cons_of_mem _ hq))
    have h2 := h p List.mem_cons_self
    have e : sizH (p :: m) = 1 + p.2.length + sizH m := by simp [sizH]
    rw [e, List.flatMap_cons, List.length_append]; omega
theorem encH_siz {m : Had} (hok : HadOk m) (h : sizH m ≤ 5000) : (encH m).length ≤ 170000 := by
  have h0 := sizH_le m
  have h1 := numB_short (n := m.length) (by omega)
  have h2 := flat_siz m (fun p hp => encS_lenN (hok.each p hp).1 (hok.each p hp).2.1 (Nat.le_refl _) (by have := h0.2 p hp; omega))
  unfold encH; rw [List.length_append]; omega
theorem srcB_cnt : ∀ m : Row (Int × Int), m.length ≤ (srcB m).length
  | [] => Nat.zero_le _
  | p :: m => by
    have := srcB_cnt m
    unfold srcB at this ⊢
    rw [List.flatMap_cons, List.length_append, List.length_cons]
    have h2 : 0 < (lineB p.1 [p.2.1, p.2.2]).length := by unfold lineB; simp only [List.length_append, List.length_cons]; omega
    omega
theorem decC_len {b : List UInt8} {c : Clk} (h : decC b = some c) : encC c = b ∧ c.src.length ≤ b.length := by
  have he : encC c = b := by
    unfold decC at h
    split at h
    · rename_i hc
      injection h with h
      rw [← h]
      simp only [Bool.and_eq_true, beq_iff_eq] at hc
      exact hc.1.2
    · cases h
  refine ⟨he, ?_⟩
  rw [← he]
  have := srcB_cnt c.src
  unfold encC; rw [List.length_append]; omega
theorem pt_bd {lc lh : List UInt8} {N : Nat} (hc : lc.length ≤ N) (hh : lh.length ≤ N) : PtBd N lc lh :=
  ⟨fun _ h => Nat.le_trans (decC_len h).2 hc, fun _ _ h => ⟨Nat.le_trans (sizH_le _).1 (Nat.le_trans (decH_len h) hh), fun p hp => Nat.le_trans ((sizH_le _).2 p hp) (Nat.le_trans (decH_len h) hh)⟩⟩
end Go.Proofs.YtdjoaboalknlkaaGreatDoor
namespace Go.Proofs.YtdjoaboalknlkaaGreatDoor
open Go.RowKit

theorem linS_len (w : List UInt8) (s : Sn) : (linS w s).b.length ≤ s.b.length := by unfold linS; split <;> exact tilS_len s
theorem somS_len (w : List UInt8) (s : Sn) : (somS w s).b.length ≤ s.b.length ∧ (somV w s).length ≤ s.b.length := by
  have h := linS_len w s
  unfold somS somV
  constructor
  · split
    · exact h
    · show ((linS w s).b.drop _).length ≤ _; rw [List.length_drop]; omega
  · split
    · exact Nat.zero_le _
    · rw [List.length_take]; omega
theorem evsR_rest : ∀ (n : Nat) (s : Sn) (l : List Ev), (evsR n s l).2.b.length ≤ s.b.length
  | 0, s, l => by simp [evsR]
  | n + 1, s, l => by
    simp only [evsR]
    cases hd : decE s.b with
    | ok e r =>
      obtain ⟨_, k, h1, h2, h3⟩ := decE_ok hd
      have := evsR_rest n ⟨r, s.ok⟩ (l ++ [e])
      rw [h3, List.length_drop] at this
      simp only
      rw [h3]
      omega
    | torn => exact Nat.le_refl _
    | form => exact Nat.le_refl _
theorem evS_len (w : List UInt8) (s : Sn) : (evS w s).b.length ≤ s.b.length ∧ (evV w s).length ≤ s.b.length := by
  have h := linS_len w s
  have h1 := evsR_rest (linV w s).toNat (linS w s) []
  have h2 := evsR_len (linV w s).toNat (linS w s) []
  unfold evS evV
  simp only [List.length_nil, Nat.zero_add] at h2
  omega
theorem gonR_bad (n : Nat) (s : Sn) (l : List (List UInt8)) (h : s.ok = false) : gonR n s l = (l, s) := by
  cases n with
  | zero => rfl
  | succ n => simp [gonR, h]
theorem gonR_len : ∀ (n : Nat) (s : Sn) (l : List (List UInt8)), (gonR n s l).1.length ≤ l.length + s.b.length + 1
  | 0, s, l => by simp only [gonR]; omega
  | n + 1, s, l => by
    cases hok : s.ok with
    | false => rw [gonR_bad _ _ _ hok]; show l.length ≤ _; omega
    | true =>
      have e : gonR (n + 1) s l = gonR n (tilS s) (l ++ [tilV s]) := by simp [gonR, hok]
      rw [e]
      cases ht : (tilS s).ok with
      | false =>
        rw [gonR_bad _ _ _ ht]
        show (l ++ [tilV s]).length ≤ _
        rw [List.length_append, List.length_singleton]; omega
      | true =>
        have h1 := gonR_len n (tilS s) (l ++ [tilV s])
        have h2 := (tilS_inv (cur := s) (s0 := ⟨List.replicate (l.length + s.b.length) 0, true⟩) (L := l) hok (by simp)).1 ht
        simp only [List.length_append, List.length_singleton, List.length_replicate] at h1 h2
        omega
structure SnLn (l : List UInt8) : Prop where
  clk : (snD l).clk.length ≤ l.length
  had : (snD l).had.length ≤ l.length
  tk : (snD l).tk.length ≤ l.length
  lt : (snD l).lt.length ≤ l.length
  gn : (snD l).gn.length ≤ l.length + 1
theorem sn_len (l : List UInt8) : SnLn l := by
  have h1 : (sn1 l).b.length ≤ l.length := by have := linS_len wSnap ⟨l, true⟩; unfold sn1; exact this
  have h2 : (sn2 l).b.length ≤ (sn1 l).b.length := by unfold sn2; exact linS_len _ _
  have h3 : (sn3 l).b.length ≤ (sn2 l).b.length := by unfold sn3; exact linS_len _ _
  have e4 : (sn4 l).b.length ≤ (sn3 l).b.length := by unfold sn4; exact (somS_len _ _).1
  have e5 : (sn5 l).b.length ≤ (sn4 l).b.length := by unfold sn5; exact (somS_len _ _).1
  have e6 : (sn6 l).b.length ≤ (sn5 l).b.length := by unfold sn6; exact (evS_len _ _).1
  have e7 : (sn7 l).b.length ≤ (sn6 l).b.length := by unfold sn7; exact (evS_len _ _).1
  have e8 : (sn8 l).b.length ≤ (sn7 l).b.length := by unfold sn8; exact linS_len _ _
  have k4 := (somS_len wClock (sn3 l)).2
  have k5 := (somS_len wHad (sn4 l)).2
  have k6 := (evS_len wTaken (sn5 l)).2
  have k7 := (evS_len wLate (sn6 l)).2
  have h9 : (sn9 l).1.length ≤ (sn8 l).b.length + 1 := by
    have := gonR_len (linV wGone (sn7 l)).toNat (sn8 l) []
    unfold sn9
    simp only [List.length_nil, Nat.zero_add] at this
    exact this
  generalize hs3 : sn3 l = s3 at *
  generalize hs4 : sn4 l = s4 at *
  generalize hs5 : sn5 l = s5 at *
  generalize hs6 : sn6 l = s6 at *
  generalize hs9 : sn9 l = s9 at *
  constructor
  · unfold snD; simp only [hs3]; omega
  · unfold snD; simp only [hs4]; omega
  · unfold snD; simp only [hs5]; omega
  · unfold snD; simp only [hs6]; omega
  · unfold snD; simp only [hs9]; omega
theorem evV_may (w : List UInt8) (s : Sn) : ∀ e ∈ evV w s, mayB e = true := fun e he => evsR_may (linV w s).toNat (linS w s) [] (fun _ hx => by cases hx) e he
theorem sn_tk (l : List UInt8) : (snD l).tk = evV wTaken (sn5 l) := by simp only [snD]
theorem sn_lt (l : List UInt8) : (snD l).lt = evV wLate (sn6 l) := by simp only [snD]
theorem sn_may (l : List UInt8) : ∀ e, e ∈ (snD l).tk ∨ e ∈ (snD l).lt → mayB e = true := fun e he => by
  rw [sn_tk, sn_lt] at he
  rcases he with he | he
  · exact evV_may _ _ e he
  · exact evV_may _ _ e he
end Go.Proofs.YtdjoaboalknlkaaGreatDoor
namespace Frm
theorem openB_pay (l : List UInt8) : (openB l).1.length ≤ (openB l).2.1 := by
  unfold openB; split
  · simp
  · split
    · show ((l.drop 6).take (sz l)).length ≤ 6 + sz l + 4; rw [List.length_take]; omega
    · simp
theorem flatF_le (f : Nat) : ∀ l : List UInt8, (allF f l).1.flatten.length ≤ l.length := by
  induction f with
  | zero => intro l; simp [allF]
  | succ f ih =>
    intro l
    rw [allF_succ]
    split
    · simp
    · split
      · simp
      · have hl' := openB_le l
        have hp := openB_pay l
        have := ih (l.drop (openB l).2.1)
        rw [List.length_drop] at this
        simp only [List.flatten_cons, List.length_append]
        omega
theorem flatB_le (l : List UInt8) : (allB l).1.flatten.length ≤ l.length := flatF_le _ l
end Frm
namespace Go.Proofs.YtdjoaboalknlkaaGreatDoor
open Go.RowKit Go.Maps Go.Sort Go.Shelf

theorem ItkAt.hadOk {w : World} {F : Nat → Prop} {bi N : Nat} {x : Itk} (h : ItkAt w F bi N x) : HadOk x.had ∧ ClkOk x.clk := by
  obtain ⟨A, hM, _⟩ := h
  exact ⟨hM.had.ok, hM.clk.ok⟩
/-- parts that are an intake's can be saved -/
theorem parts_svOk {w : World} {F : Nat → Prop} {bi N : Nat} {a b : Int} {lc lh : List UInt8} {gs : List (List UInt8)} {ts ls : List Ev} {c : Clk} {m : Had} (h : PartsOk a b lc lh gs ts ls c m) (hi : ItkAt w F bi N ⟨c, m, ts, ls, gs⟩) (h1 : lc.length ≤ 5000) (h2 : lh.length ≤ 5000) (h3 : ts.length ≤ 6000) (h4 : ls.length ≤ 6000) (h5 : gs.length ≤ 6000) : SvOk ⟨c, m, ts, ls, gs⟩ := by
  obtain ⟨q, hq⟩ := h.dh
  have k1 := decH_len hq
  have k2 := encH_siz hi.hadOk.1 (m := m) (by omega)
  have k3 := (decC_len h.dc).1
  exact ⟨hi.hadOk.2, by show (encC c).length ≤ _; rw [k3]; omega, by show (encH m).length ≤ _; omega, h3, h4, h5, right_may h.right, fun g hg => by
    obtain ⟨j, hj, rfl⟩ := List.getElem_of_mem hg
    exact h.gone.name j hj⟩
def LdZ (w : World) (l : List UInt8) (e : Ending) (w' : World) : Prop := Below w.heap.size w w' ∧
  (e = .returned (.tuple #[.pointer none, .int .i64 0, .int .i64 2]) ∨
   ∃ (x : Itk) (off : Int) (bi : Nat) (F : Nat → Prop), e = .returned (.tuple #[.pointer (some ⟨bi, 0, none⟩), .int .i64 off, .int .i64 0]) ∧ ItkAt w' F bi 6000 x ∧ SvOk x ∧ 0 ≤ off ∧ off ≤ 1048576 ∧ piecesB (snX off x) = l ∧ ∀ b, F b → w.heap.size ≤ b)

set_option maxRecDepth 100000 in
set_option maxHeartbeats 8000000 in
theorem snload_zero (w : World) (A : Option Addr) (n c : Nat) (l : List UInt8) (h : Byt w w.heap.size A n c l) (hn : n ≤ 5000) (hs : (Frm.allB l).2.2 = 0) (hmx : MaxAt w) (hee : ErrsAt w) (htab : Lib.TabBelow Tryz.prog w.heap.size w "internal/strconv.uint64pow10" .u64 Lib.pow10Tab) : Calls Tryz.prog 5 #[.slice A n c] w (LdZ w l) := by
  have hll := h.len
  have hfl := Frm.flatB_le l
  cases hok : (snD (Frm.allB l).1.flatten).ok
  case false => exact (snload_form w A n c l h (by omega) hs (by omega) hok hmx hee).mono fun e w' ⟨q1, q2⟩ => ⟨q2, .inl q1⟩
  have HA := Lib.hid (all_any w A n c l h (by omega))
  have hle := (Frm.allB_le l).2
  have HMX := Lib.hid hmx; have HEE := Lib.hid hee; have HT := Lib.hid htab; have HBY := Lib.hid h
  clear h hmx hee htab
  go_enter Tryz.func5, Tryz.ntmps5
  go_wp2_with fail
  with_reducible refine HA.out.mono ?_
  rintro r w1 ⟨v, vs, rfl, ho, hob, hb⟩
  obtain ⟨Av, kv, rfl⟩ := ownsRow_form ho
  have HB := Lib.hid hb
  have hvs := hob.1
  have HJ := Lib.hid (join_any w1 _ _ Av vs.length kv vs _ (Cel.of_own ho) hob (by omega) (by omega))
  rw [hs]
  clear ho hob hb HA hvs
  have HLN := Lib.hid (sn_len (Frm.allB l).1.flatten)
  have HMY := Lib.hid (sn_may (Frm.allB l).1.flatten)
  have hT : (Frm.allB l).1.flatten.length ≤ 5000 := by omega
  generalize (Frm.allB l).1.flatten = T at *
  generalize (Frm.allB l).2.1 = m at *
  go_wp2_with fail
  with_reducible refine HJ.out.mono ?_
  rintro r w2 ⟨A2, c2, rfl, hb2, hA2, hbl2⟩
  have HB2 := Lib.hid (HB.out.trans (hbl2.mono HB.out.size))
  have HR := Lib.hid (snread_any w2 A2 T.length c2 T hb2 hA2 (by omega) (HEE.out.up HB2.out) (HMX.out.up HB2.out))
  clear HJ hb2 hA2 hbl2
  go_wp2_with fail
  with_reducible refine HR.out.mono ?_
  rintro r w3 ⟨Ac, nc, kc, Ah, nh, kh, At, nt, kt, Al, nl, kl, Ag, ng, kg, rfl, q1, q2, q3, q4, q5, q6⟩
  rw [hok]
  have g1 := HLN.out.clk; have g2 := HLN.out.had; have g3 := HLN.out.tk; have g4 := HLN.out.lt; have g5 := HLN.out.gn
  have hmy := HMY.out
  clear HLN HMY HR hok
  generalize snD T = D at *
  have hs3 := q6.size
  have hbA : Below w3.heap.size w3 (w3.alloc (ptsObj D.slack D.idle (.slice Ac nc kc) (.slice Ah nh kh) (.slice At nt kt) (.slice Al nl kl) (.slice Ag ng kg))) := (Below.refl _ _).alloc (Nat.le_refl _) _
  have HB4 := Lib.hid (HB2.out.trans ((q6.trans (hbA.mono hs3)).mono HB2.out.size))
  have HP4 := Lib.hid (show (w3.alloc (ptsObj D.slack D.idle (.slice Ac nc kc) (.slice Ah nh kh) (.slice At nt kt) (.slice Al nl kl) (.slice Ag ng kg))).heap[w3.heap.size]? = some (ptsObj D.slack D.idle (.slice Ac nc kc) (.slice Ah nh kh) (.slice At nt kt) (.slice Al nl kl) (.slice Ag ng kg)) from heap_alloc_new w3 _)
  have l1 := q1.len; have l2 := q2.len; have l3 := Evs.len q3; have l4 := Evs.len q4; have l5 := Strs.len q5
  have HOF := Lib.hid (of_any (w3.alloc (ptsObj D.slack D.idle (.slice Ac nc kc) (.slice Ah nh kh) (.slice At nt kt) (.slice Al nl kl) (.slice Ag ng kg))) 6000 Ac Ah At Al Ag nc kc nh kh nt kt nl kl ng kg D.slack D.idle D.clk D.had D.tk D.lt D.gn
    { clk := (q1.below (hbA.mono hs3)).more (by have := hbA.size; omega)
      had := (q2.below (hbA.mono hs3)).more (by have := hbA.size; omega)
      tk := Cel.more (Cel.below q3 hbA) hbA.size
      le := Cel.more (Cel.below q4 hbA) hbA.size
      gn := Cel.more (Cel.below q5 hbA) hbA.size
      hnc := by omega
      hnh := by omega
      hnt := by omega
      hnl := by omega
      hng := by omega
      hN := by omega
      st := fun e he => mayB_smallO (hmy e (.inl he))
      sl := fun e he => mayB_smallO (hmy e (.inr he))
      max := HMX.out.up HB4.out
      errs := HEE.out.up HB4.out
      tab := tab_up HT.out HB4.out
      bd := pt_bd (by omega) (by omega) })
  have HL1 := Lib.hid (show D.clk.length ≤ 5000 by omega); have HL2 := Lib.hid (show D.had.length ≤ 5000 by omega); have HL3 := Lib.hid (show D.tk.length ≤ 6000 by omega); have HL4 := Lib.hid (show D.lt.length ≤ 6000 by omega); have HL5 := Lib.hid (show D.gn.length ≤ 6000 by omega)
  clear q1 q2 q3 q4 q5 q6 l1 l2 l3 l4 l5 hbA hmy g1 g2 g3 g4 g5 hT
  unfold ptsAgg at HOF ⊢
  go_upto_region 8 with fail
  generalize w3.alloc (ptsObj D.slack D.idle (.slice Ac nc kc) (.slice Ah nh kh) (.slice At nt kt) (.slice Al nl kl) (.slice Ag ng kg)) = w4 at *
  obtain ⟨z0, z1, z2, z3, z4, z5, z6, _⟩ := pts_cells HP4.out
  go_wp2_with fail
  with_reducible refine HOF.out.mono ?_
  rintro r w5 ⟨hb5, ⟨c', m', bi, F, hp, rfl, hi, hF⟩ | ⟨er, rfl, he, _⟩⟩
  case inr =>
    have HB5 := Lib.hid (HB4.out.trans (hb5.mono HB4.out.size))
    have HR := Lib.hid (show LdZ w l (.returned (.tuple #[.pointer none, .int .i64 0, .int .i64 2])) w5 from ⟨HB5.out, .inl rfl⟩)
    have her : (er == 0) = false := by rw [beq_eq_false_iff_ne]; omega
    have her2 : ¬ er = 0 := by omega
    clear HOF z0 z1 z2 z3 z4 z5 z6 hb5 he
    go_wp2
    go_ret3
    exact HR.out
  have HB5 := Lib.hid (HB4.out.trans (hb5.mono HB4.out.size))
  have HI := Lib.hid hi
  have HSO := Lib.hid (parts_svOk hp hi HL1.out HL2.out HL3.out HL4.out HL5.out)
  have HFN := Lib.hid (show ∀ b, F b → w.heap.size ≤ b from fun b hb => by have := hF b hb; have := HB4.out.size; omega)
  have HR5 := Lib.hid (show ∀ W, Below w.heap.size w W → LdZ w l (.returned (.tuple #[.pointer none, .int .i64 0, .int .i64 2])) W from fun W hW => ⟨hW, .inl rfl⟩)
  clear HOF z0 z1 z2 z3 z4 z5 z6 hb5 hF hp hi
  generalize (⟨c', m', D.tk, D.lt, D.gn⟩ : Itk) = x at *
  generalize D.off = off at *
  by_cases hor : off < 0 ∨ 1048576 < off
  · go_wp2_with fail
    with_reducible refine (snsave_arg w5 bi off hor).mono ?_
    rintro r w6 ⟨rfl, rfl⟩
    have HR := Lib.hid (HR5.out _ HB5.out)
    go_wp2
    go_ret3
    exact HR.out
  have h0 : 0 ≤ off := by omega
  have h1 : off ≤ 1048576 := by omega
  have HH := Lib.hid (show 0 ≤ off ∧ off ≤ 1048576 from ⟨h0, h1⟩)
  have HSV := Lib.hid (snsave_ok w5 F bi 6000 x HI.out HSO.out (by omega) off h0 h1 (HMX.out.up HB5.out) (tab_up HT.out HB5.out))
  clear hor h0 h1
  go_wp2_with fail
  with_reducible refine HSV.out.mono ?_
  rintro r w6 ⟨v6, rfl, ho6, hb6⟩
  obtain ⟨A6, k6, rfl⟩ := ho6.form
  have HB6 := Lib.hid (HB5.out.trans (hb6.mono HB5.out.size))
  have HI6 := Lib.hid (HI.out.up hb6)
  have HEQ := Lib.hid (equal_any w6 _ _ _ _ _ _ _ _ _ _ ho6.byt (HBY.out.below HB6.out))
  have HGO := Lib.hid (show piecesB (snX off x) = l → LdZ w l (.returned (.tuple #[.pointer (some ⟨bi, 0, none⟩), .int .i64 off, .int .i64 0])) w6 from fun e => ⟨HB6.out, .inr ⟨x, off, bi, F, rfl, HI6.out, HSO.out, HH.out.1, HH.out.2, e, HFN.out⟩⟩)
  have HR6 := Lib.hid (HR5.out _ HB6.out)
  clear HSV ho6 hb6
  cases hq : (piecesB (snX off x) == l)
  · rw [hq] at HEQ
    clear HGO hq
    go_wp2_with fail
    with_reducible refine HEQ.out.mono ?_
    rintro r w7 ⟨rfl, rfl⟩
    clear HEQ
    go_wp2
    go_ret3
    exact HR6.out
  · rw [hq] at HEQ
    have HG := Lib.hid (HGO.out (by simpa using hq))
    clear HGO hq
    go_wp2_with fail
    with_reducible refine HEQ.out.mono ?_
    rintro r w7 ⟨rfl, rfl⟩
    clear HEQ
    go_wp2
    go_ret3
    exact HG.out
end Go.Proofs.YtdjoaboalknlkaaGreatDoor
