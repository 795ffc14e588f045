/-
  Layer 2, plain: what any bytes begin with, read as an event.
  Layer 30, plain: the text of an intake's parts, and any bytes, read as one.
-/
import Derived.Test.YtdjoaboalknlkaaGreatDoorLPtHad
import Derived.Test.YtdjoaboalknlkaaGreatDoorLPtQ
import Derived.Test.YtdjoaboalknlkaaGreatDoorLPtClk
namespace Go.Proofs.YtdjoaboalknlkaaGreatDoor
open Go.RowKit

/-- how a reader stands: what is left, or what was wrong first -/
inductive Rst where
  | ok (r : List UInt8)
  | torn
  | form
def Rst.err : Rst → Int | .ok _ => 0 | .torn => 3 | .form => 2
def oneS : Rst → Rst
  | .ok (_ :: r) => .ok r
  | .ok [] => .torn
  | s => s
def oneV : Rst → UInt8
  | .ok (c :: _) => c
  | _ => 0
def txtS : Rst → Rst
  | .ok (c :: r) => if r.length < c.toNat then .torn else .ok (r.drop c.toNat)
  | .ok [] => .torn
  | s => s
def txtV : Rst → List UInt8
  | .ok (c :: r) => if r.length < c.toNat then [] else r.take c.toNat
  | _ => []
def numS : Rst → Rst
  | .ok l => match numR l with
    | .ok _ r => .ok r
    | .torn => .torn
    | .form => .form
  | s => s
def numV : Rst → Nat
  | .ok l => match numR l with
    | .ok v _ => v
    | _ => 0
  | _ => 0
theorem oneV_lt (s : Rst) : (oneV s).toNat < 256 := (oneV s).toNat_lt
theorem txtV_len (s : Rst) : (txtV s).length ≤ 255 := by
  unfold txtV
  split
  · rename_i c r
    have := c.toNat_lt
    split
    · simp
    · rw [List.length_take]; omega
  · simp
/-- the states one after the other -/
def st1 (l : List UInt8) : Rst := oneS (.ok l)
def st2 (l : List UInt8) : Rst := txtS (st1 l)
def st3 (l : List UInt8) : Rst := numS (st2 l)
def st4 (l : List UInt8) : Rst := numS (st3 l)
def st5 (l : List UInt8) : Rst := txtS (st4 l)
def st6 (l : List UInt8) : Rst := txtS (st5 l)
def st7 (l : List UInt8) : Rst := numS (st6 l)
def st8 (l : List UInt8) : Rst := txtS (st7 l)
def evD (l : List UInt8) : Ev :=
  { src := txtV (st1 l), num := numV (st2 l), at_ := numV (st3 l), kind := (oneV (.ok l)).toNat, per := txtV (st4 l), item := txtV (st5 l), val := numV (st6 l), text := txtV (st7 l) }
def decE (l : List UInt8) : DecR Ev :=
  match st8 l with
  | .ok r => if mayB (evD l) then .ok (evD l) r else .form
  | .torn => .torn
  | .form => .form
theorem evD_small (l : List UInt8) : (evD l).small := by
  have h1 := txtV_len (st1 l); have h2 := txtV_len (st4 l); have h3 := txtV_len (st5 l); have h4 := txtV_len (st7 l)
  exact ⟨by show (txtV (st1 l)).length ≤ _; omega, by show (txtV (st4 l)).length ≤ _; omega, by show (txtV (st5 l)).length ≤ _; omega, by show (txtV (st7 l)).length ≤ _; omega⟩
theorem txt_text (s r : List UInt8) (h : s.length < 256) : txtS (.ok (textB s ++ r)) = .ok r ∧ txtV (.ok (textB s ++ r)) = s := by
  have e : (UInt8.ofNat s.length).toNat = s.length := by simp; omega
  unfold textB txtS txtV
  simp only [List.cons_append, e]
  rw [if_neg (by simp), if_neg (by simp)]
  simp
theorem num_num (n : Nat) (r : List UInt8) (h : n < 4398046511104) : numS (.ok (numB n ++ r)) = .ok r ∧ numV (.ok (numB n ++ r)) = n := by
  unfold numS numV
  simp only [numR_numB n r h, and_self]
/-- an event's bytes are read as that event -/
theorem decE_enc {e : Ev} (hm : mayB e = true) (r : List UInt8) : decE (encE e ++ r) = .ok e r := by
  have hf := mayB_fit hm
  obtain ⟨a1, a2, a3, a4, a5, a6, a7, a8, a9, a10, a11, a12⟩ := hf
  have hk : (UInt8.ofNat e.kind.toNat).toNat = e.kind.toNat := by simp; omega
  have D0 : encE e ++ r = UInt8.ofNat e.kind.toNat :: (textB e.src ++ (numB e.num.toNat ++ (numB e.at_.toNat ++ (textB e.per ++ (textB e.item ++ (numB e.val.toNat ++ (textB e.text ++ r))))))) := by
    unfold encE; simp
  have h1 : st1 (encE e ++ r) = .ok (textB e.src ++ (numB e.num.toNat ++ (numB e.at_.toNat ++ (textB e.per ++ (textB e.item ++ (numB e.val.toNat ++ (textB e.text ++ r))))))) := by
    unfold st1; rw [D0]; rfl
  have h0 : oneV (.ok (encE e ++ r)) = UInt8.ofNat e.kind.toNat := by rw [D0]; rfl
  have t1 := txt_text e.src (numB e.num.toNat ++ (numB e.at_.toNat ++ (textB e.per ++ (textB e.item ++ (numB e.val.toNat ++ (textB e.text ++ r)))))) (by omega)
  rw [← h1] at t1
  have t2 := num_num e.num.toNat (numB e.at_.toNat ++ (textB e.per ++ (textB e.item ++ (numB e.val.toNat ++ (textB e.text ++ r))))) (by omega)
  rw [← t1.1] at t2
  have t3 := num_num e.at_.toNat (textB e.per ++ (textB e.item ++ (numB e.val.toNat ++ (textB e.text ++ r)))) (by omega)
  rw [← t2.1] at t3
  have t4 := txt_text e.per (textB e.item ++ (numB e.val.toNat ++ (textB e.text ++ r))) (by omega)
  rw [← t3.1] at t4
  have t5 := txt_text e.item (numB e.val.toNat ++ (textB e.text ++ r)) (by omega)
  rw [← t4.1] at t5
  have t6 := num_num e.val.toNat (textB e.text ++ r) (by omega)
  rw [← t5.1] at t6
  have t7 := txt_text e.text r (by omega)
  rw [← t6.1] at t7
  have he : evD (encE e ++ r) = e := by
    unfold evD
    rw [h0, hk, show txtV (st1 (encE e ++ r)) = e.src from t1.2, show numV (st2 (encE e ++ r)) = e.num.toNat from t2.2, show numV (st3 (encE e ++ r)) = e.at_.toNat from t3.2,
      show txtV (st4 (encE e ++ r)) = e.per from t4.2, show txtV (st5 (encE e ++ r)) = e.item from t5.2, show numV (st6 (encE e ++ r)) = e.val.toNat from t6.2, show txtV (st7 (encE e ++ r)) = e.text from t7.2]
    rw [Int.toNat_of_nonneg (by omega), Int.toNat_of_nonneg (by omega), Int.toNat_of_nonneg (by omega), Int.toNat_of_nonneg (by omega)]
  unfold decE
  rw [he, show st8 (encE e ++ r) = .ok r from t7.1]
  simp [hm]
theorem oneS_len {s : Rst} {r : List UInt8} (h : oneS s = .ok r) : ∃ l, s = .ok l ∧ ∃ k, 0 < k ∧ k ≤ l.length ∧ r = l.drop k := by
  cases s with
  | torn => cases h
  | form => cases h
  | ok l =>
    cases l with
    | nil => cases h
    | cons c t => injection h with h; exact ⟨_, rfl, 1, by omega, by simp, by rw [← h]; rfl⟩
theorem txtS_len {s : Rst} {r : List UInt8} (h : txtS s = .ok r) : ∃ l, s = .ok l ∧ ∃ k, 0 < k ∧ k ≤ l.length ∧ r = l.drop k := by
  cases s with
  | torn => cases h
  | form => cases h
  | ok l =>
    cases l with
    | nil => cases h
    | cons c t =>
      simp only [txtS] at h
      split at h
      · cases h
      · injection h with h; exact ⟨_, rfl, c.toNat + 1, by omega, by simp; omega, by rw [← h]; simp⟩
theorem numS_len {s : Rst} {r : List UInt8} (h : numS s = .ok r) : ∃ l, s = .ok l ∧ ∃ k, 0 < k ∧ k ≤ l.length ∧ r = l.drop k := by
  cases s with
  | torn => cases h
  | form => cases h
  | ok l =>
    simp only [numS] at h
    split at h
    · rename_i h1; injection h with h; subst h; exact ⟨_, rfl, (numR_ok h1).2⟩
    · cases h
    · cases h
theorem rst_step {l m r : List UInt8} (h : ∃ k, 0 < k ∧ k ≤ l.length ∧ m = l.drop k) (h' : ∃ k, 0 < k ∧ k ≤ m.length ∧ r = m.drop k) : ∃ k, 0 < k ∧ k ≤ l.length ∧ r = l.drop k := by
  obtain ⟨a, h1, h2, rfl⟩ := h
  obtain ⟨b, h3, h4, rfl⟩ := h'
  rw [List.length_drop] at h4
  exact ⟨a + b, by omega, by omega, by rw [List.drop_drop]⟩
theorem st8_len {l r : List UInt8} (h : st8 l = .ok r) : ∃ k, 0 < k ∧ k ≤ l.length ∧ r = l.drop k := by
  obtain ⟨l7, g7, k7⟩ := txtS_len h
  obtain ⟨l6, g6, k6⟩ := numS_len g7
  obtain ⟨l5, g5, k5⟩ := txtS_len g6
  obtain ⟨l4, g4, k4⟩ := txtS_len g5
  obtain ⟨l3, g3, k3⟩ := numS_len g4
  obtain ⟨l2, g2, k2⟩ := numS_len g3
  obtain ⟨l1, g1, k1⟩ := txtS_len g2
  obtain ⟨l0, g0, k0⟩ := oneS_len g1
  injection g0 with g0; subst g0
  exact rst_step (rst_step (rst_step (rst_step (rst_step (rst_step (rst_step k0 k1) k2) k3) k4) k5) k6) k7
theorem decE_ok {l r : List UInt8} {e : Ev} (h : decE l = .ok e r) : mayB e = true ∧ ∃ k, 0 < k ∧ k ≤ l.length ∧ r = l.drop k := by
  unfold decE at h
  split at h
  · rename_i r' h1
    split at h
    · rename_i hm
      injection h with h2 h3
      subst h2 h3
      exact ⟨hm, st8_len h1⟩
    · cases h
  · cases h
  · cases h
end Go.Proofs.YtdjoaboalknlkaaGreatDoor
namespace Go.Proofs.YtdjoaboalknlkaaGreatDoor
open Go.RowKit

/-- the text of an intake's parts at an offset -/
def evsT (es : List Ev) : List UInt8 := es.flatMap encE
def namesT (gs : List (List UInt8)) : List UInt8 := gs.flatMap fun g => g ++ [10]
def wSnap : List UInt8 := [115, 110, 97, 112, 115, 104, 111, 116]
def wSlack : List UInt8 := [115, 108, 97, 99, 107]
def wIdle : List UInt8 := [105, 100, 108, 101]
def wClock : List UInt8 := [99, 108, 111, 99, 107]
def wHad : List UInt8 := [104, 97, 100]
def wTaken : List UInt8 := [116, 97, 107, 101, 110]
def wLate : List UInt8 := [108, 97, 116, 101]
def wGone : List UInt8 := [103, 111, 110, 101]
def snT (n a b : Int) (lc lh : List UInt8) (ts ls : List Ev) (gs : List (List UInt8)) : List UInt8 :=
  lineB wSnap [n] ++ (lineB wSlack [a] ++ (lineB wIdle [b] ++ (lineB wClock [(lc.length : Int)] ++ (lc ++ (lineB wHad [(lh.length : Int)] ++ (lh ++ (lineB wTaken [(ts.length : Int)] ++ (evsT ts ++ (lineB wLate [(ls.length : Int)] ++ (evsT ls ++ (lineB wGone [(gs.length : Int)] ++ namesT gs)))))))))))
/-- bytes, and whether all was well -/
structure Sn where
  b : List UInt8
  ok : Bool
def tilS (s : Sn) : Sn := if (Lib.cut s.b [10]).2.2 then ⟨(Lib.cut s.b [10]).2.1, s.ok⟩ else ⟨s.b, false⟩
def tilV (s : Sn) : List UInt8 := if (Lib.cut s.b [10]).2.2 then (Lib.cut s.b [10]).1 else []
def lnF (w t : List UInt8) : Bool := Lib.hasPrefix t (w ++ [32])
/-- what Atoi is asked -/
def lnW (w t : List UInt8) : List UInt8 := if lnF w t then t.drop (w.length + 1) else t
def lnOk (w t : List UInt8) : Bool := lnF w t && atoiE (lnW w t) && !decide (atoiV (lnW w t) < 0)
def linS (w : List UInt8) (s : Sn) : Sn := if lnOk w (tilV s) then tilS s else ⟨(tilS s).b, false⟩
def linV (w : List UInt8) (s : Sn) : Int := if lnOk w (tilV s) then atoiV (lnW w (tilV s)) else 0
def somS (w : List UInt8) (s : Sn) : Sn := if ((linS w s).b.length : Int) < linV w s then ⟨(linS w s).b, false⟩ else ⟨(linS w s).b.drop (linV w s).toNat, (linS w s).ok⟩
def somV (w : List UInt8) (s : Sn) : List UInt8 := if ((linS w s).b.length : Int) < linV w s then [] else (linS w s).b.take (linV w s).toNat
/-- n events -/
def evsR : Nat → Sn → List Ev → List Ev × Sn
  | 0, s, l => (l, s)
  | n + 1, s, l => match decE s.b with
    | .ok e r => evsR n ⟨r, s.ok⟩ (l ++ [e])
    | _ => ([], ⟨s.b, false⟩)
def evS (w : List UInt8) (s : Sn) : Sn := (evsR (linV w s).toNat (linS w s) []).2
def evV (w : List UInt8) (s : Sn) : List Ev := (evsR (linV w s).toNat (linS w s) []).1
/-- n names, as long as all is well -/
def gonR : Nat → Sn → List (List UInt8) → List (List UInt8) × Sn
  | 0, s, l => (l, s)
  | n + 1, s, l => if s.ok then gonR n (tilS s) (l ++ [tilV s]) else (l, s)
structure SnD where
  off : Int
  slack : Int
  idle : Int
  clk : List UInt8
  had : List UInt8
  tk : List Ev
  lt : List Ev
  gn : List (List UInt8)
  ok : Bool
def sn1 (l : List UInt8) : Sn := linS wSnap ⟨l, true⟩
def sn2 (l : List UInt8) : Sn := linS wSlack (sn1 l)
def sn3 (l : List UInt8) : Sn := linS wIdle (sn2 l)
def sn4 (l : List UInt8) : Sn := somS wClock (sn3 l)
def sn5 (l : List UInt8) : Sn := somS wHad (sn4 l)
def sn6 (l : List UInt8) : Sn := evS wTaken (sn5 l)
def sn7 (l : List UInt8) : Sn := evS wLate (sn6 l)
def sn8 (l : List UInt8) : Sn := linS wGone (sn7 l)
def sn9 (l : List UInt8) : List (List UInt8) × Sn := gonR (linV wGone (sn7 l)).toNat (sn8 l) []
def snD (l : List UInt8) : SnD :=
  { off := linV wSnap ⟨l, true⟩, slack := linV wSlack (sn1 l), idle := linV wIdle (sn2 l), clk := somV wClock (sn3 l), had := somV wHad (sn4 l), tk := evV wTaken (sn5 l), lt := evV wLate (sn6 l), gn := (sn9 l).1, ok := (sn9 l).2.ok && (sn9 l).2.b.isEmpty }

/-! ### what is written is read -/
theorem til_hit (a r : List UInt8) (ok : Bool) (h : 10 ∉ a) : tilS ⟨a ++ 10 :: r, ok⟩ = ⟨r, ok⟩ ∧ tilV ⟨a ++ 10 :: r, ok⟩ = a := by
  unfold tilS tilV
  simp only [cut_hit 10 a r h, if_true, and_self]
theorem hasPrefix_app (a b : List UInt8) : Lib.hasPrefix (a ++ b) a = true := by
  induction a with
  | nil => cases b <;> rfl
  | cons x a _ => simp [Lib.hasPrefix]
theorem lin_line (w : List UInt8) (n : Int) (r : List UInt8) (ok : Bool) (hw : 10 ∉ w) (h0 : 0 ≤ n) (h1 : n ≤ 9223372036854775807) : linS w ⟨lineB w [n] ++ r, ok⟩ = ⟨r, ok⟩ ∧ linV w ⟨lineB w [n] ++ r, ok⟩ = n := by
  have e : lineB w [n] ++ r = (w ++ 32 :: Lib.itoa n) ++ 10 :: r := by unfold lineB numsB; simp
  have hn : 10 ∉ w ++ 32 :: Lib.itoa n := fun hm => by
    rcases List.mem_append.1 hm with hm | hm
    · exact hw hm
    · rcases List.mem_cons.1 hm with hm | hm
      · exact absurd hm (by decide)
      · exact itoa_no n 10 (by decide) (by decide) hm
  obtain ⟨t1, t2⟩ := til_hit _ r ok hn
  rw [← e] at t1 t2
  have e2 : w ++ 32 :: Lib.itoa n = (w ++ [32]) ++ Lib.itoa n := by simp
  have hf : lnF w (w ++ 32 :: Lib.itoa n) = true := by unfold lnF; rw [e2]; exact hasPrefix_app _ _
  have hd : lnW w (w ++ 32 :: Lib.itoa n) = Lib.itoa n := by
    unfold lnW; rw [if_pos hf, e2]
    exact List.drop_left' (by simp)
  have ha := atoiV_itoa (n := n) (by omega) h1
  have he : atoiE (Lib.itoa n) = true := by unfold atoiE; rw [atoi_itoa n (by omega) h1]
  have hk : lnOk w (w ++ 32 :: Lib.itoa n) = true := by
    unfold lnOk; rw [hf, hd, he, ha]; simp; omega
  unfold linS linV
  rw [t2, hk, t1, hd, ha]
  simp
theorem som_some (w lc r : List UInt8) (ok : Bool) (hw : 10 ∉ w) (hl : lc.length ≤ 9223372036854775807) : somS w ⟨lineB w [(lc.length : Int)] ++ (lc ++ r), ok⟩ = ⟨r, ok⟩ ∧ somV w ⟨lineB w [(lc.length : Int)] ++ (lc ++ r), ok⟩ = lc := by
  obtain ⟨h1, h2⟩ := lin_line w lc.length (lc ++ r) ok hw (by omega) (by omega)
  unfold somS somV
  rw [h1, h2]
  have : ¬ (((lc ++ r).length : Nat) : Int) < lc.length := by rw [List.length_append]; omega
  rw [if_neg this, if_neg this]
  simp
theorem evsR_evs : ∀ (es : List Ev) (r : List UInt8) (ok : Bool) (l : List Ev), (∀ e ∈ es, mayB e = true) → evsR es.length ⟨evsT es ++ r, ok⟩ l = (l ++ es, ⟨r, ok⟩)
  | [], r, ok, l, _ => by simp [evsR, evsT]
  | e :: es, r, ok, l, h => by
    have e1 : evsT (e :: es) ++ r = encE e ++ (evsT es ++ r) := by simp [evsT]
    rw [List.length_cons, evsR, e1]
    simp only [decE_enc (h e (by simp))]
    rw [evsR_evs es r ok (l ++ [e]) fun x hx => h x (by simp [hx])]
    simp
theorem evs_evs (w : List UInt8) (es : List Ev) (r : List UInt8) (ok : Bool) (hw : 10 ∉ w) (hl : es.length ≤ 9223372036854775807) (h : ∀ e ∈ es, mayB e = true) : evS w ⟨lineB w [(es.length : Int)] ++ (evsT es ++ r), ok⟩ = ⟨r, ok⟩ ∧ evV w ⟨lineB w [(es.length : Int)] ++ (evsT es ++ r), ok⟩ = es := by
  obtain ⟨h1, h2⟩ := lin_line w es.length (evsT es ++ r) ok hw (by omega) (by omega)
  have h3 := evsR_evs es r ok [] h
  unfold evS evV
  rw [h1, h2, Int.toNat_natCast, h3]
  simp
theorem gonR_names : ∀ (gs : List (List UInt8)) (r : List UInt8) (l : List (List UInt8)), (∀ g ∈ gs, 10 ∉ g) → gonR gs.length ⟨namesT gs ++ r, true⟩ l = (l ++ gs, ⟨r, true⟩)
  | [], r, l, _ => by simp [gonR, namesT]
  | g :: gs, r, l, h => by
    have e1 : namesT (g :: gs) ++ r = g ++ 10 :: (namesT gs ++ r) := by simp [namesT]
    obtain ⟨t1, t2⟩ := til_hit g (namesT gs ++ r) true (h g (by simp))
    rw [List.length_cons, gonR, e1, t1, t2, if_pos rfl, gonR_names gs r (l ++ [g]) fun x hx => h x (by simp [hx])]
    simp
structure SnFit (n a b : Int) (lc lh : List UInt8) (ts ls : List Ev) (gs : List (List UInt8)) : Prop where
  n0 : 0 ≤ n
  n1 : n ≤ 9223372036854775807
  a0 : 0 ≤ a
  a1 : a ≤ 9223372036854775807
  b0 : 0 ≤ b
  b1 : b ≤ 9223372036854775807
  lc : lc.length ≤ 9223372036854775807
  lh : lh.length ≤ 9223372036854775807
  tl : ts.length ≤ 9223372036854775807
  ll : ls.length ≤ 9223372036854775807
  gl : gs.length ≤ 9223372036854775807
  tm : ∀ e ∈ ts, mayB e = true
  lm : ∀ e ∈ ls, mayB e = true
  gm : ∀ g ∈ gs, 10 ∉ g
theorem snD_snT {n a b : Int} {lc lh : List UInt8} {ts ls : List Ev} {gs : List (List UInt8)} (h : SnFit n a b lc lh ts ls gs) (R : List UInt8) : snD (snT n a b lc lh ts ls gs ++ R) = ⟨n, a, b, lc, lh, ts, ls, gs, R.isEmpty⟩ := by
  have h1 := lin_line wSnap n (lineB wSlack [a] ++ (lineB wIdle [b] ++ (lineB wClock [(lc.length : Int)] ++ (lc ++ (lineB wHad [(lh.length : Int)] ++ (lh ++ (lineB wTaken [(ts.length : Int)] ++ (evsT ts ++ (lineB wLate [(ls.length : Int)] ++ (evsT ls ++ (lineB wGone [(gs.length : Int)] ++ (namesT gs ++ R)))))))))))) true (by decide) h.n0 h.n1
  have h2 := lin_line wSlack a (lineB wIdle [b] ++ (lineB wClock [(lc.length : Int)] ++ (lc ++ (lineB wHad [(lh.length : Int)] ++ (lh ++ (lineB wTaken [(ts.length : Int)] ++ (evsT ts ++ (lineB wLate [(ls.length : Int)] ++ (evsT ls ++ (lineB wGone [(gs.length : Int)] ++ (namesT gs ++ R))))))))))) true (by decide) h.a0 h.a1
  have h3 := lin_line wIdle b (lineB wClock [(lc.length : Int)] ++ (lc ++ (lineB wHad [(lh.length : Int)] ++ (lh ++ (lineB wTaken [(ts.length : Int)] ++ (evsT ts ++ (lineB wLate [(ls.length : Int)] ++ (evsT ls ++ (lineB wGone [(gs.length : Int)] ++ (namesT gs ++ R)))))))))) true (by decide) h.b0 h.b1
  have h4 := som_some wClock lc (lineB wHad [(lh.length : Int)] ++ (lh ++ (lineB wTaken [(ts.length : Int)] ++ (evsT ts ++ (lineB wLate [(ls.length : Int)] ++ (evsT ls ++ (lineB wGone [(gs.length : Int)] ++ (namesT gs ++ R)))))))) true (by decide) h.lc
  have h5 := som_some wHad lh (lineB wTaken [(ts.length : Int)] ++ (evsT ts ++ (lineB wLate [(ls.length : Int)] ++ (evsT ls ++ (lineB wGone [(gs.length : Int)] ++ (namesT gs ++ R)))))) true (by decide) h.lh
  have h6 := evs_evs wTaken ts (lineB wLate [(ls.length : Int)] ++ (evsT ls ++ (lineB wGone [(gs.length : Int)] ++ (namesT gs ++ R)))) true (by decide) h.tl h.tm
  have h7 := evs_evs wLate ls (lineB wGone [(gs.length : Int)] ++ (namesT gs ++ R)) true (by decide) h.ll h.lm
  have h8 := lin_line wGone gs.length (namesT gs ++ R) true (by decide) (by omega) (by have := h.gl; omega)
  have h9 := gonR_names gs R [] h.gm
  rw [List.nil_append] at h9
  have hA : snT n a b lc lh ts ls gs ++ R = lineB wSnap [n] ++ (lineB wSlack [a] ++ (lineB wIdle [b] ++ (lineB wClock [(lc.length : Int)] ++ (lc ++ (lineB wHad [(lh.length : Int)] ++ (lh ++ (lineB wTaken [(ts.length : Int)] ++ (evsT ts ++ (lineB wLate [(ls.length : Int)] ++ (evsT ls ++ (lineB wGone [(gs.length : Int)] ++ (namesT gs ++ R)))))))))))) := by
    unfold snT; simp only [List.append_assoc]
  rw [← hA] at h1
  generalize snT n a b lc lh ts ls gs ++ R = T at *
  have e1 : sn1 T = _ := h1.1
  have e2 : sn2 T = _ := (congrArg (linS wSlack) e1).trans h2.1
  have e3 : sn3 T = _ := (congrArg (linS wIdle) e2).trans h3.1
  have e4 : sn4 T = _ := (congrArg (somS wClock) e3).trans h4.1
  have e5 : sn5 T = _ := (congrArg (somS wHad) e4).trans h5.1
  have e6 : sn6 T = _ := (congrArg (evS wTaken) e5).trans h6.1
  have e7 : sn7 T = _ := (congrArg (evS wLate) e6).trans h7.1
  have e8 : sn8 T = _ := (congrArg (linS wGone) e7).trans h8.1
  have v0 : linV wSnap ⟨T, true⟩ = n := h1.2
  have e9 : sn9 T = (gs, ⟨R, true⟩) := by unfold sn9; rw [e7, e8, h8.2, Int.toNat_natCast]; exact h9
  unfold snD
  rw [v0, e1, e2, e3, e4, e5, e6, e9, h2.2, h3.2, h4.2, h5.2, h6.2, h7.2]
  simp
end Go.Proofs.YtdjoaboalknlkaaGreatDoor
