/-
  Plain definitions and facts of layer 3 (frame): sums, frames, what bytes begin with. No program in sight.
  Layer 3: what frame.sum, frame.size and the closures of frame.Open give.
-/
import Derived.Test.YtbejfgmdkmddnaaGreatDoorSCells
namespace Frm

def adStep (p : Nat × Nat) (c : UInt8) : Nat × Nat := ((p.1 + c.toNat) % 65521, (p.2 + (p.1 + c.toNat) % 65521) % 65521)
def ad (l : List UInt8) : Nat × Nat := l.foldl adStep (1, 0)
def asum (l : List UInt8) : Nat := (ad l).2 * 65536 + (ad l).1

theorem ad_snoc (l : List UInt8) (c : UInt8) : ad (l ++ [c]) = adStep (ad l) c := by simp [ad, List.foldl_append]
theorem ad_take (l : List UInt8) (k : Nat) (h : k < l.length) : ad (l.take (k + 1)) = adStep (ad (l.take k)) l[k] := by
  rw [List.take_add_one, List.getElem?_eq_getElem h]; exact ad_snoc _ _
theorem ad_lt (l : List UInt8) : (ad l).1 < 65521 ∧ (ad l).2 < 65521 := by
  rcases List.eq_nil_or_concat l with rfl | ⟨l', c, rfl⟩
  · decide
  · rw [List.concat_eq_append, ad_snoc]; constructor <;> exact Nat.mod_lt _ (by decide)
theorem asum_lt (l : List UInt8) : asum l < 4294967296 := by
  have := ad_lt l; unfold asum; omega

def u8 (n : Nat) : UInt8 := UInt8.ofNat n
theorem u8_toNat (n : Nat) : (u8 n).toNat = n % 256 := by simp [u8]
def be3 (n : Nat) : List UInt8 := [u8 (n / 65536), u8 (n / 256), u8 n]
def be4 (n : Nat) : List UInt8 := [u8 (n / 16777216), u8 (n / 65536), u8 (n / 256), u8 n]
def front (p : List UInt8) : List UInt8 := be3 p.length ++ (be3 p.length).map (255 - ·) ++ p
def sealB (p : List UInt8) : List UInt8 := front p ++ be4 (asum (front p))

theorem front_length (p : List UInt8) : (front p).length = p.length + 6 := by simp [front, be3]
theorem sealB_length (p : List UInt8) : (sealB p).length = p.length + 10 := by simp [sealB, front_length, be4]

/-- the size that the first three bytes tell -/
def sz (l : List UInt8) : Nat := (l.getD 0 0).toNat * 65536 + (l.getD 1 0).toNat * 256 + (l.getD 2 0).toNat
def unlikeAt (l : List UInt8) (i : Nat) : Bool := decide (i < l.length) && (l.getD i 0 != 255 - l.getD (i - 3) 0)
def unlike (l : List UInt8) : Bool := unlikeAt l 3 || unlikeAt l 4 || unlikeAt l 5
def long (l : List UInt8) : Bool := decide (3 ≤ l.length) && decide (65536 < sz l)
def there (l : List UInt8) : Bool := decide (6 ≤ l.length) && decide (sz l + 10 ≤ l.length)
def wrong (l : List UInt8) : Bool := there l && ((l.drop (6 + sz l)).take 4 != be4 (asum (l.take (6 + sz l))))
def bad (l : List UInt8) : Bool := unlike l || long l || wrong l
def openB (l : List UInt8) : List UInt8 × Nat × Nat :=
  if bad l then ([], 0, 2) else if there l then ((l.drop 6).take (sz l), 6 + sz l + 4, 0) else ([], 0, 1)

theorem eq_255_sub (a b : UInt8) : a = 255 - b ↔ (a.toNat : Int) = 255 - (b.toNat : Int) := by
  rw [← UInt8.toNat_inj, UInt8.toNat_sub]
  have := a.toNat_lt; have := b.toNat_lt
  have e : (255 : UInt8).toNat = 255 := rfl
  rw [e]
  omega
theorem sub255 (b : UInt8) : (255 - b).toNat = 255 - b.toNat := by
  rw [UInt8.toNat_sub]
  have := b.toNat_lt
  have e : (255 : UInt8).toNat = 255 := rfl
  rw [e]
  omega
theorem unlikeAt_eq (l : List UInt8) (k : Nat) (h : k < l.length) : unlikeAt l k = ((l[k].toNat : Int) != 255 - (l[k - 3].toNat : Int)) := by
  have h3 : k - 3 < l.length := by omega
  have hb := l[k - 3].toNat_lt
  unfold unlikeAt
  simp only [List.getD, List.getElem?_eq_getElem h, List.getElem?_eq_getElem h3, Option.getD_some, h, decide_true, Bool.true_and]
  rw [Bool.eq_iff_iff]
  simp only [bne_iff_ne, ne_eq]
  rw [eq_255_sub]
theorem unlike_of (l : List UInt8) (k : Nat) (h3 : 3 ≤ k) (h6 : k < 6) (h : unlikeAt l k = true) : unlike l = true := by
  unfold unlike
  have : k = 3 ∨ k = 4 ∨ k = 5 := by omega
  rcases this with rfl | rfl | rfl <;> simp [h]
theorem unlikeAt_none (l : List UInt8) (k : Nat) (h : l.length ≤ k) : unlikeAt l k = false := by
  unfold unlikeAt; simp; omega
theorem unlike_not (l : List UInt8) (k : Nat) (h : ∀ j, 3 ≤ j → j < k → unlikeAt l j = false) (hl : l.length ≤ k) : unlike l = false := by
  unfold unlike
  have : ∀ j, 3 ≤ j → unlikeAt l j = false := fun j h3 => if e : j < k then h j h3 e else unlikeAt_none l j (by omega)
  simp [this]
theorem unlike_not6 (l : List UInt8) (k : Nat) (h : ∀ j, 3 ≤ j → j < k → unlikeAt l j = false) (hl : 6 ≤ k) : unlike l = false := by
  unfold unlike
  simp [h 3 (by omega) (by omega), h 4 (by omega) (by omega), h 5 (by omega) (by omega)]
theorem sz_lt (l : List UInt8) : sz l < 16777216 := by
  have h0 := (l.getD 0 0).toNat_lt; have h1 := (l.getD 1 0).toNat_lt; have h2 := (l.getD 2 0).toNat_lt
  unfold sz; omega

theorem openB_le (l : List UInt8) : (openB l).2.1 ≤ l.length := by
  unfold openB; split
  · simp
  · split
    · rename_i h; simp [there] at h; simp; omega
    · simp
theorem openB_pos (l : List UInt8) (h : (openB l).2.2 = 0) : 10 ≤ (openB l).2.1 := by
  unfold openB at *; split at h
  · simp at h
  · split at h
    · rename_i h1 h2; simp [h1, h2]
    · simp at h

/-- the payloads from the front on, with fuel -/
def allF : Nat → List UInt8 → List (List UInt8) × Nat × Nat
  | 0, _ => ([], 0, 0)
  | f + 1, l => if l = [] then ([], 0, 0) else
      if (openB l).2.2 ≠ 0 then ([], 0, (openB l).2.2) else
        let r := allF f (l.drop (openB l).2.1)
        ((openB l).1 :: r.1, (openB l).2.1 + r.2.1, r.2.2)
def allB (l : List UInt8) : List (List UInt8) × Nat × Nat := allF l.length l
theorem allF_succ (f : Nat) (l : List UInt8) : allF (f + 1) l = if l = [] then ([], 0, 0) else
      if (openB l).2.2 ≠ 0 then ([], 0, (openB l).2.2) else
        ((openB l).1 :: (allF f (l.drop (openB l).2.1)).1, (openB l).2.1 + (allF f (l.drop (openB l).2.1)).2.1, (allF f (l.drop (openB l).2.1)).2.2) := rfl

theorem allF_more (f : Nat) : ∀ (l : List UInt8) (g : Nat), l.length ≤ f → l.length ≤ g → allF f l = allF g l := by
  induction f with
  | zero => intro l g h1 h2; have : l = [] := List.eq_nil_of_length_eq_zero (by omega); subst this; cases g <;> simp [allF]
  | succ f ih =>
    intro l g h1 h2
    cases g with
    | zero => have : l = [] := List.eq_nil_of_length_eq_zero (by omega); subst this; simp [allF]
    | succ g =>
      unfold allF
      by_cases hl : l = []
      · simp [hl]
      · simp only [hl, if_false]
        by_cases hs : (openB l).2.2 ≠ 0
        · simp [hs]
        · have h10 := openB_pos l (by omega)
          have hl' := openB_le l
          rw [if_neg hs, if_neg hs, ih (l.drop (openB l).2.1) g (by simp; omega) (by simp; omega)]

theorem allF_le (f : Nat) : ∀ l : List UInt8, (allF f l).2.1 ≤ l.length ∧ (allF f l).1.length ≤ l.length := by
  induction f with
  | zero => intro l; simp [allF]
  | succ f ih =>
    intro l
    rw [allF_succ]
    split
    · simp
    · split
      · simp
      · rename_i h1 h2
        have h10 := openB_pos l (by omega)
        have hl' := openB_le l
        have := ih (l.drop (openB l).2.1)
        rw [List.length_drop] at this
        simp only [List.length_cons]
        omega
theorem allB_le (l : List UInt8) : (allB l).2.1 ≤ l.length ∧ (allB l).1.length ≤ l.length := allF_le _ l
theorem allB_stop (l : List UInt8) (h : l ≠ []) (hs : (openB l).2.2 ≠ 0) : allB l = ([], 0, (openB l).2.2) := by
  unfold allB
  obtain ⟨f, hf⟩ : ∃ f, l.length = f + 1 := ⟨l.length - 1, by have := List.length_pos_iff.2 h; omega⟩
  rw [hf]; unfold allF; rw [if_neg h, if_pos hs]
theorem allB_go (l : List UInt8) (h : l ≠ []) (hs : (openB l).2.2 = 0) :
    allB l = ((openB l).1 :: (allB (l.drop (openB l).2.1)).1, (openB l).2.1 + (allB (l.drop (openB l).2.1)).2.1, (allB (l.drop (openB l).2.1)).2.2) := by
  have h10 := openB_pos l hs
  have hl' := openB_le l
  obtain ⟨f, hf⟩ : ∃ f, l.length = f + 1 := ⟨l.length - 1, by have := List.length_pos_iff.2 h; omega⟩
  show allF l.length l = _
  rw [hf, allF_succ, if_neg h, if_neg (by omega)]
  rw [allB, allF_more f (l.drop (openB l).2.1) (l.drop (openB l).2.1).length (by simp; omega) (by omega)]
end Frm
namespace Go.Proofs.YtbejfgmdkmddnaaGreatDoor
open Go.RowKit

set_option maxHeartbeats 400000 in
theorem sum_any (w : World) (B : Nat) (A : Option Addr) (n c : Nat) (l : List UInt8) (h : Byt w B A n c l) (hn : n ≤ 1000000) :
    Calls Tryz.prog 96 #[.slice A n c] w fun e w' => e = .returned (.int .u32 (Frm.asum l)) ∧ w = w' := by
  obtain ⟨hl, hcap, hmax, hcell⟩ := h
  have HL := Lib.hid hl; clear hl
  have HC := Lib.hid hcell; clear hcell
  clear hmax
  go_enter Tryz.func96, Tryz.ntmps96
  go_wp2
  go_loop [3, 4, 9] (fun t s i => ∃ k : Nat, k ≤ n ∧ i = .int .i64 k ∧ t = .int .u32 (Frm.ad (l.take k)).1 ∧ s = .int .u32 (Frm.ad (l.take k)).2) (fun _ _ i => n - (intOf i).toNat)
  case atStart => exact ⟨0, Nat.zero_le _, rfl, rfl, rfl⟩
  case round =>
    obtain ⟨k, hk, rfl, rfl, rfl⟩ := hrel
    have hlt := Frm.ad_lt (l.take k)
    obtain ⟨hlt1, hlt2⟩ := hlt
    by_cases hkn : k < n
    · obtain ⟨b, off, rfl, hb, hc⟩ := HC.out (by omega)
      have hk' : k < l.length := by rw [HL.out]; exact hkn
      have hc' := hc k hk'
      have HA := Lib.hid (Frm.ad_take l k hk')
      have hb8 : (l[k]).toNat < 256 := (l[k]).toNat_lt
      generalize hx : (l[k]).toNat = x at *
      have HX := Lib.hid hx; clear hx hc
      generalize h1 : (Frm.ad (l.take k)).1 = p at *
      generalize h2 : (Frm.ad (l.take k)).2 = q at *
      have H1 := Lib.hid h1; have H2 := Lib.hid h2; clear h1 h2
      go_wp2
      go_round
      case rel =>
        refine ⟨k + 1, by omega, by go_num, ?_, ?_⟩
        · rw [HA.out]; unfold Frm.adStep; rw [H1.out, HX.out]; go_num
        · rw [HA.out]; unfold Frm.adStep; rw [H1.out, H2.out, HX.out]; go_num
      case measure => simp [intOf]; omega
    · go_wp2
      go_ret
      refine ⟨ret_int ?_, rfl⟩
      have hkk : l.take k = l := List.take_of_length_le (by rw [HL.out]; omega)
      have hz := Frm.ad_lt l
      rw [hkk]
      rw [show (((Frm.ad l).2 : Int) * 65536) = (((Frm.ad l).2 * 65536 : Nat) : Int) by omega, u32_or_nat _ _ (by omega) (by omega), nat_join16 _ _ (by omega) (by omega)]
      rfl

theorem size_any (w : World) (B : Nat) (A : Option Addr) (n c : Nat) (l : List UInt8) (h : Byt w B A n c l) (h3 : 3 ≤ n) :
    Calls Tryz.prog 157 #[.slice A n c] w fun e w' => e = .returned (.int .i64 (Frm.sz l : Nat)) ∧ ∃ k, w' = w.drewN k := by
  obtain ⟨hl, hcap, hmax, hcell⟩ := h
  obtain ⟨b, off, rfl, hb, hc⟩ := hcell (by omega)
  have h0 := hc 0 (by omega)
  have h1 := hc 1 (by omega)
  have h2 := hc 2 (by omega)
  have hx := (l[0]).toNat_lt
  have hy := (l[1]).toNat_lt
  have hz := (l[2]).toNat_lt
  have hs : Hid (Frm.sz l = l[0].toNat * 65536 + l[1].toNat * 256 + l[2].toNat) := by
    unfold Frm.sz Hid; simp [List.getD, List.getElem?_eq_getElem (show 0 < l.length by omega), List.getElem?_eq_getElem (show 1 < l.length by omega), List.getElem?_eq_getElem (show 2 < l.length by omega)]
  simp only [Nat.add_zero] at h0
  generalize l[0] = x at *
  generalize l[1] = y at *
  generalize l[2] = z at *
  have i0 : (0 : Int) < n := by omega
  have i1 : (1 : Int) < n := by omega
  have i2 : (2 : Int) < n := by omega
  have HL := Lib.hid hl; clear hl hc hcell hmax
  go_enter Tryz.func157, Tryz.ntmps157
  go_wp2
  go_quiet (fail)
  go_wp2
  go_ret
  refine ⟨ret_int ?_, _, rfl⟩
  rw [hs.out]
  rw [show ((x.toNat : Int) * 65536) = ((x.toNat * 65536 : Nat) : Int) by omega, show ((y.toNat : Int) * 256) = ((y.toNat * 256 : Nat) : Int) by omega,
    i64_or_nat _ _ (by omega) (by omega), nat_join16 _ _ (by omega) (by omega), i64_or_nat _ _ (by omega) (by omega), nat_join8 _ _ (by omega) (by omega)]

set_option maxHeartbeats 1000000 in
theorem open1_any (w : World) (B g : Nat) (A : Option Addr) (n c : Nat) (l : List UInt8) (hg : w.cell? ⟨g, 0, none⟩ = some (.slice A n c)) (h : Byt w B A n c l) :
    Calls Tryz.prog 155 #[.pointer (some ⟨g, 0, none⟩)] w fun e w' => e = .returned (.bool (Frm.unlike l)) ∧ ∃ k, w' = w.drewN k := by
  obtain ⟨hl, hcap, hmax, hcell⟩ := h
  unfold maxLen at hmax
  have HL := Lib.hid hl; clear hl
  have HC := Lib.hid hcell; clear hcell
  go_enter Tryz.func155, Tryz.ntmps155
  go_wp2
  go_loopw [2] (fun i w1 => ∃ k : Nat, i = .int .i64 k ∧ 3 ≤ k ∧ k ≤ 6 ∧ Hid (∀ j, 3 ≤ j → j < k → Frm.unlikeAt l j = false) ∧ ∃ q, w1 = w.drewN q) (fun i _ => 6 - (intOf i).toNat)
  case atStart => exact ⟨3, rfl, by omega, by omega, fun j h1 h2 => by omega, 0, rfl⟩
  case round =>
    obtain ⟨k, rfl, hk3, hk6, HK, q, rfl⟩ := hrel
    by_cases hk : k < 6
    · by_cases hkn : k < n
      · obtain ⟨b, off, rfl, hb, hc⟩ := HC.out (by omega)
        have hc1 := hc k (by rw [HL.out]; exact hkn)
        have hc2 := hc (k - 3) (by rw [HL.out]; omega)
        have hu : Hid (Frm.unlikeAt l k = (((l[k]'(by rw [HL.out]; exact hkn)).toNat : Int) != 255 - ((l[k - 3]'(by rw [HL.out]; omega)).toNat : Int))) := Frm.unlikeAt_eq l k (by rw [HL.out]; exact hkn)
        have hx := (l[k]'(by rw [HL.out]; exact hkn)).toNat_lt
        have hy := (l[k - 3]'(by rw [HL.out]; omega)).toNat_lt
        generalize (l[k]'(by rw [HL.out]; exact hkn)).toNat = x at *
        generalize (l[k - 3]'(by rw [HL.out]; omega)).toNat = y at *
        have t1 : (k : Int) < n := by omega
        have t2 : 0 ≤ (k : Int) - 3 := by omega
        have t3 : (k : Int) - 3 < n := by omega
        have t4 : ((k : Int) - 3).toNat = k - 3 := by omega
        clear hc
        by_cases hxy : ((x : Int) != 255 - (y : Int)) = true
        · go_wp2
          go_quiet (fail)
          go_wp2
          go_ret
          exact ⟨ret_bool (Frm.unlike_of l k hk3 hk (by rw [hu.out]; exact hxy)).symm, _, World.drewN_drewN ..⟩
        · have hxy' : ((x : Int) != 255 - (y : Int)) = false := by simpa using hxy
          clear hxy
          go_wp2
          go_quiet (fail)
          go_wp2
          go_roundw
          case rel =>
            refine ⟨k + 1, by go_num, by omega, by omega, fun j h1 h2 => ?_, _, rfl⟩
            by_cases e : j = k
            · subst e; rw [hu.out]; exact hxy'
            · exact HK.out j h1 (by omega)
          case measure => simp [intOf]; omega
      · go_wp2
        go_ret
        exact ⟨ret_bool (Frm.unlike_not l k HK.out (by rw [HL.out]; omega)).symm, q, rfl⟩
    · go_wp2
      go_ret
      exact ⟨ret_bool (Frm.unlike_not6 l k HK.out (by omega)).symm, q, rfl⟩

theorem open2_any (w : World) (B g : Nat) (A : Option Addr) (n c : Nat) (l : List UInt8) (hg : w.cell? ⟨g, 0, none⟩ = some (.slice A n c)) (h : Byt w B A n c l) :
    Calls Tryz.prog 156 #[.pointer (some ⟨g, 0, none⟩)] w fun e w' => e = .returned (.bool (Frm.long l)) ∧ ∃ k, w' = w.drewN k := by
  have hmax := h.max
  have hcap := h.cap
  unfold maxLen at hmax
  have HH := Lib.hid h
  have HL := Lib.hid h.len; clear h
  by_cases h3 : 3 ≤ n
  · go_enter Tryz.func156, Tryz.ntmps156
    go_wp2_with (go_at_call 157; refine (size_any _ _ _ _ _ _ HH.out h3).mono ?_; rintro e w' ⟨rfl, kk, rfl⟩)
    go_ret
    refine ⟨ret_bool ?_, _, rfl⟩
    unfold Frm.long
    rw [HL.out]
    simp [h3]
    omega
  · go_enter Tryz.func156, Tryz.ntmps156
    go_wp2
    go_ret
    refine ⟨ret_bool ?_, 0, rfl⟩
    unfold Frm.long
    rw [HL.out]
    simp [h3]

theorem open3_any (w : World) (B g : Nat) (A : Option Addr) (n c : Nat) (l : List UInt8) (hg : w.cell? ⟨g, 0, none⟩ = some (.slice A n c)) (h : Byt w B A n c l) :
    Calls Tryz.prog 158 #[.pointer (some ⟨g, 0, none⟩)] w fun e w' => e = .returned (.bool (Frm.there l)) ∧ ∃ k, w' = w.drewN k := by
  have hmax := h.max
  have hcap := h.cap
  unfold maxLen at hmax
  have HH := Lib.hid h
  have HL := Lib.hid h.len; clear h
  have hs := Frm.sz_lt l
  by_cases h3 : 6 ≤ n
  · have t : decide ((6 : Int) ≤ (n : Int)) = true := by simpa using (by omega : (6 : Int) ≤ n)
    go_enter Tryz.func158, Tryz.ntmps158
    go_wp2
    go_quiet ((go_at_call 157; exact Calls.quiet_of (size_any _ _ _ _ _ _ (HH.out.drewN _) (by omega))))
    go_wp2
    go_ret
    refine ⟨ret_bool ?_, _, rfl⟩
    unfold Frm.there
    rw [HL.out]
    simp [h3]
    omega
  · have t : decide ((6 : Int) ≤ (n : Int)) = false := by simpa using (by omega : (n : Int) < 6)
    go_enter Tryz.func158, Tryz.ntmps158
    go_wp2
    go_quiet (fail)
    go_wp2
    go_ret
    refine ⟨ret_bool ?_, _, rfl⟩
    unfold Frm.there
    rw [HL.out]
    simp [h3]

theorem equal_any (w : World) (B B' : Nat) (A A' : Option Addr) (n c n' c' : Nat) (l l' : List UInt8) (h : Byt w B A n c l) (h' : Byt w B' A' n' c' l') :
    Calls Tryz.prog 45 #[.slice A n c, .slice A' n' c'] w fun e w' => e = .returned (.bool (l == l')) ∧ w = w' := by
  have e1 := h.str (P := Tryz.prog) 32 5 9 Tryz.underlying32 Tryz.underlying5 Tryz.underlying9
  have e2 := h'.str (P := Tryz.prog) 32 5 9 Tryz.underlying32 Tryz.underlying5 Tryz.underlying9
  clear h h'
  go_enter Tryz.func45, Tryz.ntmps45
  go_wp2
  go_ret
  exact ⟨rfl, rfl⟩

theorem open4_not (w : World) (B g gt : Nat) (A : Option Addr) (n c : Nat) (l : List UInt8) (ht : w.cell? ⟨gt, 0, none⟩ = some (.func (.func 158) #[] #[.pointer (some ⟨g, 0, none⟩)]))
    (hg : w.cell? ⟨g, 0, none⟩ = some (.slice A n c)) (h : Byt w B A n c l) (hth : Frm.there l = false) :
    Calls Tryz.prog 159 #[.pointer (some ⟨gt, 0, none⟩), .pointer (some ⟨g, 0, none⟩)] w fun e w' => e = .returned (.bool (Frm.wrong l)) ∧ Below w.heap.size w w' := by
  have HH := Lib.hid h; clear h
  have HT := Lib.hid hth; clear hth
  have HG := Lib.hid hg
  go_enter Tryz.func159, Tryz.ntmps159
  go_wp2_with fail
  refine (open3_any _ _ _ _ _ _ _ HG.out HH.out).mono ?_
  rintro e w' ⟨rfl, kk, rfl⟩
  rw [HT.out]
  go_wp2
  go_ret
  exact ⟨ret_bool (by simp [Frm.wrong, HT.out]), below_drewN (Below.refl _ _) _⟩

theorem open4_yes (w : World) (B g gt : Nat) (A : Option Addr) (n c : Nat) (l : List UInt8) (ht : w.cell? ⟨gt, 0, none⟩ = some (.func (.func 158) #[] #[.pointer (some ⟨g, 0, none⟩)]))
    (hg : w.cell? ⟨g, 0, none⟩ = some (.slice A n c)) (h : Byt w B A n c l) (hth : Frm.there l = true) (hB : B ≤ w.heap.size) (hn : n ≤ 1000000) :
    Calls Tryz.prog 159 #[.pointer (some ⟨gt, 0, none⟩), .pointer (some ⟨g, 0, none⟩)] w fun e w' => e = .returned (.bool (Frm.wrong l)) ∧ Below w.heap.size w w' := by
  have hw : Hid (Frm.wrong l = ((l.drop (6 + Frm.sz l)).take 4 != Frm.be4 (Frm.asum (l.take (6 + Frm.sz l))))) := by simp [Hid, Frm.wrong, hth]
  have hsz : 6 ≤ l.length ∧ Frm.sz l + 10 ≤ l.length := by simpa [Frm.there] using hth
  rw [h.len] at hsz
  obtain ⟨hs6, hs10⟩ := hsz
  have hmax := h.max
  have hcap := h.cap
  have HH := Lib.hid h; clear h
  obtain ⟨b, off, rfl, hb, _⟩ := HH.out.cell (by omega)
  have HT := Lib.hid hth; clear hth
  have HG := Lib.hid hg
  unfold maxLen at hmax
  go_enter Tryz.func159, Tryz.ntmps159
  go_wp2_with fail
  refine (open3_any _ _ _ _ _ _ _ HG.out HH.out).mono ?_
  rintro e w' ⟨rfl, kk, rfl⟩
  rw [HT.out]
  go_wp2_with fail
  refine (size_any _ _ _ _ _ _ (HH.out.drewN _) (by omega)).mono ?_
  rintro e w' ⟨rfl, kk, rfl⟩
  generalize hz : Frm.sz l = z at *
  have HZ := Lib.hid hz; clear hz
  have hc1 : Hid (Byt w B (some ⟨b, off, none⟩) (6 + z) c (l.take (6 + z))) := by
    have := HH.out.cut 0 (6 + z) (by omega); unfold Hid; simpa using this
  have hc2 := Lib.hid (HH.out.cut (6 + z) 4 (by omega))
  have hlt := Frm.asum_lt (l.take (6 + z))
  generalize hs : Frm.asum (l.take (6 + z)) = s at *
  have HS := Lib.hid hs; clear hs
  go_wp2_with fail
  refine (sum_any _ _ _ _ _ _ (hc1.out.drewN _) (by omega)).mono ?_
  rintro e w' ⟨rfl, rfl⟩
  rw [HS.out]
  go_wp2_with fail
  have hb4 : Hid (#[Value.int IntKind.u8 (↑s / 16777216), Value.int IntKind.u8 (↑s / 65536 % 256), Value.int IntKind.u8 (↑s / 256 % 256), Value.int IntKind.u8 (↑s % 256)] = ((Frm.be4 s).map fun x => Value.int .u8 x.toNat).toArray) := by
    simp [Hid, Frm.be4, Frm.u8_toNat]
    omega
  refine (equal_any _ B (w.heap.size + 1) _ _ _ _ _ _ _ (Frm.be4 s) ((hc2.out.drewN _).alloc hB _) (Byt.new (w.drewN _) _ _ _ hb4.out _ rfl (by unfold maxLen Frm.be4; simp))).mono ?_
  rintro e w' ⟨rfl, rfl⟩
  go_wp2
  go_ret
  refine ⟨ret_bool ?_, (below_drewN (Below.refl _ _) _).alloc (Nat.le_refl _) _⟩
  rw [hw.out]
  rfl

theorem open4_any (w : World) (B g gt : Nat) (A : Option Addr) (n c : Nat) (l : List UInt8) (ht : w.cell? ⟨gt, 0, none⟩ = some (.func (.func 158) #[] #[.pointer (some ⟨g, 0, none⟩)]))
    (hg : w.cell? ⟨g, 0, none⟩ = some (.slice A n c)) (h : Byt w B A n c l) (hB : B ≤ w.heap.size) (hn : n ≤ 1000000) :
    Calls Tryz.prog 159 #[.pointer (some ⟨gt, 0, none⟩), .pointer (some ⟨g, 0, none⟩)] w fun e w' => e = .returned (.bool (Frm.wrong l)) ∧ Below w.heap.size w w' := by
  cases ht' : Frm.there l
  · exact open4_not w B g gt A n c l ht hg h ht'
  · exact open4_yes w B g gt A n c l ht hg h ht' hB hn
end Go.Proofs.YtbejfgmdkmddnaaGreatDoor
