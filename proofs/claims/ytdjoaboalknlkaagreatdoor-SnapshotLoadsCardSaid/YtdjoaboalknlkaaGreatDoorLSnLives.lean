/-
  One byte made into a text.
  Layer 3: the document's Sum, num, value (ciceroneref03).
  Layer 3: the document's Seal (ciceroneref03).
  Layer 30: the laws' lives: a snapshot of a new intake.
-/
import Derived.Test.YtdjoaboalknlkaaGreatDoorLFrmWalk
import Derived.Test.YtdjoaboalknlkaaGreatDoorLSnLd
import Derived.Test.YtdjoaboalknlkaaGreatDoorLGnB
import Derived.Test.YtdjoaboalknlkaaGreatDoorLPtQ
namespace Go.Proofs.YtdjoaboalknlkaaGreatDoor
open Go.RowKit Go.Maps

theorem conv1 (w : World) (v : Int) : (convert 22 9 (.slice (some ⟨w.heap.size, 0, none⟩) 1 1)).run Tryz.prog (w.alloc (.cells #[.int .u8 v] 5)) = .ok (.string ⟨[UInt8.ofNat v.toNat].toArray⟩) (w.alloc (.cells #[.int .u8 v] 5)) := by
  have := run_convert_bytes_arg (P := Tryz.prog) (w.alloc (.cells #[.int .u8 v] 5)) 22 5 Tryz.underlying22 Tryz.underlying5 w.heap.size 0 1 1 [v] rfl (fun i hi => by
    obtain rfl : i = 0 := by omega
    rw [cell_of_row _ w.heap.size _ #[.int .u8 v] 5 (0, 0) (heap_alloc_new w _)]; rfl) 9 Tryz.underlying9
  rw [this]
  simp [strOfNums]
end Go.Proofs.YtdjoaboalknlkaaGreatDoor
namespace Go.Proofs.YtdjoaboalknlkaaGreatDoor
open Go.RowKit

set_option maxHeartbeats 400000 in
theorem rsum_any (w : World) (l : List UInt8) (hn : l.length ≤ 1000000) :
    Calls Tryz.prog 39 #[.string ⟨l.toArray⟩] w fun e w' => e = .returned (.int .i64 (Frm.asum l)) ∧ w = w' := by
  go_enter Tryz.func39, Tryz.ntmps39
  go_wp2
  go_loop [3, 4, 5] (fun t s i => ∃ k : Nat, k ≤ l.length ∧ i = .int .i64 k ∧ t = .int .i64 (Frm.ad (l.take k)).1 ∧ s = .int .i64 (Frm.ad (l.take k)).2) (fun _ _ i => l.length - (intOf i).toNat)
  case atStart => exact ⟨0, Nat.zero_le _, rfl, rfl, rfl⟩
  case round =>
    obtain ⟨k, hk, rfl, rfl, rfl⟩ := hrel
    obtain ⟨hlt1, hlt2⟩ := Frm.ad_lt (l.take k)
    by_cases hkn : k < l.length
    · have HA := Lib.hid (Frm.ad_take l k hkn)
      have hb8 : ((⟨l.toArray⟩ : ByteArray)[k]'(by simpa [ByteArray.size] using hkn)).toNat < 256 := ((⟨l.toArray⟩ : ByteArray)[k]'(by simpa [ByteArray.size] using hkn)).toNat_lt
      have HE := Lib.hid (show ((⟨l.toArray⟩ : ByteArray)[k]'(by simpa [ByteArray.size] using hkn)).toNat = l[k].toNat from rfl)
      generalize h1 : (Frm.ad (l.take k)).1 = p at *
      generalize h2 : (Frm.ad (l.take k)).2 = q at *
      have H1 := Lib.hid h1; have H2 := Lib.hid h2; clear h1 h2
      go_wp2
      go_round
      case rel =>
        refine ⟨k + 1, by omega, by go_num, ?_, ?_⟩
        · rw [HA.out]; unfold Frm.adStep; rw [H1.out, ← HE.out]; go_num
        · rw [HA.out]; unfold Frm.adStep; rw [H1.out, H2.out, ← HE.out]; go_num
      case measure => simp [intOf]; omega
    · have hkk : l.take k = l := List.take_of_length_le (by omega)
      rw [hkk] at hlt1 hlt2 ⊢
      go_wp2
      go_ret
      refine ⟨ret_int ?_, rfl⟩
      unfold Frm.asum
      go_num

/-- a number of bytes, the highest first -/
def valB (l : List UInt8) : Nat := l.foldl (fun n c => n * 256 + c.toNat) 0
theorem valB_take (l : List UInt8) (k : Nat) (h : k < l.length) : valB (l.take (k + 1)) = valB (l.take k) * 256 + l[k].toNat := by
  unfold valB
  rw [List.take_add_one, List.getElem?_eq_getElem h, Option.toList_some, List.foldl_append]; rfl
theorem valB_lt (l : List UInt8) : valB l < 256 ^ l.length := by
  have key : ∀ (l : List UInt8) (a : Nat), l.foldl (fun n c => n * 256 + c.toNat) a < (a + 1) * 256 ^ l.length := by
    intro l
    induction l with
    | nil => intro a; simp
    | cons c l ih =>
      intro a
      have := ih (a * 256 + c.toNat)
      have hc := c.toNat_lt
      rw [List.foldl_cons, List.length_cons, Nat.pow_succ]
      refine Nat.lt_of_lt_of_le this ?_
      have : (a * 256 + c.toNat + 1) ≤ (a + 1) * 256 := by omega
      calc (a * 256 + c.toNat + 1) * 256 ^ l.length ≤ ((a + 1) * 256) * 256 ^ l.length := Nat.mul_le_mul_right _ this
        _ = (a + 1) * (256 ^ l.length * 256) := by rw [Nat.mul_assoc, Nat.mul_comm 256]
  have := key l 0
  simpa [valB] using this
theorem valB_small (l : List UInt8) (h : l.length ≤ 4) : valB l < 4294967296 :=
  Nat.lt_of_lt_of_le (valB_lt l) (by
    have : 256 ^ l.length ≤ 256 ^ 4 := Nat.pow_le_pow_right (by decide) h
    simpa using this)

/-- the lowest i bytes of a number -/
def lowB : Nat → Nat → List UInt8
  | 0, _ => []
  | i + 1, n => Frm.u8 (n / 256 ^ i) :: lowB i n
theorem lowB3 (n : Nat) : lowB 3 n = Frm.be3 n := by simp [lowB, Frm.be3]
theorem lowB4 (n : Nat) : lowB 4 n = Frm.be4 n := by simp [lowB, Frm.be4]

theorem lowB_length (i n : Nat) : (lowB i n).length = i := by
  induction i with
  | zero => rfl
  | succ i ih => simp [lowB, ih]
theorem u8_mod (x : Nat) : UInt8.ofNat (x % 256) = Frm.u8 x := by
  unfold Frm.u8
  apply UInt8.toNat_inj.1
  simp
set_option maxHeartbeats 400000 in
theorem num_any (w : World) (n s : Nat) (hn : n < 4294967296) (hs : s ≤ 4) :
    Calls Tryz.prog 52 #[.int .i64 n, .int .i64 s] w fun e w' => e = .returned (.string ⟨(lowB s n).toArray⟩) ∧ Below w.heap.size w w' := by
  have kc := conv1
  go_enter Tryz.func52, Tryz.ntmps52
  go_wp2
  go_loopw [0, 5, 6] (fun m t i wr => ∃ k : Nat, k ≤ s ∧ i = .int .i64 k ∧ m = .int .i64 (n / 256 ^ k : Nat) ∧ t = .string ⟨(lowB k n).toArray⟩ ∧ Below w.heap.size w wr) (fun _ _ i _ => s - (intOf i).toNat)
  case atStart => exact ⟨0, Nat.zero_le _, rfl, by simp, rfl, Below.refl _ _⟩
  case round =>
    obtain ⟨k, hk, rfl, rfl, rfl, hb⟩ := hrel
    have hdiv : n / 256 ^ k ≤ n := Nat.div_le_self _ _
    by_cases hkn : k < s
    · have HD := Lib.hid (show n / 256 ^ (k + 1) = n / 256 ^ k / 256 by rw [Nat.pow_succ, Nat.div_div_eq_div_mul])
      have HL := Lib.hid (show lowB (k + 1) n = Frm.u8 (n / 256 ^ k) :: lowB k n from rfl)
      generalize hx : n / 256 ^ k = x at *
      clear hx
      have hll : (lowB k n).length ≤ 4 := by rw [lowB_length]; omega
      go_wp2
      go_roundw
      case rel =>
        refine ⟨k + 1, by omega, by go_num, by rw [HD.out]; go_num, ?_, hb.alloc hb.size _⟩
        have := str_app [UInt8.ofNat (x % 256)] (lowB k n)
        rw [HL.out, ← u8_mod]
        exact congrArg Value.string this
      case measure => simp [intOf]; omega
    · obtain rfl : k = s := by omega
      go_wp2
      go_ret
      exact ⟨rfl, hb⟩
end Go.Proofs.YtdjoaboalknlkaaGreatDoor
namespace Go.Proofs.YtdjoaboalknlkaaGreatDoor
open Go.RowKit

theorem conv3d (w : World) (x y z : Int) : (convert 22 9 (.slice (some ⟨w.heap.size, 0, none⟩) 3 3)).run Tryz.prog (w.alloc (.cells #[.int .u8 x, .int .u8 y, .int .u8 z] 5)).drew =
    .ok (.string ⟨[UInt8.ofNat x.toNat, UInt8.ofNat y.toNat, UInt8.ofNat z.toNat].toArray⟩) (w.alloc (.cells #[.int .u8 x, .int .u8 y, .int .u8 z] 5)).drew := by
  have := run_convert_bytes_arg (P := Tryz.prog) (w.alloc (.cells #[.int .u8 x, .int .u8 y, .int .u8 z] 5)).drew 22 5 Tryz.underlying22 Tryz.underlying5 w.heap.size 0 3 3 [x, y, z] rfl (fun i hi => by
    show (w.alloc (.cells #[.int .u8 x, .int .u8 y, .int .u8 z] 5)).cell? _ = _
    rw [cell_of_row _ w.heap.size _ #[.int .u8 x, .int .u8 y, .int .u8 z] 5 (0, 0) (heap_alloc_new w _)]
    have : i = 0 ∨ i = 1 ∨ i = 2 := by omega
    rcases this with rfl | rfl | rfl <;> rfl) 9 Tryz.underlying9
  rw [this]
  simp [strOfNums]

theorem ofNat_255_sub (a : UInt8) : UInt8.ofNat (255 - a.toNat) = 255 - a := by
  apply UInt8.toNat_inj.1
  have := a.toNat_lt
  rw [Frm.sub255]
  simp
  omega

set_option maxHeartbeats 1000000 in
theorem rseal_any (w : World) (l : List UInt8) (hn : l.length ≤ 65536) :
    Calls Tryz.prog 21 #[.string ⟨l.toArray⟩] w fun e w' => e = .returned (.tuple #[.string ⟨(Frm.sealB l).toArray⟩, .bool true]) ∧ Below w.heap.size w w' := by
  have kc := fun w x y z => conv3d w x y z
  have d1 : decide (65536 < (l.length : Int)) = false := decide_eq_false (by omega)
  go_enter Tryz.func21, Tryz.ntmps21
  go_wp2_with fail
  refine (num_any w l.length 3 (by omega) (by omega)).mono ?_
  rintro e w1 ⟨rfl, hb1⟩
  have hf : Frm.front l = [Frm.u8 (l.length / 65536), Frm.u8 (l.length / 256), Frm.u8 l.length] ++ [255 - Frm.u8 (l.length / 65536), 255 - Frm.u8 (l.length / 256), 255 - Frm.u8 l.length] ++ l := rfl
  rw [lowB3]
  unfold Frm.be3
  generalize Frm.u8 (l.length / 65536) = a at *
  generalize Frm.u8 (l.length / 256) = b at *
  generalize Frm.u8 l.length = c at *
  have HF := Lib.hid hf; clear hf
  have ha := a.toNat_lt; have hb := b.toNat_lt; have hc := c.toNat_lt
  have g0 : (⟨#[a, b, c]⟩ : ByteArray)[0]'(by show 0 < 3; decide) = a := rfl
  have g1 : (⟨#[a, b, c]⟩ : ByteArray)[1]'(by show 1 < 3; decide) = b := rfl
  have g2 : (⟨#[a, b, c]⟩ : ByteArray)[2]'(by show 2 < 3; decide) = c := rfl
  go_wp2_with fail
  go_region
  have hs : (⟨#[a, b, c]⟩ : ByteArray) ++ ⟨#[UInt8.ofNat (255 - a.toNat), UInt8.ofNat (255 - b.toNat), UInt8.ofNat (255 - c.toNat)]⟩ ++ ⟨l.toArray⟩ = ⟨(Frm.front l).toArray⟩ := by
    have e1 := str_app [a, b, c] [255 - a, 255 - b, 255 - c]
    have e2 := str_app ([a, b, c] ++ [255 - a, 255 - b, 255 - c]) l
    rw [HF.out, ← e2, ← e1, ofNat_255_sub, ofNat_255_sub, ofNat_255_sub]
  rw [hs]
  have hfl := Frm.front_length l
  have hlt := Frm.asum_lt (Frm.front l)
  have HFL := Lib.hid hfl
  have hfle : (Frm.front l).length ≤ 65542 := by omega
  clear hfl g0 g1 g2 kc hs
  have hb2 : Below w.heap.size w (w1.alloc (Obj.cells #[Value.int IntKind.u8 (255 - ↑a.toNat), Value.int IntKind.u8 (255 - ↑b.toNat), Value.int IntKind.u8 (255 - ↑c.toNat)] 5)).drew := (hb1.alloc hb1.size _).drew
  generalize (w1.alloc (Obj.cells #[Value.int IntKind.u8 (255 - ↑a.toNat), Value.int IntKind.u8 (255 - ↑b.toNat), Value.int IntKind.u8 (255 - ↑c.toNat)] 5)).drew = w2 at *
  go_wp2_with fail
  refine (rsum_any w2 (Frm.front l) (by omega)).mono ?_
  rintro e w3 ⟨rfl, rfl⟩
  go_wp2_with fail
  refine (num_any w2 (Frm.asum (Frm.front l)) 4 hlt (by omega)).mono ?_
  rintro e w3 ⟨rfl, hb3⟩
  rw [lowB4]
  have h4 : (Frm.be4 (Frm.asum (Frm.front l))).length = 4 := rfl
  go_wp2
  go_ret2
  refine ⟨?_, hb2.trans (hb3.mono hb2.size)⟩
  have := str_app (Frm.front l) (Frm.be4 (Frm.asum (Frm.front l)))
  unfold Frm.sealB
  rw [← this]
  rfl
end Go.Proofs.YtdjoaboalknlkaaGreatDoor
namespace Go.Proofs.YtdjoaboalknlkaaGreatDoor
open Go.RowKit Go.Maps Go.Sort Go.Shelf

def lv30 : List UInt8 := [115, 110, 97, 112, 115, 104, 111, 116, 32, 55, 10, 115, 108, 97, 99, 107, 32, 51, 10, 105, 100, 108, 101, 32, 48, 10, 99, 108, 111, 99, 107, 32, 49, 53, 10, 99, 108, 111, 99] ++ [107, 32, 51, 32, 48, 32, 48, 32, 45, 49, 10, 104, 97, 100, 32, 49, 10, 0, 116, 97, 107, 101, 110, 32, 48, 10, 108, 97, 116, 101, 32, 48, 10, 103, 111, 110, 101, 32, 48, 10]
theorem goneR_nil {x : Itk} (h : x.gone = []) : goneR x = [] := (goneR_of (x := x) (r := []) ⟨List.Pairwise.nil, by simp [h]⟩).symm
theorem itoa_one (n : Nat) (h : n < 10) : Lib.itoa (n : Int) = [UInt8.ofNat (48 + n)] := by
  unfold Lib.itoa
  rw [if_neg (by omega)]
  show Lib.decDigits n = _
  rw [Lib.decDigits, dif_pos h]
theorem dec_15 : Lib.decDigits 15 = [49, 53] := by
  rw [Lib.decDigits, dif_neg (by decide)]
  show Lib.decDigits 1 ++ _ = _
  rw [Lib.decDigits, dif_pos (by decide)]; rfl
theorem dec_1 (n : Nat) (h : n < 10) : Lib.decDigits n = [UInt8.ofNat (48 + n)] := by rw [Lib.decDigits, dif_pos h]
theorem lv30_enc : encC (Clk.new 3 0) = [99, 108, 111, 99, 107, 32, 51, 32, 48, 32, 48, 32, 45, 49, 10] := by
  show encC ⟨3, 0, 0, -1, []⟩ = _
  unfold encC lineB numsB srcB
  have h3 := itoa_one 3 (by decide); have h0 := itoa_one 0 (by decide)
  have h1 : Lib.itoa (-1) = [45, 49] := by
    unfold Lib.itoa
    rw [if_pos (by decide)]
    show 45 :: Lib.decDigits 1 = _
    rw [dec_1 1 (by decide)]; rfl
  simp only [List.flatMap_cons, List.flatMap_nil]
  rw [show (3 : Int) = ((3 : Nat) : Int) from rfl, show (0 : Int) = ((0 : Nat) : Int) from rfl, h3, h0, h1]
  rfl
theorem lv30_eq : snX 7 (Itk.new 3 0) = lv30 := by
  unfold snX
  rw [goneR_nil rfl]
  show snT 7 3 0 (encC (Clk.new 3 0)) (encH []) [] [] [] = _
  rw [lv30_enc]
  have hh : encH [] = [0] := by unfold encH; rw [numB_lo (by decide)]; rfl
  rw [hh]
  unfold snT lineB numsB
  have h7 := itoa_one 7 (by decide); have h3 := itoa_one 3 (by decide); have h0 := itoa_one 0 (by decide); have h1 := itoa_one 1 (by decide)
  have h15 : Lib.itoa ((15 : Nat) : Int) = [49, 53] := by
    unfold Lib.itoa
    rw [if_neg (by omega)]
    exact dec_15
  simp only [List.flatMap_cons, List.flatMap_nil, List.length_cons, List.length_nil]
  rw [show (7 : Int) = ((7 : Nat) : Int) from rfl, show (3 : Int) = ((3 : Nat) : Int) from rfl, show (0 : Int) = ((0 : Nat) : Int) from rfl, show (((0 + 1 + 1 + 1 + 1 + 1 + 1 + 1 + 1 + 1 + 1 + 1 + 1 + 1 + 1 + 1 : Nat)) : Int) = ((15 : Nat) : Int) from rfl, show ((0 + 1 : Nat) : Int) = ((1 : Nat) : Int) from rfl, h7, h3, h0, h1, h15]
  rfl
theorem pieces_one (l : List UInt8) (h : l ≠ []) (hn : l.length ≤ 65536) : piecesB l = Frm.sealB l := by
  unfold piecesB
  rw [chunksB_cons l h, List.take_of_length_le hn, List.drop_eq_nil_of_le hn, chunksB_nil]
  simp [Frm.catB]
/-- a text of at most one frame, by the document -/
theorem rpieces_one (w : World) (l : List UInt8) (h : l ≠ []) (hn : l.length ≤ 65536) :
    Calls Tryz.prog 9 #[.string ⟨l.toArray⟩] w fun e w' => e = .returned (.string ⟨(piecesB l).toArray⟩) ∧ Below w.heap.size w w' := by
  have d1 : decide (65536 < (l.length : Int)) = false := decide_eq_false (by omega)
  rw [pieces_one l h hn]
  have hsl := Frm.sealB_length l
  have HR := Lib.hid (rseal_any w l hn)
  go_enter Tryz.func9, Tryz.ntmps9
  go_wp2
  go_loopw [0, 3] (fun tv vb W => tv = .string ⟨l.toArray⟩ ∧ vb = .string ⟨#[]⟩ ∧ W = w) (fun _ _ _ => 0)
  case atStart => exact ⟨rfl, rfl, rfl⟩
  case round =>
    obtain ⟨rfl, rfl, rfl⟩ := hrel
    go_wp2_with fail
    with_reducible refine HR.out.mono ?_
    rintro r w1 ⟨rfl, hb1⟩
    obtain ⟨s, hs⟩ : ∃ s, s = Frm.sealB l := ⟨_, rfl⟩
    have HSS := Lib.hid hs
    rw [← hs] at hsl ⊢
    clear hs
    have HE := Lib.hid (show (⟨#[]⟩ : ByteArray) ++ ⟨s.toArray⟩ = ⟨(Frm.sealB l).toArray⟩ by rw [← HSS.out]; apply ByteArray.ext; simp)
    have d2 : ¬ 9223372036854775807 < s.length := by omega
    have HB := Lib.hid hb1
    clear hb1
    go_wp2
    go_ret
    exact ⟨congrArg (fun b => Ending.returned (.string b)) HE.out, HB.out⟩

set_option maxRecDepth 100000 in
set_option maxHeartbeats 4000000 in
theorem lives30_any (w : World) (hmx : MaxAt w) (hee : ErrsAt w) (htab : Lib.TabBelow Tryz.prog w.heap.size w "internal/strconv.uint64pow10" .u64 Lib.pow10Tab) : Calls Tryz.prog 4 #[] w (Says true w) := by
  have HMX := Lib.hid hmx; have HEE := Lib.hid hee; have HT := Lib.hid htab
  clear hmx hee htab
  go_enter Tryz.func4, Tryz.ntmps4
  go_wp2_with fail
  refine (itknew_any w 3 0).mono ?_
  rintro r w1 ⟨bi, F1, rfl, hI1, hb1, hF1⟩
  have HI1 := Lib.hid hI1
  have HG1 := Lib.hid (show PtGood 0 (Itk.new 3 0) from PtGood.grown (slack := 3) (idle := 0) (ds := []) hI1 (Nat.le_refl _))
  have HB1 := Lib.hid hb1
  clear hI1 hF1 hb1
  go_wp2_with fail
  with_reducible refine (snsave_any w1 F1 bi 0 _ HI1.out HG1.out (by omega) 7 (by omega) (by omega) (HMX.out.up HB1.out) (tab_up HT.out HB1.out)).mono ?_
  rintro r w2 ⟨v2, rfl, ho2, hb2⟩
  obtain ⟨A2, c2, rfl⟩ := ho2.form
  have HB2 := Lib.hid (HB1.out.trans (hb2.mono HB1.out.size))
  have HO2 := Lib.hid ho2
  have HBY := Lib.hid ho2.byt
  clear hb2 ho2
  go_wp2_with fail
  with_reducible refine (snload_good w2 A2 _ c2 _ 7 0 HBY.out HG1.out (by omega) (by omega) (by omega) (HMX.out.up HB2.out) (HEE.out.up HB2.out) (tab_up HT.out HB2.out)).mono ?_
  rintro r w3 ⟨b3, F3, rfl, hI3, hb3, hF3⟩
  have HB3 := Lib.hid (HB2.out.trans (hb3.mono HB2.out.size))
  have HBZ := Lib.hid (below_drew (Below.refl w3.heap.size w3))
  have HSS := Lib.hid (show ∀ W, Below w3.heap.size w3 W → (convert 22 9 (.slice A2 (piecesB (snX 7 (Itk.new 3 0))).length c2)).run Tryz.prog W = .ok (.string ⟨(piecesB (snX 7 (Itk.new 3 0))).toArray⟩) W from fun W hW => (((HBY.out.below hb3).more hb3.size).below hW).str (P := Tryz.prog) 22 5 9 Tryz.underlying22 Tryz.underlying5 Tryz.underlying9)
  have HPC := Lib.hid (show ∀ W, Calls Tryz.prog 9 #[.string ⟨#[115, 110, 97, 112, 115, 104, 111, 116, 32, 55, 10, 115, 108, 97, 99, 107, 32, 51, 10, 105, 100, 108, 101, 32, 48, 10, 99, 108, 111, 99, 107, 32, 49, 53, 10, 99, 108, 111, 99, 107, 32, 51, 32, 48, 32, 48, 32, 45, 49, 10, 104, 97, 100, 32, 49, 10, 0, 116, 97, 107, 101, 110, 32, 48, 10, 108, 97, 116, 101, 32, 48, 10, 103, 111, 110, 101, 32, 48, 10]⟩] W (fun e w' => e = .returned (.string ⟨(piecesB (snX 7 (Itk.new 3 0))).toArray⟩) ∧ Below W.heap.size W w') from fun W => by
    rw [lv30_eq]
    exact rpieces_one W lv30 (by decide) (by decide))
  generalize piecesB (snX 7 (Itk.new 3 0)) = l at *
  clear hI3 hb3 hF3 HI1 HG1 HBY HO2 HMX HEE HT HB1 HB2
  go_upto_region 6 with fail
  go_region_held3 (fun W => (convert 22 9 (.slice A2 l.length c2)).run Tryz.prog W = .ok (.string ⟨l.toArray⟩) W) (first | with_reducible assumption | with_reducible exact HSS.out _ HBZ.out) (first | (go_at_call 9; (with_reducible refine (HPC.out _).mono ?_); rintro r wx ⟨rfl, hb⟩; have HBX2 := Lib.hid (HBZ.out.trans (hb.mono HBZ.out.size)); clear HBZ; have HBZ := HBX2; clear HBX2 hb))
  all_goals
    go_wp2
    go_ret
    exact ⟨rfl, HB3.out.trans (HBZ.out.mono HB3.out.size)⟩
end Go.Proofs.YtdjoaboalknlkaaGreatDoor
