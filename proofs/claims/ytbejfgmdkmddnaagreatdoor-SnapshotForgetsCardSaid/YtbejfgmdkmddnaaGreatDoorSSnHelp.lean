/-
  One byte made into a text.
  Layer 3: the document's Sum, num, value (ciceroneref03).
  Layer 3: the document's Seal (ciceroneref03).
  Layer 30: the laws' lives: a snapshot of a new intake.
  Layer 2: the document's Some and Texts.
  Layer 8: Offer.
  Layer 30: helps of the laws; a loop of Offer.
-/
import Derived.Test.YtbejfgmdkmddnaaGreatDoorSCells
import Derived.Test.YtbejfgmdkmddnaaGreatDoorSFrmWalk
import Derived.Test.YtbejfgmdkmddnaaGreatDoorSSnLd
import Derived.Test.YtbejfgmdkmddnaaGreatDoorSRef02
import Derived.Test.YtbejfgmdkmddnaaGreatDoorSPtQ
import Derived.Test.YtbejfgmdkmddnaaGreatDoorSItkAdmit
import Derived.RegionTactic
import Derived.BigRegion
import Derived.Deep.DeepCutAuto
import Derived.Test.YtbejfgmdkmddnaaGreatDoorSOfStay
namespace Go.Proofs.YtbejfgmdkmddnaaGreatDoor
open Go.RowKit Go.Maps

theorem conv1 (w : World) (v : Int) : (convert 32 9 (.slice (some ⟨w.heap.size, 0, none⟩) 1 1)).run Tryz.prog (w.alloc (.cells #[.int .u8 v] 5)) = .ok (.string ⟨[UInt8.ofNat v.toNat].toArray⟩) (w.alloc (.cells #[.int .u8 v] 5)) := by
  have := run_convert_bytes_arg (P := Tryz.prog) (w.alloc (.cells #[.int .u8 v] 5)) 32 5 Tryz.underlying32 Tryz.underlying5 w.heap.size 0 1 1 [v] rfl (fun i hi => by
    obtain rfl : i = 0 := by omega
    rw [cell_of_row _ w.heap.size _ #[.int .u8 v] 5 (0, 0) (heap_alloc_new w _)]; rfl) 9 Tryz.underlying9
  rw [this]
  simp [strOfNums]
end Go.Proofs.YtbejfgmdkmddnaaGreatDoor
namespace Go.Proofs.YtbejfgmdkmddnaaGreatDoor
open Go.RowKit

set_option maxHeartbeats 400000 in
theorem rsum_any (w : World) (l : List UInt8) (hn : l.length ≤ 1000000) :
    Calls Tryz.prog 140 #[.string ⟨l.toArray⟩] w fun e w' => e = .returned (.int .i64 (Frm.asum l)) ∧ w = w' := by
  go_enter Tryz.func140, Tryz.ntmps140
  go_wp2
  go_loop [3, 4, 5] (fun t s i => ∃ k : Nat, k ≤ l.length ∧ i = .int .i64 k ∧ t = .int .i64 (Frm.ad (l.take k)).1 ∧ s = .int .i64 (Frm.ad (l.take k)).2) (fun _ _ i => l.length - (intOf i).toNat)
  case atStart => exact ⟨0, Nat.zero_le _, rfl, rfl, rfl⟩
  case round =>
    obtain ⟨k, hk, rfl, rfl, rfl⟩ := hrel
    obtain ⟨hlt1, hlt2⟩ := Frm.ad_lt (l.take k)
    by_cases hkn : k < l.length
    · have HA := Lib.hid (Frm.ad_take l k hkn)
      have hb8 : ((⟨l.toArray⟩ : ByteArray)[k]'(by simpa [ByteArray.size] using hkn)).toNat < 256 := ((⟨l.toArray⟩ : ByteArray)[k]'(by simpa [ByteArray.size] using hkn)).toNat_lt
      have HE := Lib.hid (show ((⟨l.toArray⟩ : ByteArray)[k]'(by simpa [ByteArray.size] using hkn)).toNat = l[k].toNat from rfl)
      generalize h1 : (Frm.ad (l.take k)).1 = p at *
      generalize h2 : (Frm.ad (l.take k)).2 = q at *
      have H1 := Lib.hid h1; have H2 := Lib.hid h2; clear h1 h2
      go_wp2
      go_round
      case rel =>
        refine ⟨k + 1, by omega, by go_num, ?_, ?_⟩
        · rw [HA.out]; unfold Frm.adStep; rw [H1.out, ← HE.out]; go_num
        · rw [HA.out]; unfold Frm.adStep; rw [H1.out, H2.out, ← HE.out]; go_num
      case measure => simp [intOf]; omega
    · have hkk : l.take k = l := List.take_of_length_le (by omega)
      rw [hkk] at hlt1 hlt2 ⊢
      go_wp2
      go_ret
      refine ⟨ret_int ?_, rfl⟩
      unfold Frm.asum
      go_num

/-- the lowest i bytes of a number -/
def lowB : Nat → Nat → List UInt8
  | 0, _ => []
  | i + 1, n => Frm.u8 (n / 256 ^ i) :: lowB i n
theorem lowB3 (n : Nat) : lowB 3 n = Frm.be3 n := by simp [lowB, Frm.be3]
theorem lowB4 (n : Nat) : lowB 4 n = Frm.be4 n := by simp [lowB, Frm.be4]

theorem lowB_length (i n : Nat) : (lowB i n).length = i := by
  induction i with
  | zero => rfl
  | succ i ih => simp [lowB, ih]
theorem u8_mod (x : Nat) : UInt8.ofNat (x % 256) = Frm.u8 x := by
  unfold Frm.u8
  apply UInt8.toNat_inj.1
  simp
set_option maxHeartbeats 400000 in
theorem num_any (w : World) (n s : Nat) (hn : n < 4294967296) (hs : s ≤ 4) :
    Calls Tryz.prog 139 #[.int .i64 n, .int .i64 s] w fun e w' => e = .returned (.string ⟨(lowB s n).toArray⟩) ∧ Below w.heap.size w w' := by
  have kc := conv1
  go_enter Tryz.func139, Tryz.ntmps139
  go_wp2
  go_loopw [0, 5, 6] (fun m t i wr => ∃ k : Nat, k ≤ s ∧ i = .int .i64 k ∧ m = .int .i64 (n / 256 ^ k : Nat) ∧ t = .string ⟨(lowB k n).toArray⟩ ∧ Below w.heap.size w wr) (fun _ _ i _ => s - (intOf i).toNat)
  case atStart => exact ⟨0, Nat.zero_le _, rfl, by simp, rfl, Below.refl _ _⟩
  case round =>
    obtain ⟨k, hk, rfl, rfl, rfl, hb⟩ := hrel
    have hdiv : n / 256 ^ k ≤ n := Nat.div_le_self _ _
    by_cases hkn : k < s
    · have HD := Lib.hid (show n / 256 ^ (k + 1) = n / 256 ^ k / 256 by rw [Nat.pow_succ, Nat.div_div_eq_div_mul])
      have HL := Lib.hid (show lowB (k + 1) n = Frm.u8 (n / 256 ^ k) :: lowB k n from rfl)
      generalize hx : n / 256 ^ k = x at *
      clear hx
      have hll : (lowB k n).length ≤ 4 := by rw [lowB_length]; omega
      go_wp2
      go_roundw
      case rel =>
        refine ⟨k + 1, by omega, by go_num, by rw [HD.out]; go_num, ?_, hb.alloc hb.size _⟩
        have := str_app [UInt8.ofNat (x % 256)] (lowB k n)
        rw [HL.out, ← u8_mod]
        exact congrArg Value.string this
      case measure => simp [intOf]; omega
    · obtain rfl : k = s := by omega
      go_wp2
      go_ret
      exact ⟨rfl, hb⟩
end Go.Proofs.YtbejfgmdkmddnaaGreatDoor
namespace Go.Proofs.YtbejfgmdkmddnaaGreatDoor
open Go.RowKit

theorem conv3d (w : World) (x y z : Int) : (convert 32 9 (.slice (some ⟨w.heap.size, 0, none⟩) 3 3)).run Tryz.prog (w.alloc (.cells #[.int .u8 x, .int .u8 y, .int .u8 z] 5)).drew =
    .ok (.string ⟨[UInt8.ofNat x.toNat, UInt8.ofNat y.toNat, UInt8.ofNat z.toNat].toArray⟩) (w.alloc (.cells #[.int .u8 x, .int .u8 y, .int .u8 z] 5)).drew := by
  have := run_convert_bytes_arg (P := Tryz.prog) (w.alloc (.cells #[.int .u8 x, .int .u8 y, .int .u8 z] 5)).drew 32 5 Tryz.underlying32 Tryz.underlying5 w.heap.size 0 3 3 [x, y, z] rfl (fun i hi => by
    show (w.alloc (.cells #[.int .u8 x, .int .u8 y, .int .u8 z] 5)).cell? _ = _
    rw [cell_of_row _ w.heap.size _ #[.int .u8 x, .int .u8 y, .int .u8 z] 5 (0, 0) (heap_alloc_new w _)]
    have : i = 0 ∨ i = 1 ∨ i = 2 := by omega
    rcases this with rfl | rfl | rfl <;> rfl) 9 Tryz.underlying9
  rw [this]
  simp [strOfNums]

theorem ofNat_255_sub (a : UInt8) : UInt8.ofNat (255 - a.toNat) = 255 - a := by
  apply UInt8.toNat_inj.1
  have := a.toNat_lt
  rw [Frm.sub255]
  simp
  omega

set_option maxHeartbeats 1000000 in
theorem rseal_any (w : World) (l : List UInt8) (hn : l.length ≤ 65536) :
    Calls Tryz.prog 79 #[.string ⟨l.toArray⟩] w fun e w' => e = .returned (.tuple #[.string ⟨(Frm.sealB l).toArray⟩, .bool true]) ∧ Below w.heap.size w w' := by
  have kc := fun w x y z => conv3d w x y z
  have d1 : decide (65536 < (l.length : Int)) = false := decide_eq_false (by omega)
  go_enter Tryz.func79, Tryz.ntmps79
  go_wp2_with fail
  refine (num_any w l.length 3 (by omega) (by omega)).mono ?_
  rintro e w1 ⟨rfl, hb1⟩
  have hf : Frm.front l = [Frm.u8 (l.length / 65536), Frm.u8 (l.length / 256), Frm.u8 l.length] ++ [255 - Frm.u8 (l.length / 65536), 255 - Frm.u8 (l.length / 256), 255 - Frm.u8 l.length] ++ l := rfl
  rw [lowB3]
  unfold Frm.be3
  generalize Frm.u8 (l.length / 65536) = a at *
  generalize Frm.u8 (l.length / 256) = b at *
  generalize Frm.u8 l.length = c at *
  have HF := Lib.hid hf; clear hf
  have ha := a.toNat_lt; have hb := b.toNat_lt; have hc := c.toNat_lt
  have g0 : (⟨#[a, b, c]⟩ : ByteArray)[0]'(by show 0 < 3; decide) = a := rfl
  have g1 : (⟨#[a, b, c]⟩ : ByteArray)[1]'(by show 1 < 3; decide) = b := rfl
  have g2 : (⟨#[a, b, c]⟩ : ByteArray)[2]'(by show 2 < 3; decide) = c := rfl
  go_wp2_with fail
  go_region
  have hs : (⟨#[a, b, c]⟩ : ByteArray) ++ ⟨#[UInt8.ofNat (255 - a.toNat), UInt8.ofNat (255 - b.toNat), UInt8.ofNat (255 - c.toNat)]⟩ ++ ⟨l.toArray⟩ = ⟨(Frm.front l).toArray⟩ := by
    have e1 := str_app [a, b, c] [255 - a, 255 - b, 255 - c]
    have e2 := str_app ([a, b, c] ++ [255 - a, 255 - b, 255 - c]) l
    rw [HF.out, ← e2, ← e1, ofNat_255_sub, ofNat_255_sub, ofNat_255_sub]
  rw [hs]
  have hfl := Frm.front_length l
  have hlt := Frm.asum_lt (Frm.front l)
  have HFL := Lib.hid hfl
  have hfle : (Frm.front l).length ≤ 65542 := by omega
  clear hfl g0 g1 g2 kc hs
  have hb2 : Below w.heap.size w (w1.alloc (Obj.cells #[Value.int IntKind.u8 (255 - ↑a.toNat), Value.int IntKind.u8 (255 - ↑b.toNat), Value.int IntKind.u8 (255 - ↑c.toNat)] 5)).drew := (hb1.alloc hb1.size _).drew
  generalize (w1.alloc (Obj.cells #[Value.int IntKind.u8 (255 - ↑a.toNat), Value.int IntKind.u8 (255 - ↑b.toNat), Value.int IntKind.u8 (255 - ↑c.toNat)] 5)).drew = w2 at *
  go_wp2_with fail
  refine (rsum_any w2 (Frm.front l) (by omega)).mono ?_
  rintro e w3 ⟨rfl, rfl⟩
  go_wp2_with fail
  refine (num_any w2 (Frm.asum (Frm.front l)) 4 hlt (by omega)).mono ?_
  rintro e w3 ⟨rfl, hb3⟩
  rw [lowB4]
  have h4 : (Frm.be4 (Frm.asum (Frm.front l))).length = 4 := rfl
  go_wp2
  go_ret2
  refine ⟨?_, hb2.trans (hb3.mono hb2.size)⟩
  have := str_app (Frm.front l) (Frm.be4 (Frm.asum (Frm.front l)))
  unfold Frm.sealB
  rw [← this]
  rfl
end Go.Proofs.YtbejfgmdkmddnaaGreatDoor
namespace Go.Proofs.YtbejfgmdkmddnaaGreatDoor
open Go.RowKit Go.Maps Go.Sort Go.Shelf

def lv30 : List UInt8 := [115, 110, 97, 112, 115, 104, 111, 116, 32, 55, 10, 115, 108, 97, 99, 107, 32, 51, 10, 105, 100, 108, 101, 32, 48, 10, 99, 108, 111, 99, 107, 32, 49, 53, 10, 99, 108, 111, 99] ++ [107, 32, 51, 32, 48, 32, 48, 32, 45, 49, 10, 104, 97, 100, 32, 49, 10, 0, 116, 97, 107, 101, 110, 32, 48, 10, 108, 97, 116, 101, 32, 48, 10, 103, 111, 110, 101, 32, 48, 10]
theorem goneR_nil {x : Itk} (h : x.gone = []) : goneR x = [] := (goneR_of (x := x) (r := []) ⟨List.Pairwise.nil, by simp [h]⟩).symm
theorem itoa_one (n : Nat) (h : n < 10) : Lib.itoa (n : Int) = [UInt8.ofNat (48 + n)] := by
  unfold Lib.itoa
  rw [if_neg (by omega)]
  show Lib.decDigits n = _
  rw [Lib.decDigits, dif_pos h]
theorem dec_15 : Lib.decDigits 15 = [49, 53] := by
  rw [Lib.decDigits, dif_neg (by decide)]
  show Lib.decDigits 1 ++ _ = _
  rw [Lib.decDigits, dif_pos (by decide)]; rfl
theorem dec_1 (n : Nat) (h : n < 10) : Lib.decDigits n = [UInt8.ofNat (48 + n)] := by rw [Lib.decDigits, dif_pos h]
theorem lv30_enc : encC (Clk.new 3 0) = [99, 108, 111, 99, 107, 32, 51, 32, 48, 32, 48, 32, 45, 49, 10] := by
  show encC ⟨3, 0, 0, -1, []⟩ = _
  unfold encC lineB numsB srcB
  have h3 := itoa_one 3 (by decide); have h0 := itoa_one 0 (by decide)
  have h1 : Lib.itoa (-1) = [45, 49] := by
    unfold Lib.itoa
    rw [if_pos (by decide)]
    show 45 :: Lib.decDigits 1 = _
    rw [dec_1 1 (by decide)]; rfl
  simp only [List.flatMap_cons, List.flatMap_nil]
  rw [show (3 : Int) = ((3 : Nat) : Int) from rfl, show (0 : Int) = ((0 : Nat) : Int) from rfl, h3, h0, h1]
  rfl
theorem lv30_eq : snX 7 (Itk.new 3 0) = lv30 := by
  unfold snX
  rw [goneR_nil rfl]
  show snT 7 3 0 (encC (Clk.new 3 0)) (encH []) [] [] [] = _
  rw [lv30_enc]
  have hh : encH [] = [0] := by unfold encH; rw [numB_lo (by decide)]; rfl
  rw [hh]
  unfold snT lineB numsB
  have h7 := itoa_one 7 (by decide); have h3 := itoa_one 3 (by decide); have h0 := itoa_one 0 (by decide); have h1 := itoa_one 1 (by decide)
  have h15 : Lib.itoa ((15 : Nat) : Int) = [49, 53] := by
    unfold Lib.itoa
    rw [if_neg (by omega)]
    exact dec_15
  simp only [List.flatMap_cons, List.flatMap_nil, List.length_cons, List.length_nil]
  rw [show (7 : Int) = ((7 : Nat) : Int) from rfl, show (3 : Int) = ((3 : Nat) : Int) from rfl, show (0 : Int) = ((0 : Nat) : Int) from rfl, show (((0 + 1 + 1 + 1 + 1 + 1 + 1 + 1 + 1 + 1 + 1 + 1 + 1 + 1 + 1 + 1 : Nat)) : Int) = ((15 : Nat) : Int) from rfl, show ((0 + 1 : Nat) : Int) = ((1 : Nat) : Int) from rfl, h7, h3, h0, h1, h15]
  rfl
theorem pieces_one (l : List UInt8) (h : l ≠ []) (hn : l.length ≤ 65536) : piecesB l = Frm.sealB l := by
  unfold piecesB
  rw [chunksB_cons l h, List.take_of_length_le hn, List.drop_eq_nil_of_le hn, chunksB_nil]
  simp [Frm.catB]
/-- a text of at most one frame, by the document -/
theorem rpieces_one (w : World) (l : List UInt8) (h : l ≠ []) (hn : l.length ≤ 65536) :
    Calls Tryz.prog 33 #[.string ⟨l.toArray⟩] w fun e w' => e = .returned (.string ⟨(piecesB l).toArray⟩) ∧ Below w.heap.size w w' := by
  have d1 : decide (65536 < (l.length : Int)) = false := decide_eq_false (by omega)
  rw [pieces_one l h hn]
  have hsl := Frm.sealB_length l
  have HR := Lib.hid (rseal_any w l hn)
  go_enter Tryz.func33, Tryz.ntmps33
  go_wp2
  go_loopw [0, 3] (fun tv vb W => tv = .string ⟨l.toArray⟩ ∧ vb = .string ⟨#[]⟩ ∧ W = w) (fun _ _ _ => 0)
  case atStart => exact ⟨rfl, rfl, rfl⟩
  case round =>
    obtain ⟨rfl, rfl, rfl⟩ := hrel
    go_wp2_with fail
    with_reducible refine HR.out.mono ?_
    rintro r w1 ⟨rfl, hb1⟩
    obtain ⟨s, hs⟩ : ∃ s, s = Frm.sealB l := ⟨_, rfl⟩
    have HSS := Lib.hid hs
    rw [← hs] at hsl ⊢
    clear hs
    have HE := Lib.hid (show (⟨#[]⟩ : ByteArray) ++ ⟨s.toArray⟩ = ⟨(Frm.sealB l).toArray⟩ by rw [← HSS.out]; apply ByteArray.ext; simp)
    have d2 : ¬ 9223372036854775807 < s.length := by omega
    have HB := Lib.hid hb1
    clear hb1
    go_wp2
    go_ret
    exact ⟨congrArg (fun b => Ending.returned (.string b)) HE.out, HB.out⟩

set_option maxRecDepth 100000 in
set_option maxHeartbeats 4000000 in
theorem lives30_any (w : World) (hmx : MaxAt w) (hee : ErrsAt w) (htab : Lib.TabBelow Tryz.prog w.heap.size w "internal/strconv.uint64pow10" .u64 Lib.pow10Tab) : Calls Tryz.prog 10 #[] w (Says true w) := by
  have HMX := Lib.hid hmx; have HEE := Lib.hid hee; have HT := Lib.hid htab
  clear hmx hee htab
  go_enter Tryz.func10, Tryz.ntmps10
  go_wp2_with fail
  refine (itknew_any w 3 0).mono ?_
  rintro r w1 ⟨bi, F1, rfl, hI1, hb1, hF1⟩
  have HI1 := Lib.hid hI1
  have HG1 := Lib.hid (show PtGood 0 (Itk.new 3 0) from PtGood.grown (slack := 3) (idle := 0) (ds := []) hI1 (Nat.le_refl _))
  have HB1 := Lib.hid hb1
  clear hI1 hF1 hb1
  go_wp2_with fail
  with_reducible refine (snsave_any w1 F1 bi 0 _ HI1.out HG1.out (by omega) 7 (by omega) (by omega) (HMX.out.up HB1.out) (tab_up HT.out HB1.out)).mono ?_
  rintro r w2 ⟨v2, rfl, ho2, hb2⟩
  obtain ⟨A2, c2, rfl⟩ := ho2.form
  have HB2 := Lib.hid (HB1.out.trans (hb2.mono HB1.out.size))
  have HO2 := Lib.hid ho2
  have HBY := Lib.hid ho2.byt
  clear hb2 ho2
  go_wp2_with fail
  with_reducible refine (snload_good w2 A2 _ c2 _ 7 0 HBY.out HG1.out (by omega) (by omega) (by omega) (HMX.out.up HB2.out) (HEE.out.up HB2.out) (tab_up HT.out HB2.out)).mono ?_
  rintro r w3 ⟨b3, F3, rfl, hI3, hb3, hF3⟩
  have HB3 := Lib.hid (HB2.out.trans (hb3.mono HB2.out.size))
  have HBZ := Lib.hid (below_drew (Below.refl w3.heap.size w3))
  have HSS := Lib.hid (show ∀ W, Below w3.heap.size w3 W → (convert 32 9 (.slice A2 (piecesB (snX 7 (Itk.new 3 0))).length c2)).run Tryz.prog W = .ok (.string ⟨(piecesB (snX 7 (Itk.new 3 0))).toArray⟩) W from fun W hW => (((HBY.out.below hb3).more hb3.size).below hW).str (P := Tryz.prog) 32 5 9 Tryz.underlying32 Tryz.underlying5 Tryz.underlying9)
  have HPC := Lib.hid (show ∀ W, Calls Tryz.prog 33 #[.string ⟨#[115, 110, 97, 112, 115, 104, 111, 116, 32, 55, 10, 115, 108, 97, 99, 107, 32, 51, 10, 105, 100, 108, 101, 32, 48, 10, 99, 108, 111, 99, 107, 32, 49, 53, 10, 99, 108, 111, 99, 107, 32, 51, 32, 48, 32, 48, 32, 45, 49, 10, 104, 97, 100, 32, 49, 10, 0, 116, 97, 107, 101, 110, 32, 48, 10, 108, 97, 116, 101, 32, 48, 10, 103, 111, 110, 101, 32, 48, 10]⟩] W (fun e w' => e = .returned (.string ⟨(piecesB (snX 7 (Itk.new 3 0))).toArray⟩) ∧ Below W.heap.size W w') from fun W => by
    rw [lv30_eq]
    exact rpieces_one W lv30 (by decide) (by decide))
  generalize piecesB (snX 7 (Itk.new 3 0)) = l at *
  clear hI3 hb3 hF3 HI1 HG1 HBY HO2 HMX HEE HT HB1 HB2
  go_upto_region 6 with fail
  go_region_held3 (fun W => (convert 32 9 (.slice A2 l.length c2)).run Tryz.prog W = .ok (.string ⟨l.toArray⟩) W) (first | with_reducible assumption | with_reducible exact HSS.out _ HBZ.out) (first | (go_at_call 33; (with_reducible refine (HPC.out _).mono ?_); rintro r wx ⟨rfl, hb⟩; have HBX2 := Lib.hid (HBZ.out.trans (hb.mono HBZ.out.size)); clear HBZ; have HBZ := HBX2; clear HBX2 hb))
  all_goals
    go_wp2
    go_ret
    exact ⟨rfl, HB3.out.trans (HBZ.out.mono HB3.out.size)⟩
end Go.Proofs.YtbejfgmdkmddnaaGreatDoor
namespace Go.Proofs.YtbejfgmdkmddnaaGreatDoor
open Go.RowKit Go.Maps Go.Sort

def SmRel (w : World) (es : List Ev) (m : Int) (i : Value) (wr : World) : Prop := ∃ k : Nat, i = .int .i64 k ∧ k ≤ es.length ∧ (∀ d ∈ es.take k, bigB d m = false) ∧ Below w.heap.size w wr
set_option maxRecDepth 100000 in
set_option maxHeartbeats 2000000 in
theorem some_any (w : World) (A : Option Addr) (n c : Nat) (ds : List Ev) (h : Evs w w.heap.size A n c ds) (hn : n ≤ 140737488355328) (m : Int) :
    Calls Tryz.prog 11 #[.slice A n c, .int .i64 m] w (Says (ds.any (fun d => bigB d m)) w) := by
  have HH := Lib.hid h; clear h
  have hl := HH.out.len
  have HL := Lib.hid hl; clear hl
  go_enter Tryz.func11, Tryz.ntmps11
  go_wp2
  go_loopw [5] (fun i wr => SmRel w ds m i wr) (fun i _ => n - (intOf i).toNat)
  case atStart => exact ⟨0, rfl, Nat.zero_le _, fun d hd => by simp at hd, Below.refl _ _⟩
  case round =>
    obtain ⟨k, rfl, hk, hno, hbel⟩ := hrel
    have HNO := Lib.hid hno; clear hno
    have hkL : k ≤ n := by rw [← HL.out]; exact hk
    by_cases hkn : k < n
    · have hkl : k < ds.length := by rw [HL.out]; exact hkn
      obtain ⟨b, off, rfl, hb, hd⟩ := HH.out.ev k hkl
      obtain ⟨e0, e1, e2, e3, e4, e5, e6, e7⟩ := hd.below hbel hb
      have HT := Lib.hid (show bigB ds[k] m = false → ∀ d ∈ ds.take (k + 1), bigB d m = false from fun h d hd => by
        rw [List.take_add_one, List.getElem?_eq_getElem hkl, Option.toList_some] at hd
        rcases List.mem_append.1 hd with hd | hd
        · exact HNO.out d hd
        · simp at hd; subst hd; exact h)
      have HY := Lib.hid (show bigB ds[k] m = true → ds.any (fun d => bigB d m) = true from fun h => List.any_eq_true.2 ⟨_, List.getElem_mem hkl, h⟩)
      generalize ds[k] = d at *
      have t1 : (k : Int) < n := by omega
      go_wp2_with fail
      refine (big_any wr d m).mono ?_
      rintro r w2 ⟨rfl, hb2⟩
      have hbw2 : Below w.heap.size w w2 := hbel.trans (hb2.mono hbel.size)
      clear hb2 e0 e1 e2 e3 e4 e5 e6 e7 hd
      cases hbg : bigB d m
      · have HT' := Lib.hid (HT.out hbg)
        clear hbg
        go_wp2
        go_roundw
        case rel => exact ⟨k + 1, by go_num, by omega, HT'.out, hbw2⟩
        case measure => simp [intOf]; omega
      · have HY' := Lib.hid (HY.out hbg)
        clear hbg
        go_wp2
        go_ret
        exact ⟨ret_bool (by rw [HY'.out]), hbw2⟩
    · have HZ := Lib.hid (show ds.any (fun d => bigB d m) = false by
        rw [List.any_eq_false]
        intro d hd
        have := HNO.out d (by rw [List.take_of_length_le (by rw [HL.out]; omega)]; exact hd)
        simp [this])
      have t1 : ¬ (k : Int) < n := by omega
      go_wp2
      go_ret
      exact ⟨ret_bool (by rw [HZ.out]), hbel⟩
set_option maxHeartbeats 1000000 in
theorem texts_any (w : World) (B B' : Nat) (A A' : Option Addr) (n c c' : Nat) (ss : List (List UInt8)) (h : Strs w B A n c ss) (h' : Strs w B' A' n c' ss) (hn : n ≤ 100000) :
    Calls Tryz.prog 53 #[.slice A n c, .slice A' n c'] w fun e w' => e = .returned (.bool true) ∧ ∃ k, w' = w.drewN k := by
  have HH := Lib.hid h; clear h
  have HH' := Lib.hid h'; clear h'
  have hnn : ((n : Int) != (n : Int)) = false := by simp
  go_enter Tryz.func53, Tryz.ntmps53
  go_wp2
  clear hnn
  go_loopw [5] (fun i wr => ∃ k q : Nat, i = .int .i64 k ∧ k ≤ n ∧ wr = w.drewN q) (fun i _ => n - (intOf i).toNat)
  case atStart => exact ⟨0, 0, rfl, Nat.zero_le _, rfl⟩
  case round =>
    obtain ⟨k, q, rfl, hk, rfl⟩ := hrel
    by_cases hkn : k < n
    · have hkl : k < ss.length := by rw [HH.out.len]; exact hkn
      obtain ⟨b, off, rfl, hb, hc⟩ := HH.out.at_ k hkl
      obtain ⟨b', off', rfl, hb', hc'⟩ := HH'.out.at_ k hkl
      have t1 : (k : Int) < n := by omega
      generalize ss[k] = x at *
      have t5 : (!(x == x)) = false := by simp
      go_wp2
      go_quiet (fail)
      go_wp2
      go_roundw
      case rel => exact ⟨k + 1, _, by go_num, by omega, rfl⟩
      case measure => simp [intOf]; omega
    · go_wp2
      go_ret
      exact ⟨rfl, _, rfl⟩
end Go.Proofs.YtbejfgmdkmddnaaGreatDoor
namespace Go.Proofs.YtbejfgmdkmddnaaGreatDoor
open Go.RowKit Go.Maps Go.Sort

set_option maxRecDepth 100000 in
set_option maxHeartbeats 4000000 in
theorem offer_any (w : World) (F : Nat → Prop) (bi N : Nat) (x : Itk) (h : ItkAt w F bi N x) (hN : N + 2 < 100000) (e : Ev) (hsm : e.small) (now : Int) (hmx : MaxAt w) (hF0 : ¬ F 0) :
    Calls Tryz.prog 16 #[.pointer (some ⟨bi, 0, none⟩), e.agg, .int .i64 now] w (OfferPost w F bi (N + 2) (x.offer e now) (x.offered e now)) := by
  obtain ⟨A, hM, hO, hnl, hng, hfoot, hFlt⟩ := h
  have HM := Lib.hid hM; have HO := Lib.hid hO; have HFO := Lib.hid hfoot; have HFL := Lib.hid hFlt; have HMX := Lib.hid hmx; have HF0 := Lib.hid hF0
  have hlt : bi < w.heap.size := hM.lt (.inl rfl)
  clear hM hO hfoot hFlt hmx hF0
  have HOF := Lib.hid (show x.offer e now = if (x.tick now).refuses e then x.tick now else if ((x.tick now).clk.tick now).hears e.src e.at_ then ((x.tick now).hear e now).took e else ((x.tick now).hear e now).lates e from rfl)
  have HOV := Lib.hid (show x.offered e now = if (x.tick now).refuses e then (x.tick now).verdict e else if ((x.tick now).clk.tick now).hears e.src e.at_ then 0 else 2 from rfl)
  unfold Ev.agg
  go_enter Tryz.func16, Tryz.ntmps16
  have hbA : Below w.heap.size w (w.alloc (evObj e)) := (Below.refl _ _).alloc (Nat.le_refl _) _
  obtain ⟨c0, c1, c2, c3, c4, c5, f2, f3, f4⟩ := (HM.out.up hbA).cells
  go_wp2_with fail
  have HE0 := Lib.hid (EvIn.new w e)
  have hsA : (w.alloc (evObj e)).heap.size = w.heap.size + 1 := by simp
  have HM0 := Lib.hid (HM.out.up hbA)
  have HMX0 := Lib.hid (HMX.out.up hbA)
  clear c0 c1 c2 c3 c4 c5 f2 f3 f4
  generalize w.alloc (evObj e) = w0 at *
  refine (tick_any w0 A.bc A.bm x.clk HM0.out.clk now).mono ?_
  rintro r w1 ⟨rfl, hc1, hk1⟩
  have hok1 : ItkOk N (x.tick now) := HO.out.tick now
  obtain ⟨hI1, hM1, hK1⟩ := ItkAt.setClk (N := N) (M := N) HM0.out hnl hng (Nat.le_refl _) HFO.out (fun b hb => by have := HFL.out b hb; omega) hc1 (hk1.mono (F := fun b => b = A.bc ∨ b = A.bm) (fun _ _ h => .inl h)) hok1
  have nF : ¬ F w.heap.size := fun h => by have := HFL.out _ h; omega
  have HI1 := Lib.hid (show ItkAt w1 F bi N (x.tick now) from hI1)
  have HM1 := Lib.hid (show ItkMem w1 bi A (x.tick now) from hM1)
  have HK1 := Lib.hid (show Keep F w w1 from (Keep.of_below (F := F) hbA).trans hK1 (fun _ _ h => h))
  have HE1 := Lib.hid (ev_out hK1 (by omega) nF HE0.out)
  have HMX1 := Lib.hid (HMX0.out.out hK1 HF0.out)
  have HO1 := Lib.hid hok1
  have hs1 := hK1.size
  clear hc1 hk1 hI1 hM1 hK1 hok1
  generalize x.tick now = y at *
  obtain ⟨e0, e1, e2, e3, e4, e5, e6, e7⟩ := HE1.out
  go_wp2_with fail
  refine (refused_any w1 F bi N y HI1.out (by omega) e hsm HMX1.out).mono ?_
  rintro r w2 ⟨rfl, hb2⟩
  have HI2 := Lib.hid (HI1.out.up hb2)
  have HM2 := Lib.hid (HM1.out.up hb2)
  have HK2 := Lib.hid (HK1.out.trans (Keep.of_below (F := F) hb2) (fun _ _ h => h))
  have HE2 := Lib.hid (HE1.out.below hb2 (by omega))
  have HMX2 := Lib.hid (HMX1.out.up hb2)
  have hs2 := hb2.size
  clear e0 e1 e2 e3 e4 e5 e6 e7 hb2
  cases href : y.refuses e
  · have HREF := Lib.hid href
    have hww : y.wrong e = false ∧ hadB y.had e.src e.num = false := by
      unfold Itk.refuses at href
      simpa using href
    have HMAY := Lib.hid (show mayB e = true by
      have := hww.1
      unfold Itk.wrong at this
      simp only [Bool.or_eq_false_iff, Bool.not_eq_false'] at this
      exact this.1.1)
    have HHAD := Lib.hid hww.2
    clear href hww
    obtain ⟨c0, c1, c2, c3, c4, c5, f2, f3, f4⟩ := HM2.out.cells
    obtain ⟨e0, e1, e2, e3, e4, e5, e6, e7⟩ := HE2.out
    go_wp2
    go_still_tail 9, (by kernel_rfl)
    change wpList _ _ _ _ _ (w2.drewN 1)
    have hbq : Below w2.heap.size w2 (w2.drewN 1) := below_drewN (Below.refl _ _) 1
    have hsq : (w2.drewN 1).heap.size = w2.heap.size := rfl
    clear e0 e1 e2 e3 e4 e5 e6 e7 c0 c1 c2 c3 c4 c5 f2 f3 f4
    generalize w2.drewN 1 = w3 at *
    have HM3 := Lib.hid (HM2.out.up hbq)
    have HE3 := Lib.hid (HE2.out.below hbq (by omega))
    have HK3 := Lib.hid (HK2.out.trans (Keep.of_below (F := F) hbq) (fun _ _ h => h))
    clear hbq
    go_wp2_with fail
    refine (hear_any w3 A.bc A.bm y.clk HM3.out.clk e.src e.at_ now (by have := HO1.out.src; omega)).mono ?_
    rintro r w4 ⟨rfl, hc4, hk4⟩
    have hok4 : ItkOk (N + 1) (y.hear e now) := HO1.out.hear e now
    obtain ⟨hI4, hM4, hK4⟩ := ItkAt.setClk (N := N) (M := N + 1) HM3.out hnl hng (by omega) HFO.out (fun b hb => by have := HFL.out b hb; omega) hc4 hk4 hok4
    have HI4 := Lib.hid (show ItkAt w4 F bi (N + 1) (y.hear e now) from hI4)
    have HM4 := Lib.hid (show ItkMem w4 bi A (y.hear e now) from hM4)
    have HK4 := Lib.hid (HK3.out.trans hK4 (fun _ _ h => h))
    have HE4 := Lib.hid (ev_out hK4 (by omega) nF HE3.out)
    have HO4 := Lib.hid hok4
    have hs4 := hK4.size
    have HH4 := Lib.hid (show (y.hear e now).had = y.had from rfl)
    clear hc4 hk4 hI4 hM4 hK4 hok4
    have HOF2 := Lib.hid (show x.offer e now = if (y.clk.tick now).hears e.src e.at_ then (y.hear e now).took e else (y.hear e now).lates e by rw [HOF.out, HREF.out]; rfl)
    have HOV2 := Lib.hid (show x.offered e now = if (y.clk.tick now).hears e.src e.at_ then 0 else 2 by rw [HOV.out, HREF.out]; rfl)
    generalize (y.clk.tick now).hears e.src e.at_ = ok at *
    generalize y.hear e now = z at *
    obtain ⟨e0, e1, e2, e3, e4, e5, e6, e7⟩ := HE4.out
    cases ok
    · have HV := Lib.hid (show x.offered e now = 2 by rw [HOV2.out]; rfl)
      have HR := Lib.hid (show x.offer e now = if idOf e ∈ z.late.map idOf then z else { z with late := z.late ++ [e] } by rw [HOF2.out]; rfl)
      go_wp2_with fail
      refine (ident_any w4 e).mono ?_
      rintro r w5 ⟨rfl, hb5⟩
      have hs5 := hb5.size
      clear e0 e1 e2 e3 e4 e5 e6 e7
      have hbI : Below w4.heap.size w4 (w5.alloc (.cells #[.string ⟨e.src.toArray⟩, .int .i64 e.num] 102)) := hb5.alloc hs5 _
      have hM6 := HM4.out.up hbI
      have hE6 := HE4.out.below hbI (by omega)
      have hI6 : ∀ o, (w5.alloc (.cells #[.string ⟨e.src.toArray⟩, .int .i64 e.num] 102)).cell? ⟨w5.heap.size, o, none⟩ = _ := fun o => cell_of_row _ w5.heap.size o _ _ (0, 0) (heap_alloc_new w5 _)
      have hI60 := (hI6 0).trans rfl
      have hI61 := (hI6 1).trans rfl
      have hs6 : (w5.alloc (.cells #[.string ⟨e.src.toArray⟩, .int .i64 e.num] 102)).heap.size = w5.heap.size + 1 := by simp
      have hlk6 : ∀ k, (Instr.lookup 81 (.map (some A.bl)) (.agg #[.string ⟨e.src.toArray⟩, .int .i64 e.num]) false).run Tryz.prog ((w5.alloc (.cells #[.string ⟨e.src.toArray⟩, .int .i64 e.num] 102)).drewN k) = .ok (.bool (decide ((e.src, e.num) ∈ z.late.map idOf))) ((w5.alloc (.cells #[.string ⟨e.src.toArray⟩, .int .i64 e.num] 102)).drewN k) := fun k =>
        (SetI.block (w' := (w5.alloc (.cells #[.string ⟨e.src.toArray⟩, .int .i64 e.num] 102)).drewN k) hM6.lates rfl).look e.src e.num (may_id HMAY.out)
      have hlk0 := hM6.lates.look e.src e.num (may_id HMAY.out)
      have hcells6 := hM6.cells
      have HM6 := Lib.hid hM6; have HE6 := Lib.hid hE6; have HI6 := Lib.hid (HI4.out.up hbI)
      have HK6 := Lib.hid (HK4.out.trans (Keep.of_below (F := F) hbI) (fun _ _ h => h))
      clear hI6 hM6 hE6 hb5 hbI
      obtain ⟨c0, c1, c2, c3, c4, c5, f2, f3, f4⟩ := hcells6
      go_wp2
      generalize w5.alloc (.cells #[.string ⟨e.src.toArray⟩, .int .i64 e.num] 102) = w6 at *
      have HRR := Lib.hid (show x.offer e now = if (e.src, e.num) ∈ z.late.map idOf then z else { z with late := z.late ++ [e] } from HR.out)
      cases hin : decide ((e.src, e.num) ∈ z.late.map idOf)
      · have HR2 := Lib.hid (show x.offer e now = { z with late := z.late ++ [e] } by rw [HRR.out, if_neg (of_decide_eq_false hin)])
        rw [hin] at hlk6 hlk0
        clear hin
        go_quiet (fail)
        have HM7 := Lib.hid (show ItkMem (w6.drewN nq) bi A z from HM6.out.keep (Nat.le_refl _) (fun _ _ => rfl))
        have HE7 := Lib.hid (show EvIn (w6.drewN nq) w.heap.size e from HE6.out)
        have HK7 := Lib.hid (HK6.out.drewN nq)
        have hs7 : (w6.drewN nq).heap.size = w6.heap.size := rfl
        have i0 : (w6.drewN nq).cell? ⟨w5.heap.size, 0, none⟩ = _ := hI60
        have i1 : (w6.drewN nq).cell? ⟨w5.heap.size, 1, none⟩ = _ := hI61
        clear hlk6 hlk0 hI60 hI61 c0 c1 c2 c3 c4 c5 f2 f3 f4
        generalize w6.drewN nq = w7 at *
        obtain ⟨c0, c1, c2, c3, c4, c5, f2, f3, f4⟩ := HM7.out.cells
        go_wp2
        go_still_tail 5, (by kernel_rfl)
        change wpList _ _ _ _ _ (w7.drewN 1)
        have HS7 := Lib.hid (SetI.block (w' := w7.drewN 1) HM7.out.lates rfl)
        refine wpList_idput rfl (.tmp 47) (.tmp 48) _ rfl A.bl A.nl (z.late.map idOf) rfl HS7.out (by unfold maxLen; omega) e.src e.num rfl (may_id HMAY.out) rfl ?_
        intro w8 hs8 hg8
        have hg8' : w7.grownBy w8 (some A.bl) := ⟨hg8.os, hg8.tape, hg8.output, hg8.size, hg8.block⟩
        have hsz8 := hg8'.size
        have hbl8 := HM.out.lates.lt
        have hbi7 := HM7.out.lt (.inl rfl : A.foot bi bi)
        have hbi8 : w8.heap[bi]? = some (itkObj A) := (hg8'.block bi hbi7 (fun q => HM7.out.il (by injection q))).trans HM7.out.blk
        have hE8 : EvIn w8 w.heap.size e := ev_out (F := fun b => b = A.bl) (Keep.of_grown hg8' (fun k h => by injection h with h; exact h.symm)) (by omega) (by omega) HE7.out
        have hol8 : OwnE w8 0 A.vl z.late := HM7.out.late.keep fun b hb => hg8'.block b (HM7.out.late.lt hb) (fun q => (HM7.out.ev (HM7.out.late.typ hb)).2.2.2.2.1 (by injection q))
        obtain ⟨B, cp, hvl, hcm⟩ := hol8.form
        have HS8 := Lib.hid hs8; have HG8 := Lib.hid hg8'; have HOL8 := Lib.hid hol8; have HBI8 := Lib.hid hbi8
        have HK8 := Lib.hid (HK7.out.trans (Keep.of_grown (F := F) hg8' (fun k h => by injection h with h; exact HFO.out k (.inr (.inr (.inr (.inr (.inr (.inr (.inl h.symm))))))))) (fun _ _ h => h))
        clear hs8 hg8 hg8' hol8 hbi8 i0 i1 c0 c1 c2 c3 c4 c5 f2 f3 f4
        obtain ⟨e0, e1, e2, e3, e4, e5, e6, e7⟩ := hE8
        have hc3 : w8.cell? ⟨bi, 3, none⟩ = some (.slice B z.late.length cp) := by rw [← hvl]; exact (cell_of_row w8 bi 3 _ _ (0, 0) HBI8.out).trans rfl
        have hbi8' : bi < w8.heap.size := by omega
        have hw8 : w.heap.size < w8.heap.size := by omega
        obtain ⟨i0, hi0, hz0, hzs, hzb⟩ := info_parts ev_info
        have hbB : Below w8.heap.size w8 (w8.alloc (evObj e)).drew := ((Below.refl _ _).alloc (Nat.le_refl _) _).drew
        have hownW : OwnE (w8.alloc (evObj e)).drew 0 (.slice B z.late.length cp) z.late := by
          have := HOL8.out.keep (w' := (w8.alloc (evObj e)).drew) (fun b hb => hbB.block b (HOL8.out.lt hb))
          rw [hvl] at this; exact this
        have hcel : Cel (w8.alloc (evObj e)).drew (w8.heap.size + 1) 8 (some ⟨w8.heap.size, 0, none⟩) 1 1 e.cells := by
          have := Cel.new (n := 1) (size := 8) w8 e.cells.toArray 31 (by unfold maxLen; omega) rfl
          exact Cel.keep (w' := (w8.alloc (evObj e)).drew) this (fun _ _ => rfl)
        have hap := fun ty => run_app (P := Tryz.prog) (w8.alloc (evObj e)).drew 22 ty 31 i0 _ 8 96 Tryz.underlying22 hi0 hz0 hzs hzb rfl (by decide) 0 _ z.late.length (evCells z.late) hownW (w8.heap.size + 1) _ 1 1 e.cells hcel (cells_one e) (by have := HO4.out.late; unfold maxLen; omega) (by have := HO4.out.late; omega) (Nat.zero_le _)
        obtain ⟨v9, w9, hr9, ho9, hg9, hb9⟩ := hap 22
        obtain ⟨B9, cp9, rfl⟩ := ownsRow_form ho9
        clear hap
        have nbi : (Value.slice B z.late.length cp).ownBlock ≠ some bi := fun h => by
          rw [← hvl] at h
          exact (HM7.out.ev (HM7.out.late.typ h)).1 rfl
        have hg89 : w8.grownBy w9 A.vl.ownBlock := by
          rw [hvl]
          have := (show w8.grownBy (w8.alloc (evObj e)).drew none from ⟨hbB.os, hbB.tape, hbB.output, hbB.size, fun i hi _ => hbB.block i hi⟩)
          exact (this.but _).andThen hg9 (fun j hj => .inr hj)
        have hbi9 : w9.heap[bi]? = some (itkObj A) := (hg89.block bi hbi8' (by rw [hvl]; exact Ne.symm nbi)).trans HBI8.out
        have hc93 : w9.cell? ⟨bi, 3, none⟩ = some (.slice B z.late.length cp) := by rw [← hvl]; exact (cell_of_row w9 bi 3 _ _ (0, 0) hbi9).trans rfl
        have hf93 : w9.frozen? ⟨bi, 3, none⟩ = false := frozen_of_row w9 bi 3 _ _ hbi9
        have HOL9 := Lib.hid (show OwnE w9 0 (.slice B9 (z.late.length + 1) cp9) (z.late ++ [e]) by
          unfold OwnE
          rw [evCells_one, List.length_append]
          exact ho9)
        have HBB9 := Lib.hid (show (Value.slice B9 (z.late.length + 1) cp9).ownBlock = A.vl.ownBlock ∨ ∃ k, (Value.slice B9 (z.late.length + 1) cp9).ownBlock = some k ∧ w8.heap.size ≤ k by
          rw [hvl]
          exact hb9.imp id (fun h => ⟨_, h, hbB.size⟩))
        have HG89 := Lib.hid hg89
        have HCUT := Lib.hid (show w9.setCell ⟨bi, 3, none⟩ (.slice B9 (z.late.length + 1) cp9) = w9.setCell ⟨bi, 3, none⟩ (.slice B9 (z.late.length + 1) cp9) from rfl)
        clear ho9 hg9 hb9 hg89 hbi9 nbi hcel hownW hbB hi0 hz0 hzs hzb
        have HR9 := Lib.hid hr9
        clear hr9
        go_wp2
        go_region_law (refine step_run_append rfl (.tmp 53) (.tmp 55) 22 rfl (.slice B z.late.length cp) (.slice (some ⟨w8.heap.size, 0, none⟩) 1 1) (by simp [Act.eval]) (by simp [Act.eval]) HR9.out ?_)
        all_goals
          have HMF := Lib.hid (HM7.out.setLate HS8.out HG8.out HG89.out HOL9.out HBB9.out)
          clear hc93 hf93 hc3 e0 e1 e2 e3 e4 e5 e6 e7
          have hs9 := HG89.out.size
          go_wp2
          go_ret
          refine ⟨ret_int HV.out.symm, fun b => F b ∨ (w.heap.size ≤ b ∧ b < (w9.setCell ⟨bi, 3, none⟩ (.slice B9 (z.late.length + 1) cp9)).heap.size), ⟨_, by rw [HR2.out]; exact HMF.out, by rw [HR2.out]; exact HO4.out.later HMAY.out, by show A.nl + 1 ≤ _; omega, by show A.ng ≤ _; omega, fun b hb => ?_, fun b hb => ?_⟩, ?_, fun b hb => hb.imp id (fun h => h.1)⟩
          · have hfo := HFO.out b
            have hltb := HMF.out.lt hb
            rcases hb with rfl | rfl | rfl | hb | hb | hb | rfl | rfl
            · exact .inl (hfo (.inl rfl))
            · exact .inl (hfo (.inr (.inl rfl)))
            · exact .inl (hfo (.inr (.inr (.inl rfl))))
            · exact .inl (hfo (.inr (.inr (.inr (.inl hb)))))
            · exact .inl (hfo (.inr (.inr (.inr (.inr (.inl hb))))))
            · rcases HBB9.out with q | ⟨k, q, hk⟩
              · exact .inl (hfo (.inr (.inr (.inr (.inr (.inr (.inl (q ▸ hb))))))))
              · right
                have hb' : (Value.slice B9 (z.late.length + 1) cp9).ownBlock = some b := hb
                rw [q] at hb'; injection hb' with hb'
                exact ⟨by omega, hltb⟩
            · exact .inl (hfo (.inr (.inr (.inr (.inr (.inr (.inr (.inl rfl))))))))
            · exact .inl (hfo (.inr (.inr (.inr (.inr (.inr (.inr (.inr rfl))))))))
          · rcases hb with hb | hb
            · have := HFL.out b hb; simp [World.setCell]; omega
            · exact hb.2
          · exact (HK8.out.trans (Keep.of_grown (F := F) HG89.out (fun k h => HFO.out k (.inr (.inr (.inr (.inr (.inr (.inl h)))))))) (fun _ _ h => h)).setCell (fun _ => HFO.out bi (.inl rfl)) _
      · have HR2 := Lib.hid (show x.offer e now = z by rw [HRR.out, if_pos (of_decide_eq_true hin)])
        rw [hin] at hlk6 hlk0
        clear hin
        go_quiet (fail)
        go_wp2
        go_ret
        exact ⟨ret_int HV.out.symm, F, by rw [HR2.out]; exact (HI6.out.keep (w' := w6.drewN nq) (Nat.le_refl _) (fun _ _ => rfl)).more (by omega), HK6.out.drewN _, fun b hb => .inl hb⟩
    · have HR := Lib.hid (show x.offer e now = z.took e by rw [HOF2.out]; rfl)
      have HV := Lib.hid (show x.offered e now = 0 by rw [HOV2.out]; rfl)
      go_wp2_with fail
      refine (take_any w4 F bi (N + 1) z HI4.out (by omega) e hsm HMAY.out (by rw [HH4.out]; exact HHAD.out)).mono ?_
      rintro r w5 ⟨rfl, F5, hI5, hK5, hF5⟩
      have HI5 := Lib.hid hI5
      have HD := Lib.hid (show Deeds w F bi (N + 2) (x.offer e now) w5 from ⟨F5, by rw [HR.out]; exact hI5, HK4.out.trans hK5 (fun _ _ h => h), fun b hb => (hF5 b hb).imp id (fun h => by omega)⟩)
      clear hI5 hK5 hF5 e0 e1 e2 e3 e4 e5 e6 e7
      go_wp2
      go_ret
      exact ⟨ret_int HV.out.symm, HD.out⟩
  · have HR := Lib.hid (show x.offer e now = y by rw [HOF.out, href]; rfl)
    have HV := Lib.hid (show x.offered e now = y.verdict e by rw [HOV.out, href]; rfl)
    clear href
    go_wp2
    go_ret
    refine ⟨ret_int HV.out.symm, F, by rw [HR.out]; exact HI2.out.more (by omega), HK2.out, fun b hb => .inl hb⟩
end Go.Proofs.YtbejfgmdkmddnaaGreatDoor
namespace Go.Proofs.YtbejfgmdkmddnaaGreatDoor
open Go.RowKit Go.Maps Go.Sort Go.Shelf

theorem sn_small {es : List Ev} (h : es.any (fun d => bigB d 300) = false) : ∀ e ∈ es, e.small := fun e he => by
  rw [List.any_eq_false] at h
  have := h e he
  unfold bigB at this
  simp only [Bool.or_eq_true, decide_eq_true_eq, not_or, Int.not_lt] at this
  exact ⟨by omega, by omega, by omega, by omega⟩
theorem ItkAt.admGood {w : World} {F : Nat → Prop} {bi N : Nat} {slack idle : Int} {l : List Ev} (h : ItkAt w F bi N (admAll (Itk.new slack idle) l)) (hl : l.length ≤ N) : PtGood N (admAll (Itk.new slack idle) l) := by
  obtain ⟨A, hM, hO, _⟩ := h
  exact PtGood.adm rfl hO hM.clk.ok hl
theorem OwnB.stored30 {w : World} {base g n c : Nat} {l : List UInt8} (h : OwnB w base (.slice (some ⟨g, 0, none⟩) n c) l) (i : Nat) (y : UInt8) (hn : l.length = n) :
    OwnB (w.setCell ⟨g, i, none⟩ (.int .u8 y.toNat)) base (.slice (some ⟨g, 0, none⟩) n c) (l.set i y) ∧ w.grownBy (w.setCell ⟨g, i, none⟩ (.int .u8 y.toNat)) (some g) := by
  subst hn
  obtain ⟨h1, h2⟩ := World.ownsRow.stored h i (.int .u8 y.toNat)
  refine ⟨?_, h2⟩
  unfold OwnB
  rw [List.length_set]
  have : bvs (l.set i y) = (bvs l).set i (.int .u8 y.toNat) := by simp [bvs, List.map_set]
  rw [this]
  exact h1
theorem OwnB.head30 {w : World} {base : Nat} {v : Value} {l : List UInt8} (h : OwnB w base v l) (hp : 0 < l.length) : ∃ g c, v = .slice (some ⟨g, 0, none⟩) l.length c ∧ base ≤ g ∧ g < w.heap.size := by
  rcases h.2 with ⟨e, hl⟩ | ⟨g, cap, cur, e, hb, hg, _⟩
  · omega
  · exact ⟨g, cap, e, hb, (Array.getElem?_eq_some_iff.1 hg).1⟩
def ev0 (e : Ev) : Dd := ⟨0, e, 0, []⟩
/-- an intake behind offers at time 0 -/
def offX (slack : Int) (l : List Ev) : Itk := Itk.grown slack 0 (l.map ev0)
theorem offX_take (slack : Int) (l : List Ev) (k : Nat) (hk : k < l.length) : offX slack (l.take (k + 1)) = (offX slack (l.take k)).offer l[k] 0 := by
  unfold offX
  rw [List.take_add_one, List.getElem?_eq_getElem hk, Option.toList_some, List.map_append]
  show Itk.grown slack 0 (List.map ev0 (l.take k) ++ [ev0 l[k]]) = _
  rw [grown_snoc]
  unfold Itk.deed
  rw [if_pos (by show (0 : Int) < 4; decide)]
  rfl
theorem ItkAt.offGood {w : World} {F : Nat → Prop} {bi N : Nat} {slack : Int} {l : List Ev} (h : ItkAt w F bi N (offX slack l)) (hl : l.length ≤ N) : PtGood N (offX slack l) := PtGood.grown h (by simpa using hl)
def OfR (w : World) (bi : Nat) (slack : Int) (ds : List Ev) (i : Value) (wr : World) : Prop := ∃ (k : Nat) (F : Nat → Prop), i = .int .i64 k ∧ k ≤ ds.length ∧ ItkAt wr F bi (2 * k) (offX slack (ds.take k)) ∧ Below w.heap.size w wr ∧ ∀ b, F b → w.heap.size ≤ b
end Go.Proofs.YtbejfgmdkmddnaaGreatDoor
