/-
  Layer 3: the document's Seal (ciceroneref03).
-/
import Derived.Test.YtdnbejhaocpacaaFrmRef
namespace Go.Proofs.Ytdnbejhaocpacaa
open Go.RowKit

theorem conv3d (w : World) (x y z : Int) : (convert 22 9 (.slice (some ⟨w.heap.size, 0, none⟩) 3 3)).run Try.prog (w.alloc (.cells #[.int .u8 x, .int .u8 y, .int .u8 z] 5)).drew =
    .ok (.string ⟨[UInt8.ofNat x.toNat, UInt8.ofNat y.toNat, UInt8.ofNat z.toNat].toArray⟩) (w.alloc (.cells #[.int .u8 x, .int .u8 y, .int .u8 z] 5)).drew := by
  have := run_convert_bytes_arg (P := Try.prog) (w.alloc (.cells #[.int .u8 x, .int .u8 y, .int .u8 z] 5)).drew 22 5 Try.underlying22 Try.underlying5 w.heap.size 0 3 3 [x, y, z] rfl (fun i hi => by
    show (w.alloc (.cells #[.int .u8 x, .int .u8 y, .int .u8 z] 5)).cell? _ = _
    rw [cell_of_row _ w.heap.size _ #[.int .u8 x, .int .u8 y, .int .u8 z] 5 (0, 0) (heap_alloc_new w _)]
    have : i = 0 ∨ i = 1 ∨ i = 2 := by omega
    rcases this with rfl | rfl | rfl <;> rfl) 9 Try.underlying9
  rw [this]
  simp [strOfNums]

theorem ofNat_255_sub (a : UInt8) : UInt8.ofNat (255 - a.toNat) = 255 - a := by
  apply UInt8.toNat_inj.1
  have := a.toNat_lt
  rw [Frm.sub255]
  simp
  omega

theorem rseal_long (w : World) (l : List UInt8) (hn : 65536 < l.length) (hm : l.length ≤ 1000000) :
    Calls Try.prog 12 #[.string ⟨l.toArray⟩] w fun e w' => e = .returned (.tuple #[.string ⟨#[]⟩, .bool false]) ∧ w = w' := by
  go_enter Try.func12, Try.ntmps12
  go_wp2
  go_ret2
  exact ⟨rfl, rfl⟩

set_option maxHeartbeats 1000000 in
theorem rseal_any (w : World) (l : List UInt8) (hn : l.length ≤ 65536) :
    Calls Try.prog 12 #[.string ⟨l.toArray⟩] w fun e w' => e = .returned (.tuple #[.string ⟨(Frm.sealB l).toArray⟩, .bool true]) ∧ Below w.heap.size w w' := by
  have kc := fun w x y z => conv3d w x y z
  have d1 : decide (65536 < (l.length : Int)) = false := decide_eq_false (by omega)
  go_enter Try.func12, Try.ntmps12
  go_wp2_with fail
  refine (num_any w l.length 3 (by omega) (by omega)).mono ?_
  rintro e w1 ⟨rfl, hb1⟩
  have hf : Frm.front l = [Frm.u8 (l.length / 65536), Frm.u8 (l.length / 256), Frm.u8 l.length] ++ [255 - Frm.u8 (l.length / 65536), 255 - Frm.u8 (l.length / 256), 255 - Frm.u8 l.length] ++ l := rfl
  rw [lowB3]
  unfold Frm.be3
  generalize Frm.u8 (l.length / 65536) = a at *
  generalize Frm.u8 (l.length / 256) = b at *
  generalize Frm.u8 l.length = c at *
  have HF := Lib.hid hf; clear hf
  have ha := a.toNat_lt; have hb := b.toNat_lt; have hc := c.toNat_lt
  have g0 : (⟨#[a, b, c]⟩ : ByteArray)[0]'(by show 0 < 3; decide) = a := rfl
  have g1 : (⟨#[a, b, c]⟩ : ByteArray)[1]'(by show 1 < 3; decide) = b := rfl
  have g2 : (⟨#[a, b, c]⟩ : ByteArray)[2]'(by show 2 < 3; decide) = c := rfl
  go_wp2_with fail
  go_region
  have hs : (⟨#[a, b, c]⟩ : ByteArray) ++ ⟨#[UInt8.ofNat (255 - a.toNat), UInt8.ofNat (255 - b.toNat), UInt8.ofNat (255 - c.toNat)]⟩ ++ ⟨l.toArray⟩ = ⟨(Frm.front l).toArray⟩ := by
    have e1 := str_app [a, b, c] [255 - a, 255 - b, 255 - c]
    have e2 := str_app ([a, b, c] ++ [255 - a, 255 - b, 255 - c]) l
    rw [HF.out, ← e2, ← e1, ofNat_255_sub, ofNat_255_sub, ofNat_255_sub]
  rw [hs]
  have hfl := Frm.front_length l
  have hlt := Frm.asum_lt (Frm.front l)
  have HFL := Lib.hid hfl
  have hfle : (Frm.front l).length ≤ 65542 := by omega
  clear hfl g0 g1 g2 kc hs
  have hb2 : Below w.heap.size w (w1.alloc (Obj.cells #[Value.int IntKind.u8 (255 - ↑a.toNat), Value.int IntKind.u8 (255 - ↑b.toNat), Value.int IntKind.u8 (255 - ↑c.toNat)] 5)).drew := (hb1.alloc hb1.size _).drew
  generalize (w1.alloc (Obj.cells #[Value.int IntKind.u8 (255 - ↑a.toNat), Value.int IntKind.u8 (255 - ↑b.toNat), Value.int IntKind.u8 (255 - ↑c.toNat)] 5)).drew = w2 at *
  go_wp2_with fail
  refine (rsum_any w2 (Frm.front l) (by omega)).mono ?_
  rintro e w3 ⟨rfl, rfl⟩
  go_wp2_with fail
  refine (num_any w2 (Frm.asum (Frm.front l)) 4 hlt (by omega)).mono ?_
  rintro e w3 ⟨rfl, hb3⟩
  rw [lowB4]
  have h4 : (Frm.be4 (Frm.asum (Frm.front l))).length = 4 := rfl
  go_wp2
  go_ret2
  refine ⟨?_, hb2.trans (hb3.mono hb2.size)⟩
  have := str_app (Frm.front l) (Frm.be4 (Frm.asum (Frm.front l)))
  unfold Frm.sealB
  rw [← this]
  rfl
end Go.Proofs.Ytdnbejhaocpacaa
