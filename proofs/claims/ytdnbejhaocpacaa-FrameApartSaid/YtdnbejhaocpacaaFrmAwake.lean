/-
  Layer 3: the document's example (awake), and the law FrameCuts, walked.
-/
import Derived.Test.YtdnbejhaocpacaaFrmOpen
import Derived.Test.YtdnbejhaocpacaaFrmSeal
import Derived.Test.YtdnbejhaocpacaaFrmLaw
namespace Go.Proofs.Ytdnbejhaocpacaa
open Go.RowKit

def exB : List UInt8 := [0, 0, 0, 255, 255, 255, 6, 0, 2, 254]
theorem sealB_nil : Frm.sealB [] = exB := by decide
theorem openB_ex : Frm.openB exB = ([], 10, 0) := by decide

/-- it gives b, and changes nothing that was there -/
def Says (b : Bool) (w : World) (e : Ending) (w' : World) : Prop := e = .returned (.bool b) ∧ Below w.heap.size w w'

theorem exB_cells : #[Value.int IntKind.u8 0, Value.int IntKind.u8 0, Value.int IntKind.u8 0, Value.int IntKind.u8 255, Value.int IntKind.u8 255, Value.int IntKind.u8 255, Value.int IntKind.u8 6, Value.int IntKind.u8 0, Value.int IntKind.u8 2, Value.int IntKind.u8 254] = (exB.map fun x => Value.int .u8 x.toNat).toArray := by
  simp [exB]

set_option maxHeartbeats 1000000 in
theorem awake_any (w : World) : Calls Try.prog 10 #[] w (Says true w) := by
  have kc := fun (w : World) (C : Array Value) (n c : Nat) => Lib.run_convert_bytes_const (P := Try.prog) w 22 5 C n c Try.underlying22 Try.underlying5
  go_enter Try.func10, Try.ntmps10
  go_wp2_with fail
  refine (seal_any w none 0 0 [] (Byt.nil _ _ _ _ (by unfold maxLen; omega)) (by omega)).mono ?_
  rintro e w1 ⟨v, rfl, hown, hb1⟩
  rw [sealB_nil] at hown
  obtain ⟨A1, c1, hv⟩ := hown.form
  rw [show exB.length = 10 from rfl] at hv
  subst hv
  have HO := Lib.hid hown; clear hown
  go_wp2_with fail
  refine (open_any _ _ 10 10 exB ((Byt.new w1 _ _ _ exB_cells 10 rfl (by unfold maxLen; omega) _).more (by simp)) (by omega)).mono ?_
  rintro e w2 ⟨v2, rfl, hown2, hb2⟩
  rw [openB_ex] at *
  obtain ⟨A2, c2, hv2⟩ := hown2.form
  subst hv2
  have hb1' : Below w1.heap.size w1 w2 := ((Below.refl _ _).alloc (Nat.le_refl _) _).trans (hb2.mono (by simp))
  have hst := ((HO.out.byt).below hb1').str (P := Try.prog) 22 5 9 Try.underlying22 Try.underlying5 Try.underlying9
  clear hown2 kc hb2
  go_wp2
  go_ret
  exact ⟨rfl, hb1.trans (hb1'.mono hb1.size)⟩

set_option maxHeartbeats 1000000 in
theorem cuts_any (w : World) (A : Option Addr) (n c : Nat) (l : List UInt8) (h : Byt w w.heap.size A n c l) (cut : Int) (h1 : -9223372036854775808 ≤ cut) (h2 : cut ≤ 9223372036854775807) :
    Calls Try.prog 4 #[.slice A n c, .int .i64 cut] w (Says true w) := by
  have hmax := h.max
  have hcap := h.cap
  unfold maxLen at hmax
  have HH := Lib.hid h; clear h
  go_enter Try.func4, Try.ntmps4
  go_wp2_with fail
  refine (awake_any w).mono ?_
  rintro e w1 ⟨rfl, hb1⟩
  by_cases hn : 5000 < n
  · go_wp2
    go_ret
    exact ⟨rfl, hb1⟩
  · go_wp2_with fail
    refine (seal_any w1 A n c l ((HH.out.below hb1).more hb1.size) (by omega)).mono ?_
    rintro e w2 ⟨v, rfl, hown, hb2⟩
    obtain ⟨A2, c2, hv⟩ := hown.form
    rw [Frm.sealB_length, HH.out.len] at hv
    subst hv
    have HB := Lib.hid hown.byt; clear hown
    have hbw : Below w.heap.size w w2 := hb1.trans (hb2.mono hb1.size)
    obtain ⟨b, off, rfl, hb, _⟩ := HB.out.cell (by omega)
    have hc2 := HB.out.cap
    have hm2 := HB.out.max
    unfold maxLen at hm2
    by_cases hc0 : cut < 0
    · go_wp2
      go_ret
      exact ⟨rfl, hbw⟩
    · by_cases hc1 : ((n + 10 : Nat) : Int) ≤ cut
      · go_wp2
        go_ret
        exact ⟨rfl, hbw⟩
      · obtain ⟨k, rfl⟩ := Int.eq_ofNat_of_zero_le (by omega : 0 ≤ cut)
        have hk : k < n + 10 := by omega
        have hcut : Hid (Byt w2 w2.heap.size (some ⟨b, off, none⟩) k c2 ((Frm.sealB l).take k)) := by
          have := HB.out.cut 0 k (by omega); unfold Hid; simpa using this
        go_wp2_with fail
        refine (open_any w2 _ k c2 _ hcut.out (by omega)).mono ?_
        rintro e w3 ⟨v3, rfl, hown3, hb3⟩
        rw [Frm.openB_cut l (by rw [HH.out.len]; omega) k (by rw [HH.out.len]; omega)] at *
        obtain ⟨A3, c3, hv3⟩ := hown3.form
        subst hv3
        clear hown3
        go_wp2
        go_ret
        exact ⟨rfl, hbw.trans (hb3.mono hbw.size)⟩
end Go.Proofs.Ytdnbejhaocpacaa
