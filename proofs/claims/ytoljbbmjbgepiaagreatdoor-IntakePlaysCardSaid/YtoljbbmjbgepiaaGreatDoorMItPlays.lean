/-
  The law IntakePlays, walked.
-/
import Derived.Test.YtoljbbmjbgepiaaGreatDoorMGrown
import Derived.Test.YtoljbbmjbgepiaaGreatDoorMItkSet
namespace Go.Proofs.YtoljbbmjbgepiaaGreatDoor
open Go.RowKit Go.Maps Go.Sort Go.Shelf

set_option maxRecDepth 100000 in
set_option maxHeartbeats 4000000 in
theorem plays_any (w : World) (slack idle : Int) (A : Option Addr) (n c : Nat) (ds : List Dd) (h : Dds w w.heap.size A n c ds) (hn : n ≤ 140737488355328) (hkd : ∀ d ∈ ds, 0 ≤ d.kind ∧ d.kind ≤ 255) (hmx : MaxAt w) :
    Calls Tryz.prog 5 #[.int .i64 slack, .int .i64 idle, .slice A n c] w (Says true w) := by
  have HH := Lib.hid h; clear h
  have HKD := Lib.hid hkd; clear hkd
  have HMX := Lib.hid hmx; clear hmx
  go_enter Tryz.func5, Tryz.ntmps5
  go_wp2_with fail
  refine (lives_any w HMX.out).mono ?_
  rintro r w1 ⟨rfl, hb1⟩
  have hs1 := hb1.size
  have hHH1 : Dds w1 w1.heap.size A n c ds := Cel.more (Cel.below HH.out hb1) hs1
  go_wp2_with fail
  refine (heavy_any w1 A n c ds hHH1 hn 30).mono ?_
  rintro r w2 ⟨rfl, hb2⟩
  have hbw2 : Below w.heap.size w w2 := hb1.trans (hb2.mono hs1)
  clear hb2 hb1 hHH1
  cases hhv : heavyB ds 30
  case true =>
    clear hhv
    go_wp2
    go_ret
    exact ⟨rfl, hbw2⟩
  obtain ⟨hl, hsm⟩ := heavy_smallN (m := 30) hhv
  have HSM := Lib.hid hsm
  have hlen := HH.out.len
  have hn30 : n ≤ 30 := by omega
  have HH2 := Lib.hid (show Dds w2 w2.heap.size A n c ds from Cel.more (Cel.below HH.out hbw2) hbw2.size)
  clear hhv hsm hlen hl
  go_wp2_with fail
  refine (grown_any w2 slack idle A n c ds HH2.out (by omega) HSM.out HKD.out (HMX.out.up hbw2)).mono ?_
  rintro r w3 ⟨F, S, bi, bm, bc, rfl, hB⟩
  have hbw3 : Below w.heap.size w w3 := hbw2.trans (hB.bel.mono hbw2.size)
  clear hB
  go_wp2
  go_ret
  exact ⟨rfl, hbw3⟩
end Go.Proofs.YtoljbbmjbgepiaaGreatDoor
