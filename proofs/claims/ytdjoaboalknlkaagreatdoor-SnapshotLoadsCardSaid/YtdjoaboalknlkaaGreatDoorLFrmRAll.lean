/-
  Layer 3 (All alone): the document's All and Texts (ciceroneref03).
-/
import Derived.Test.YtdjoaboalknlkaaGreatDoorLFrmRefOpen
import Derived.Test.YtdjoaboalknlkaaGreatDoorLSets
namespace Go.Proofs.YtdjoaboalknlkaaGreatDoor
open Go.RowKit

theorem strInfoA : (Tryz.prog.info? 9).map (fun i => (i.zero, i.size, i.bytes)) = some (some (.string ByteArray.empty), 1, 16) := by kernel_rfl
def strVsA (ps : List (List UInt8)) : List Value := ps.map fun p => Value.string ⟨p.toArray⟩

def RAllPost (w : World) (l : List UInt8) (e : Ending) (w' : World) : Prop :=
  ∃ v, e = .returned (.tuple #[v, .int .i64 (Frm.allB l).2.1, .int .i64 (Frm.allB l).2.2]) ∧ w'.ownsRow w.heap.size 9 1 v (Frm.allB l).1.length (strVsA (Frm.allB l).1) ∧ Below w.heap.size w w'

def RAllRel (w : World) (l : List UInt8) (v i : Value) (wr : World) : Prop :=
  ∃ (k : Nat) (ps : List (List UInt8)), i = .int .i64 k ∧ k ≤ l.length ∧ ps.length ≤ k ∧ wr.ownsRow w.heap.size 9 1 v ps.length (strVsA ps) ∧ Below w.heap.size w wr ∧
    Frm.allB l = (ps ++ (Frm.allB (l.drop k)).1, k + (Frm.allB (l.drop k)).2.1, (Frm.allB (l.drop k)).2.2)

set_option maxRecDepth 100000 in
set_option maxHeartbeats 4000000 in
theorem rall_any (w : World) (l : List UInt8) (hn : l.length ≤ 1000000) :
    Calls Tryz.prog 6 #[.string ⟨l.toArray⟩] w (RAllPost w l) := by
  obtain ⟨i0, hi, hz0, hz1, hz2⟩ := info_parts strInfoA
  have HI := Lib.hid hi; have HZ0 := Lib.hid hz0; have HZ1 := Lib.hid hz1; have HZ2 := Lib.hid hz2
  clear hi hz0 hz1 hz2
  go_enter Tryz.func6, Tryz.ntmps6
  go_wp2
  go_loopw [5, 6] (fun v i wr => RAllRel w l v i wr) (fun _ i _ => l.length - (intOf i).toNat)
  case atStart => exact ⟨0, [], rfl, Nat.zero_le _, Nat.le_refl _, World.ownsRow_nil _ _ _ _, Below.refl _ _, by simp⟩
  case round =>
    obtain ⟨k, ps, rfl, hk, hpk, hown, hbel, hall⟩ := hrel
    have HO := Lib.hid hown; have HA := Lib.hid hall
    clear hown hall
    have hsz := hbel.size
    by_cases hkn : k < l.length
    · have hlen : (l.drop k).length = l.length - k := by rw [List.length_drop]
      have hne : l.drop k ≠ [] := fun e => by rw [e] at hlen; simp at hlen; omega
      have HN := Lib.hid hne; clear hne
      have HLn := Lib.hid hlen; clear hlen
      have r1 : ∀ w, (Instr.slice 9 (.string ⟨l.toArray⟩) (some (.int .i64 (k : Int))) none none).run Tryz.prog w = .ok (.string ⟨(l.drop k).toArray⟩) w := fun w => by
        rw [run_slice_string_from_if w 9 ⟨l.toArray⟩ .i64 k Tryz.underlying9, if_pos ⟨by omega, by simpa [ByteArray.size] using (by omega : k ≤ l.length)⟩, str_cut]
        simp [ByteArray.size, List.take_of_length_le]
      go_wp2_with fail
      refine (ropen_any wr (l.drop k) (by rw [HLn.out]; omega)).mono ?_
      clear r1
      rintro e w1 ⟨rfl, kq, rfl⟩
      have H10 := Lib.hid (Frm.openB_pos (l.drop k))
      have hle := Frm.openB_le (l.drop k)
      have HST := Lib.hid (Frm.allB_stop (l.drop k) HN.out)
      have HGO := Lib.hid (Frm.allB_go (l.drop k) HN.out)
      rw [HLn.out] at hle
      generalize hq : Frm.openB (l.drop k) = r at *
      obtain ⟨q, m, st⟩ := r
      clear hq
      dsimp only at *
      by_cases hst : st = 0
      · subst hst
        have hm10 : 10 ≤ m := H10.out rfl
        have hgo := HGO.out rfl
        rw [List.drop_drop] at hgo
        have HG := Lib.hid hgo; clear hgo
        go_wp2_with (at_builtin; refine wpList_app (P := Tryz.prog) rfl (.tmp 27) (.tmp 29) 28 rfl 9 i0 (.string ByteArray.empty) 1 16 Tryz.underlying28 HI.out HZ0.out HZ1.out HZ2.out rfl (by decide) w.heap.size _ ps.length (strVsA ps) rfl ?c1 (wr.heap.size + 1) _ _ _ [.string ⟨q.toArray⟩] rfl ?c2 ?c3 ?c4 ?c5 ?c6 ?_)
        case c1 => exact World.ownsRow.alloc (w := wr.drewN kq) HO.out _
        case c2 => exact Cel.new (wr.drewN kq) #[.string ⟨q.toArray⟩] _ (by unfold maxLen; omega) rfl
        case c3 => simp [Value.oneCell']
        case c4 => unfold maxLen; omega
        case c5 => omega
        case c6 => first | omega | (simp; omega)
        intro v' w2 hown2 hg2 hat2
        have hb2 : Below w.heap.size w w2 := Below.grown ((below_drewN hbel kq).alloc (by simp; omega) (Obj.cells #[.string ⟨q.toArray⟩] 9)) hg2 (by simp; omega) (fun k' hk' => (HO.out.lt k' hk').1)
        have HO2 := Lib.hid hown2
        have HBel2 := Lib.hid hb2
        clear hown2 hg2 hat2 hb2
        go_wp2
        go_roundw
        case rel =>
          refine ⟨k + m, ps ++ [q], by go_num, by omega, by simp; omega, ?_, HBel2.out, ?_⟩
          · have e : strVsA (ps ++ [q]) = strVsA ps ++ [.string ⟨q.toArray⟩] := by simp [strVsA]
            rw [List.length_append, e]; exact HO2.out
          · rw [HA.out, HG.out]
            simp [Nat.add_assoc]
        case measure => simp [intOf]; omega
      · have hs' : ((st : Int) != 0) = true := by simp; omega
        have hstop := HST.out hst
        have HSP := Lib.hid hstop; clear hstop
        go_wp2
        go_ret3
        refine ⟨u5, ?_, ?_, below_drewN hbel _⟩
        · rw [HA.out, HSP.out]; rfl
        · rw [HA.out, HSP.out, List.append_nil]; exact HO.out
    · have hk' : l.drop k = [] := List.drop_eq_nil_iff.2 (by omega)
      have HK := Lib.hid hk'; clear hk'
      go_wp2
      go_ret3
      refine ⟨u5, ?_, ?_, hbel⟩
      · rw [HA.out, HK.out]; rfl
      · rw [HA.out, HK.out]; simpa [show Frm.allB [] = ([], 0, 0) from rfl] using HO.out
end Go.Proofs.YtdjoaboalknlkaaGreatDoor
