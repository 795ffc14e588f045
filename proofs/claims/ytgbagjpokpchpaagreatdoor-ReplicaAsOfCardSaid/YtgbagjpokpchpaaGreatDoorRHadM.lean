/-
  Layer 7: union.
  Layer 7: Merge; layer 8: Had.
-/
import Derived.Test.YtgbagjpokpchpaaGreatDoorRUni2
import Derived.Test.YtgbagjpokpchpaaGreatDoorRSets
import Derived.Deep.RegionHeld3
import Derived.Deep.DeepCutAuto
import Derived.RegionTactic
import Derived.StillTailTactics
import Derived.BigRegion
import Derived.Test.YtgbagjpokpchpaaGreatDoorRItkRef
import Derived.LaidEqlPtr
namespace Go.Proofs.YtgbagjpokpchpaaGreatDoor
open Go.RowKit Go.Maps Go.Sort Go.Shelf

def UniPost (w : World) (l1 l2 : Rg) (e : Ending) (w' : World) : Prop := ∃ v rs, e = .returned v ∧ OwnRB w' w.heap.size v rs ∧ RgOk rs ∧ (∀ n, hasR rs n = (hasR l1 n || hasR l2 n)) ∧ rs.length ≤ l1.length + l2.length ∧ Below w.heap.size w w'
/-- the row that is made, the row that is gone through -/
structure UniM (w : World) (g cp : Nat) (all out : Rg) (v : Value) (wr : World) : Prop where
  own : OwnRB wr w.heap.size v out
  all : OwnRB wr w.heap.size (.slice (some ⟨g, 0, none⟩) all.length cp) all
  ne : v.ownBlock ≠ some g
  bel : Below w.heap.size w wr
def UniRel (w : World) (g cp : Nat) (all : Rg) (v i : Value) (wr : World) : Prop := ∃ k : Nat, i = .int .i64 k ∧ k ≤ all.length ∧ UniM w g cp all ((all.take k).foldl joinU []) v wr
theorem OwnRB.cell {w : World} {base : Nat} {rs : Rg} {g cap n : Nat} (h : OwnRB w base (.slice (some ⟨g, 0, none⟩) n cap) rs) (hn : n = rs.length) (k : Nat) (hk : k < rs.length) :
    w.cell? ⟨g, k * 2, none⟩ = some (.int .i64 rs[k].1) ∧ w.cell? ⟨g, k * 2 + 1, none⟩ = some (.int .i64 rs[k].2) ∧ w.frozen? ⟨g, k * 2 + 1, none⟩ = false := by
  subst hn
  have hg := rgCells_get rs k hk
  refine ⟨?_, ?_, World.ownsRow.frozenAt h _⟩
  · rw [World.ownsRow.cellAt h (k * 2) (by omega)]; exact hg.1
  · rw [World.ownsRow.cellAt h (k * 2 + 1) (by omega)]; exact hg.2
theorem own_down {w : World} {base base' n : Nat} {e : TypeId} {size : Nat} {v : Value} {xs : List Value} (h : w.ownsRow base e size v n xs) (hb : base' ≤ base) : w.ownsRow base' e size v n xs := by
  refine ⟨h.1, ?_⟩
  rcases h.2 with h' | ⟨g, cap, cur, e, hb', r⟩
  · exact .inl h'
  · exact .inr ⟨g, cap, cur, e, Nat.le_trans hb hb', r⟩
theorem UniM.up {w wr w2 : World} {g cp : Nat} {all out : Rg} {v : Value} (h : UniM w g cp all out v wr) (hb : Below wr.heap.size wr w2) : UniM w g cp all out v w2 :=
  ⟨ownsRow_below h.own hb (Nat.le_refl _), ownsRow_below h.all hb (Nat.le_refl _), h.ne, h.bel.trans (hb.mono h.bel.size)⟩
theorem UniM.app {w wr w2 : World} {g cp : Nat} {all out out' : Rg} {v v' : Value} (h : UniM w g cp all out v wr) (ho : OwnRB w2 w.heap.size v' out') (hg : wr.grownBy w2 v.ownBlock) (hv : v'.ownBlock = v.ownBlock ∨ v'.ownBlock = some wr.heap.size) : UniM w g cp all out' v' w2 := by
  refine ⟨ho, World.ownsRow.kept h.all hg (.inr (Ne.symm h.ne)), ?_, Below.grown h.bel hg h.bel.size (fun k hk => (World.ownsRow.lt h.own k hk).1)⟩
  rcases hv with e | e
  · rw [e]; exact h.ne
  · rw [e]
    intro e'
    injection e' with e'
    have := (World.ownsRow.lt h.all g rfl).2
    omega
theorem joinU_at {out : Rg} {j : Nat} (hj : j = out.length) (h0 : 0 < j) (r : Int × Int) : joinU out r = if r.1 ≤ (out[j - 1]'(by omega)).2 then out.set (j - 1) ((out[j - 1]'(by omega)).1, max (out[j - 1]'(by omega)).2 r.2) else out ++ [r] := by
  rcases List.eq_nil_or_concat out with rfl | ⟨i, l, rfl⟩
  · simp at hj; omega
  · simp only [List.concat_eq_append] at *
    have hjl : j - 1 = i.length := by rw [hj]; simp
    have hg : (i ++ [l])[j - 1]'(by simp; omega) = l := by simp only [hjl]; simp
    rw [joinU_snoc, hg]
    split
    · rw [hjl]; simp
    · rfl
set_option maxRecDepth 100000 in
set_option maxHeartbeats 4000000 in
theorem union_any (w : World) (A1 A2 : Option Addr) (c1 c2 : Nat) (l1 l2 : Rg) (h1 : Cel w w.heap.size 2 A1 l1.length c1 (rgCells l1)) (h2 : Cel w w.heap.size 2 A2 l2.length c2 (rgCells l2)) (ok1 : RgOk l1) (ok2 : RgOk l2) (hp : 0 < l2.length) (hl1 : l1.length ≤ 100000) (hl2 : l2.length ≤ 100000) :
    Calls Tryz.prog 123 #[.slice A1 l1.length c1, .slice A2 l2.length c2] w (UniPost w l1 l2) := by
  have hb0 : Below w.heap.size w (w.alloc (.cells #[.slice A1 l1.length c1, .slice A2 l2.length c2] 127)) := (Below.refl _ _).alloc (Nat.le_refl _) _
  have hsz0 : (w.alloc (.cells #[.slice A1 l1.length c1, .slice A2 l2.length c2] 127)).heap.size = w.heap.size + 1 := by simp
  have HCA := Lib.hid (show CcArg (w.alloc (.cells #[.slice A1 l1.length c1, .slice A2 l2.length c2] 127)) w.heap.size A1 A2 c1 c2 l1 l2 from ⟨cell_of_row _ w.heap.size 0 _ _ (0, 0) (heap_alloc_new w _), cell_of_row _ w.heap.size 1 _ _ (0, 0) (heap_alloc_new w _)⟩)
  have HC1 := Lib.hid (Cel.more (Cel.below h1 hb0) hb0.size)
  have HC2 := Lib.hid (Cel.more (Cel.below h2 hb0) hb0.size)
  have HB0 := Lib.hid hb0
  have HEA := Lib.hid (show ∀ r ∈ l1 ++ l2, 1 ≤ r.1 ∧ r.1 < r.2 ∧ r.2 ≤ 1099511627777 from fun r hr => by
    rcases List.mem_append.1 hr with hr | hr
    · exact ok1.each r hr
    · exact ok2.each r hr)
  obtain ⟨i0, hi, hz0, hz1, hz2⟩ := info_parts rg_info
  have HI := Lib.hid hi; have HZ0 := Lib.hid hz0; have HZ1 := Lib.hid hz1; have HZ2 := Lib.hid hz2
  clear hi hz0 hz1 hz2 h1 h2 hb0 ok1 ok2
  go_enter Tryz.func123, Tryz.ntmps123
  go_wp2_with fail
  generalize w.alloc (.cells #[.slice A1 l1.length c1, .slice A2 l2.length c2] 127) = w1 at *
  with_reducible refine (concat_any w1 w.heap.size A1 A2 c1 c2 l1 l2 HCA.out HC1.out HC2.out hp (by omega) (by omega)).mono ?_
  rintro r w2 ⟨g, cp, rfl, ho2, hb2⟩
  have hlen2 : (l1 ++ l2).length = l1.length + l2.length := by simp
  have HPALL : Hid (∀ r ∈ l1 ++ l2, 1 ≤ r.1 ∧ r.1 < r.2 ∧ r.2 ≤ 1099511627777) := HEA.out
  have HO2 := Lib.hid (show OwnRB w2 w.heap.size (.slice (some ⟨g, 0, none⟩) (l1 ++ l2).length cp) (l1 ++ l2) from own_down ho2 (by omega))
  have HB2 := Lib.hid (show Below w.heap.size w w2 from HB0.out.trans (hb2.mono (by omega)))
  have hgb : w.heap.size ≤ g := (World.ownsRow.lt HO2.out g rfl).1
  clear ho2 hb2 HCA HC1 HC2 HB0 hsz0
  generalize hlists : l1 ++ l2 = ll at *
  have HLL := Lib.hid hlists
  clear hlists
  have hll : ll.length ≤ 200000 := by omega
  have HLEN2 := Lib.hid hlen2
  clear hlen2
  go_wp2_with fail
  with_reducible refine (usort_any w2 w.heap.size g cp ll (fun r hr => by have := HPALL.out r hr; omega) HO2.out (by omega)).mono ?_
  rintro r w3 ⟨rfl, all, hperm, hsort, ho3, hg3⟩
  have hlen : all.length = ll.length := hperm.length_eq
  have HPERM := Lib.hid hperm; have HSORT := Lib.hid hsort; have HLEN := Lib.hid hlen
  rw [← hlen] at ho3 ⊢
  have HM3 := Lib.hid (show UniM w g cp all [] (.slice none 0 0) w3 from ⟨World.ownsRow_nil _ _ _ _, ho3, by simp [Value.ownBlock], Below.grown HB2.out hg3 HB2.out.size (fun k hk => by injection hk with hk; omega)⟩)
  have hal : all.length ≤ 200000 := by omega
  clear ho3 hg3 hperm hsort HO2 HB2 hlen
  have HST := Lib.hid (show UniRel w g cp all (.slice none 0 0) (.int .i64 ((0 : Nat) : Int)) w3 from ⟨0, rfl, Nat.zero_le _, HM3.out⟩)
  go_wp2
  go_loopw [6, 18] (fun v i wr => UniRel w g cp all v i wr) (fun _ i _ => all.length - (intOf i).toNat)
  case atStart => exact HST.out
  case round =>
    obtain ⟨k, rfl, hk, hm⟩ := hrel
    have HM := Lib.hid hm
    have hjl := joinL_len (all.take k) []
    rw [List.length_take] at hjl
    simp only [List.length_nil] at hjl
    have hsr := hm.bel.size
    clear hm
    by_cases hkn : k < all.length
    · obtain ⟨y0, y1, _⟩ := HM.out.all.cell rfl k hkn
      have hgl := (World.ownsRow.lt HM.out.all g rfl).2
      have HTK := Lib.hid (show (all.take (k + 1)).foldl joinU [] = joinU ((all.take k).foldl joinU []) all[k] by rw [List.take_add_one, List.getElem?_eq_getElem hkn, Option.toList_some, joinL_snoc])
      have hea := HPALL.out all[k] (HPERM.out.mem_iff.1 (List.getElem_mem hkn))
      generalize all[k] = rr at *
      obtain ⟨ra, rb⟩ := rr
      simp only at y0 y1 hea
      generalize (all.take k).foldl joinU [] = out at *
      have t1 : (k : Int) < all.length := by omega
      have hbW : Below wr.heap.size wr (wr.alloc (.cells #[.int .i64 ra, .int .i64 rb] 129)) := (Below.refl _ _).alloc (Nat.le_refl _) _
      have HM1 := Lib.hid (HM.out.up hbW)
      have z0 : (wr.alloc (.cells #[.int .i64 ra, .int .i64 rb] 129)).cell? ⟨wr.heap.size, 0, none⟩ = some (.int .i64 ra) := cell_of_row _ wr.heap.size 0 _ _ (0, 0) (heap_alloc_new wr _)
      have z1 : (wr.alloc (.cells #[.int .i64 ra, .int .i64 rb] 129)).cell? ⟨wr.heap.size, 1, none⟩ = some (.int .i64 rb) := cell_of_row _ wr.heap.size 1 _ _ (0, 0) (heap_alloc_new wr _)
      obtain ⟨B, cB, hvf⟩ := ownsRow_form HM.out.own
      subst hvf
      have hsa : (wr.alloc (.cells #[.int .i64 ra, .int .i64 rb] 129)).heap.size = wr.heap.size + 1 := by simp
      go_upto_region 7 with fail
      clear hbW y0 y1
      generalize wr.alloc (.cells #[.int .i64 ra, .int .i64 rb] 129) = wa at *
      have HSA := Lib.hid hsa
      clear hsa
      by_cases h0 : 0 < out.length
      · obtain ⟨gg, cg, hvg, hgb2, hgg⟩ := World.ownsRow.form HM1.out.own h0
        obtain ⟨rfl, rfl⟩ : B = some ⟨gg, 0, none⟩ ∧ cB = cg := by injection hvg with h1 _ h3; exact ⟨h1, h3⟩
        clear hvg
        obtain ⟨j, hj⟩ : ∃ j, j = out.length := ⟨_, rfl⟩
        have hj0 : 0 < j := by omega
        have hjo : j - 1 < out.length := by omega
        have HJ := Lib.hid (joinU_at hj hj0 (ra, rb))
        obtain ⟨_, y1, y1f⟩ := HM1.out.own.cell rfl (j - 1) hjo
        have HST1 := Lib.hid (show ∀ t, (rgCells out).set ((j - 1) * 2 + 1) (.int .i64 t) = rgCells (out.set (j - 1) ((out[j - 1]'hjo).1, t)) from fun t => rgCells_set1 out (j - 1) hjo t)
        generalize out[j - 1]'hjo = q at *
        obtain ⟨qa, qb⟩ := q
        simp only at y1 HJ HST1
        have HLJ := Lib.hid hj
        have hjk : j ≤ 200000 := by omega
        rw [← hj]
        clear hj h0 hjo
        have ej : (j : Int) - 1 = ((j - 1 : Nat) : Int) := by omega
        have j1 : ((j - 1 : Nat) : Int) < j := by omega
        have wj : IntKind.i64.wrap ((j - 1 : Nat) : Int) = ((j - 1 : Nat) : Int) := IntWalk.i64_in _ (by omega)
        have d0 : decide (0 < (j : Int)) = true := decide_eq_true (by omega)
        have d1 : (0 : Int) < (j : Int) := by omega
        have d0' : decide (0 < j) = true := decide_eq_true hj0
        by_cases hq : ra ≤ qb
        · have hbe : decide (ra ≤ qb) = true := decide_eq_true hq
          have HT := Lib.hid (show (all.take (k + 1)).foldl joinU [] = out.set (j - 1) (qa, max qb rb) by rw [HTK.out, HJ.out, if_pos hq])
          clear HJ HTK
          go_wp2
          go_quiet (fail)
          have HMQ := Lib.hid (HM1.out.up (below_drewN (Below.refl wa.heap.size wa) nq))
          have q1 : (wa.drewN nq).cell? ⟨wr.heap.size, 1, none⟩ = some (.int .i64 rb) := z1
          have y1q : (wa.drewN nq).cell? ⟨gg, (j - 1) * 2 + 1, none⟩ = some (.int .i64 qb) := y1
          have y1fq : (wa.drewN nq).frozen? ⟨gg, (j - 1) * 2 + 1, none⟩ = false := y1f
          clear z0 z1 HM1 y1 y1f hbe hq d0 d1 d0'
          generalize wa.drewN nq = wq at *
          go_wp2
          go_still_tail 14, (by kernel_rfl)
          change wpList _ _ _ _ _ (wq.drewN 1)
          have HMZ := Lib.hid (HMQ.out.up (below_drewN (Below.refl wq.heap.size wq) 1))
          have y1z : (wq.drewN 1).cell? ⟨gg, (j - 1) * 2 + 1, none⟩ = some (.int .i64 qb) := y1q
          have y1fz : (wq.drewN 1).frozen? ⟨gg, (j - 1) * 2 + 1, none⟩ = false := y1fq
          clear q1 y1q y1fq HMQ
          generalize wq.drewN 1 = wz at *
          have HR := Lib.hid (show UniRel w g cp all (.slice (some ⟨gg, 0, none⟩) j cB) (.int .i64 ((k + 1 : Nat) : Int)) (wz.setCell ⟨gg, (j - 1) * 2 + 1, none⟩ (.int .i64 (max qb rb))) from ⟨k + 1, rfl, by omega, by
            rw [HT.out]
            have hst := World.ownsRow.stored HMZ.out.own ((j - 1) * 2 + 1) (.int .i64 (max qb rb))
            refine HMZ.out.app (v' := .slice (some ⟨gg, 0, none⟩) j cB) ?_ hst.2 (.inl (by rfl))
            have h8 := hst.1
            rw [HST1.out] at h8
            unfold OwnRB
            rw [List.length_set]
            rw [HLJ.out] at h8 ⊢
            exact h8⟩)
          clear ej j1 wj
          go_wp2
          go_roundw
          case rel => exact HR.out
          case measure => simp [intOf]; omega
        · have hbe : decide (ra ≤ qb) = false := decide_eq_false hq
          have HT := Lib.hid (show (all.take (k + 1)).foldl joinU [] = out ++ [(ra, rb)] by rw [HTK.out, HJ.out, if_neg hq])
          clear HJ HTK
          go_wp2
          go_quiet (fail)
          clear y1 y1f hbe hq d0 d1 d0' ej j1 wj
          rw [HLJ.out]
          have hbq : Below wa.heap.size wa (wa.drewN nq) := below_drewN (Below.refl _ _) nq
          have HMQ := Lib.hid (HM1.out.up hbq)
          have q0 : (wa.drewN nq).cell? ⟨wr.heap.size, 0, none⟩ = some (.int .i64 ra) := z0
          have q1 : (wa.drewN nq).cell? ⟨wr.heap.size, 1, none⟩ = some (.int .i64 rb) := z1
          clear z0 z1 HM1 hbq
          generalize wa.drewN nq = wq at *
          have hsq := HMQ.out.bel.size
          go_wp2_with (at_builtin; refine wpList_app (P := Tryz.prog) rfl (.tmp 51) (.tmp 53) 127 rfl 129 i0 _ 2 16 Tryz.underlying127 HI.out HZ0.out HZ1.out HZ2.out rfl (by decide) w.heap.size _ out.length (rgCells out) rfl ?c1 (wq.heap.size + 1) _ _ _ [.int .i64 ra, .int .i64 rb] rfl ?c2 ?c3 ?c4 ?c5 ?c6 ?_)
          case c1 => exact World.ownsRow.alloc HMQ.out.own _
          case c2 => exact Cel.new (size := 2) (n := 1) wq #[.int .i64 ra, .int .i64 rb] _ (by unfold maxLen; omega) rfl
          case c3 => exact rgCells_one [(ra, rb)]
          case c4 => unfold maxLen; omega
          case c5 => omega
          case c6 => first | omega | (simp; omega)
          intro v' w5 hown5 hg5 hv5
          have HR := Lib.hid (show UniRel w g cp all v' (.int .i64 ((k + 1 : Nat) : Int)) w5 from ⟨k + 1, rfl, by omega, by
            rw [HT.out]
            refine (HMQ.out.up ((Below.refl _ _).alloc (Nat.le_refl _) (.cells #[.int .i64 ra, .int .i64 rb] 129))).app ?_ hg5 (by simpa using hv5)
            unfold OwnRB
            rw [rgCells_append, List.length_append]
            exact hown5⟩)
          clear hown5 hg5 hv5 q0 q1
          go_wp2
          go_roundw
          case rel => exact HR.out
          case measure => simp [intOf]; omega
      · have ho0 : out = [] := List.eq_nil_of_length_eq_zero (by omega)
        have HT := Lib.hid (show (all.take (k + 1)).foldl joinU [] = out ++ [(ra, rb)] by rw [HTK.out, ho0, joinU_nil]; rfl)
        have hol : out.length = 0 := by rw [ho0]; rfl
        have HOL := Lib.hid hol
        rw [hol]
        rw [hol] at HM1
        clear HTK h0 ho0 hol
        go_wp2
        go_quiet (fail)
        have hbq : Below wa.heap.size wa (wa.drewN nq) := below_drewN (Below.refl _ _) nq
        have HMQ := Lib.hid (HM1.out.up hbq)
        have q0 : (wa.drewN nq).cell? ⟨wr.heap.size, 0, none⟩ = some (.int .i64 ra) := z0
        have q1 : (wa.drewN nq).cell? ⟨wr.heap.size, 1, none⟩ = some (.int .i64 rb) := z1
        clear z0 z1 HM1 hbq
        generalize wa.drewN nq = wq at *
        have hsq := HMQ.out.bel.size
        go_wp2_with (at_builtin; refine wpList_app (P := Tryz.prog) rfl (.tmp 51) (.tmp 53) 127 rfl 129 i0 _ 2 16 Tryz.underlying127 HI.out HZ0.out HZ1.out HZ2.out rfl (by decide) w.heap.size _ out.length (rgCells out) rfl ?c1 (wq.heap.size + 1) _ _ _ [.int .i64 ra, .int .i64 rb] rfl ?c2 ?c3 ?c4 ?c5 ?c6 ?_)
        case c1 => exact World.ownsRow.alloc HMQ.out.own _
        case c2 => exact Cel.new (size := 2) (n := 1) wq #[.int .i64 ra, .int .i64 rb] _ (by unfold maxLen; omega) rfl
        case c3 => exact rgCells_one [(ra, rb)]
        case c4 => unfold maxLen; omega
        case c5 => omega
        case c6 => first | omega | (simp; omega)
        intro v' w5 hown5 hg5 hv5
        have HR := Lib.hid (show UniRel w g cp all v' (.int .i64 ((k + 1 : Nat) : Int)) w5 from ⟨k + 1, rfl, by omega, by
          rw [HT.out]
          refine (HMQ.out.up ((Below.refl _ _).alloc (Nat.le_refl _) (.cells #[.int .i64 ra, .int .i64 rb] 129))).app ?_ hg5 (by simpa using hv5)
          unfold OwnRB
          rw [rgCells_append, List.length_append]
          exact hown5⟩)
        clear hown5 hg5 hv5 q0 q1
        go_wp2
        go_roundw
        case rel => exact HR.out
        case measure => simp [intOf]; omega
    · have t1 : ¬ (k : Int) < all.length := by omega
      have HKK := Lib.hid (show all.take k = all from List.take_of_length_le (by omega))
      rw [HKK.out] at HM hjl
      have HJ := Lib.hid (joinL_ok all HSORT.out (fun r hr => HPALL.out r (HPERM.out.mem_iff.1 hr)) [] RgOk.nil (fun q hq => by simp at hq))
      obtain ⟨B, cB, hvf⟩ := ownsRow_form HM.out.own
      subst hvf
      have HF := Lib.hid (show UniPost w l1 l2 (.returned (.slice B (all.foldl joinU []).length cB)) wr from ⟨_, _, rfl, HM.out.own, HJ.out.1, fun n => by
        have h0 : hasR ([] : Rg) n = false := rfl
        rw [HJ.out.2, h0, Bool.false_or, ← hasR_append, HLL.out]
        unfold hasR
        rw [Bool.eq_iff_iff, List.any_eq_true, List.any_eq_true]
        constructor <;> (rintro ⟨q, hq, h⟩; exact ⟨q, by first | exact HPERM.out.mem_iff.1 hq | exact HPERM.out.mem_iff.2 hq, h⟩), by have := HLEN.out; have := HLEN2.out; omega, HM.out.bel⟩)
      go_wp2
      go_ret
      exact HF.out
end Go.Proofs.YtgbagjpokpchpaaGreatDoor
namespace Go.Proofs.YtgbagjpokpchpaaGreatDoor
open Go.RowKit Go.Maps Go.Sort Go.Shelf

theorem MapR.kept {w w' : World} {b r : Nat} {m : Row Value} {todo : List UInt8 → Bool} {cnt x : Nat} (h : MapR w b r m todo cnt) (hg : w.grownBy w' (some x)) (hb : b ≠ x) (hr : r ≠ x) : MapR w' b r m todo cnt := by
  obtain ⟨n, left, h1, h2⟩ := h
  exact ⟨n, left, h1.kept (row := some x) hg (by simpa using hb) (by simpa using hr), h2⟩
theorem HadAt.grown {w w' : World} {G : Nat → Prop} {bs bm x : Nat} {m : Had} {V : List UInt8 → Value} (h : HadAt w G bs bm m V) (hg : w.grownBy w' (some x)) (hx : ¬ G x) : HadAt w' G bs bm m V :=
  h.keep hg.size fun b hb => hg.block b (h.lt b hb) (fun e => by injection e with e; exact hx (e ▸ hb))
/-- on the way through Merge -/
structure MgM (w : World) (G G' : Nat → Prop) (bs bm bo bp r : Nat) (m m' : Had) (V' : List UInt8 → Value) (todo : List UInt8 → Bool) (cnt : Nat) (G2 : Nat → Prop) (m2 : Had) (V2 : List UInt8 → Value) (wr : World) : Prop where
  rng : MapR wr bp r (m'.map fun p => (p.1, V' p.1)) todo cnt
  dst : HadAt wr G2 bs bm m2 V2
  src : HadAt wr G' bo bp m' V'
  has : ∀ s n, hadB m2 s n = (hadB m s n || (!todo s && hadB m' s n))
  rows : ∀ s, todo s = true → hadRow m2 s = hadRow m s
  len : m2.length + cnt ≤ m.length + m'.length
  keep : Keep G w wr
  new : ∀ b, G2 b → G b ∨ w.heap.size < b
def MgRel (w : World) (G G' : Nat → Prop) (bs bm bo bp r : Nat) (m m' : Had) (V' : List UInt8 → Value) (wr : World) : Prop := ∃ todo cnt G2 m2 V2, MgM w G G' bs bm bo bp r m m' V' todo cnt G2 m2 V2 wr
def MergePost (w : World) (G : Nat → Prop) (bs bm : Nat) (m m' : Had) (e : Ending) (w' : World) : Prop :=
  e = .returned (.tuple #[]) ∧ ∃ G2 m2 V2, HadAt w' G2 bs bm m2 V2 ∧ (∀ s n, hadB m2 s n = (hadB m s n || hadB m' s n)) ∧ Keep G w w' ∧ ∀ b, G2 b → G b ∨ w.heap.size ≤ b
theorem OwnR.celForm {w : World} {v : Value} {rs : Rg} (h : OwnR w v rs) : ∃ A c, v = .slice A rs.length c ∧ Cel w w.heap.size 2 A rs.length c (rgCells rs) := by
  obtain ⟨A, c, hv⟩ := ownsRow_form h
  subst hv
  exact ⟨A, c, rfl, Cel.of_own h⟩
theorem getB_rowV {m : Had} {V : List UInt8 → Value} {k : List UInt8} {v : Value} (h : getB (m.map fun p => (p.1, V p.1)) k = some v) : ∃ rs, getB m k = some rs ∧ v = V k := by
  unfold getB at *
  rw [List.find?_map] at h
  have e : ((fun p : List UInt8 × Value => p.1 == k) ∘ fun p : List UInt8 × Rg => (p.1, V p.1)) = fun p => p.1 == k := rfl
  rw [e] at h
  cases hf : m.find? fun p => p.1 == k with
  | none => rw [hf] at h; cases h
  | some p =>
    have h1 := List.find?_some hf
    simp at h1
    rw [hf] at h
    simp at h
    exact ⟨p.2, rfl, by rw [← h, h1]⟩
set_option maxRecDepth 100000 in
set_option maxHeartbeats 4000000 in
theorem merge_any (w : World) (G G' : Nat → Prop) (bs bm bo bp : Nat) (m m' : Had) (V V' : List UInt8 → Value) (h : HadAt w G bs bm m V) (h' : HadAt w G' bo bp m' V') (hap : ∀ b, G b → ¬ G' b) (hl : m.length + m'.length ≤ 200000) (hr : ∀ s, (hadRow m s).length ≤ 100000) (hr' : ∀ p ∈ m', p.2.length ≤ 100000) :
    Calls Tryz.prog 77 #[.pointer (some ⟨bs, 0, none⟩), .pointer (some ⟨bo, 0, none⟩)] w (MergePost w G bs bm m m') := by
  have HH := Lib.hid h; have HH' := Lib.hid h'; have HAP := Lib.hid hap; have HR := Lib.hid hr; have HR' := Lib.hid hr'
  have hne : bs ≠ bo := fun e => hap bs h.gs (e ▸ h'.gs)
  have hcmp : (binOp .eql 64 (.pointer (some ⟨bs, 0, none⟩)) (.pointer (some ⟨bo, 0, none⟩))).run Tryz.prog w = .ok (.bool false) w := by
    obtain ⟨j, hj1, hj2⟩ : ∃ j, Tryz.prog.info? 126 = some j ∧ j.size = 1 := by
      have : (Tryz.prog.info? 126).map (·.size) = some 1 := by kernel_rfl
      cases hi : Tryz.prog.info? 126 with
      | none => rw [hi] at this; cases this
      | some j => rw [hi] at this; exact ⟨j, rfl, by simpa using this⟩
    exact run_eql_ptr_other w Tryz.underlying64 hj1 (by omega) (fun e => hne (by injection e)) h.blk h'.blk
  have c0 := h'.cell
  have HM' := Lib.hid h'.map
  have hGl := h.lt; have hG'l := h'.lt
  have HGL := Lib.hid hGl; have HGL' := Lib.hid hG'l
  have HBP := Lib.hid h'.gm; have HBM := Lib.hid h.gm
  clear h h' hap hr hr' hGl hG'l
  go_enter Tryz.func77, Tryz.ntmps77
  go_wp2_with (at_range; refine wpList_range_S _ rfl _ 124 127 rfl Tryz.underlying124 bp (m'.map fun p => (p.1, V' p.1)) rfl HM'.out ?_; intro w0 hrg0 hg0 hs0)
  go_frame
  clear c0 hcmp
  have hb0 : Below w.heap.size w w0 := ⟨hg0.os, hg0.tape, hg0.output, hg0.size, fun k hk => hg0.block k hk (by simp)⟩
  have HST := Lib.hid (show MgRel w G G' bs bm bo bp w.heap.size m m' V' w0 from ⟨_, _, G, m, V, hrg0, HH.out.up hb0, HH'.out.up hb0, fun s n => by
      rw [show (getB (m'.map fun p => (p.1, V' p.1)) s).isSome = (getB m' s).isSome from ?_]
      · cases hg : getB m' s with
        | none => simp [hadB, hadRow, hg, hasR]
        | some rs => simp
      · unfold getB
        rw [List.find?_map]
        have e : ((fun p : List UInt8 × Value => p.1 == s) ∘ fun p : List UInt8 × Rg => (p.1, V' p.1)) = fun p => p.1 == s := rfl
        rw [e]; cases m'.find? fun p => p.1 == s <;> rfl, fun s _ => rfl, by simp, Keep.of_below hb0, fun b hb => .inl hb⟩)
  clear hg0 hrg0 hb0
  go_loopw [] (fun wr => MgRel w G G' bs bm bo bp w.heap.size m m' V' wr) (fun wr => wr.rangeLeft bp w.heap.size)
  case atStart => exact HST.out
  case round =>
    obtain ⟨todo, cnt, G2, m2, V2, hM⟩ := hrel
    have HM := Lib.hid hM
    clear hM
    go_wp2_with (at_next; refine wpList_next_S _ rfl _ rfl bp w.heap.size (m'.map fun p => (p.1, V' p.1)) todo cnt rfl HM.out.rng ?_ ?_)
    · intro hdone
      have HF := Lib.hid (show MergePost w G bs bm m m' (.returned (.tuple #[])) wr from ⟨rfl, G2, m2, V2, HM.out.dst, fun s n => by rw [HM.out.has, hdone s]; simp, HM.out.keep, fun b hb => (HM.out.new b hb).imp id (fun h => by omega)⟩)
      clear hdone
      go_wp2
      go_end0
      exact HF.out
    · intro k v w1 cnt1 htk hget hkl hrg1 hlt1 hgr hsz1 hen
      obtain ⟨rs, hgk, rfl⟩ := getB_rowV hget
      have hnG2 : ∀ b, G2 b → b ≠ w.heap.size := fun b hb e => by
        rcases HM.out.new b hb with h1 | h1
        · have := HGL.out b h1; omega
        · omega
      have hswr := HM.out.keep.size
      have D1 := (HM.out.dst.grown hgr (fun hx => hnG2 _ hx rfl)).up (w' := w1.drew) (Below.refl _ _).drew
      have S1 := (HM.out.src.grown hgr (fun hx => by have := HGL'.out _ hx; omega)).up (w' := w1.drew) (Below.refl _ _).drew
      have K1 : Keep G w w1 := HM.out.keep.trans (Keep.of_grown (F := fun b => b = w.heap.size) hgr (fun k e => by injection e with e; exact e.symm)) (fun b hb e => by omega)
      have hmem := getB_mem hgk
      have hpo := HH'.out.ok.each _ hmem
      have hpl := HR'.out _ hmem
      simp only at hpo hpl
      have hk24 : k.length ≤ 24 := by have := hpo.1; unfold nameB at this; simp at this; omega
      obtain ⟨va, hlk, hoa, hv0, hv1⟩ := D1.look k (by omega)
      have hrk := HM.out.rows k htk
      have hl1 := HR.out k
      rw [hrk] at hoa
      have hok1 := HH.out.ok.row k
      have hob := S1.own _ hmem
      simp only at hob
      obtain ⟨A1, c1, hva, hC1⟩ := hoa.celForm
      obtain ⟨A2, c2, hvb, hC2⟩ := hob.celForm
      have hrs0 : 0 < rs.length := List.length_pos_iff.2 hpo.2.2
      have HU := Lib.hid (union_any w1.drew A1 A2 c1 c2 (hadRow m k) rs hC1 hC2 hok1 hpo.2.1 hrs0 hl1 hpl)
      have HD1 := Lib.hid D1; have HS1 := Lib.hid S1; have HK1 := Lib.hid K1; have HV0 := Lib.hid hv0; have HV1 := Lib.hid hv1; have HHB := Lib.hid hrk; have HPO := Lib.hid hpo
      have HTK := Lib.hid htk; have HRG := Lib.hid hrg1; have HLT := Lib.hid hlt1; have HGK := Lib.hid hgk
      have hlen2 : m2.length < maxLen := by have := HM.out.len; unfold maxLen; omega
      have c0 : w1.cell? ⟨bs, 0, none⟩ = some (.map (some bm)) := D1.cell
      have HSZ1 := Lib.hid hsz1
      have HNG := Lib.hid hnG2
      have HFIN := Lib.hid (show ∀ w5 v5 rs5, Below w1.drew.heap.size w1.drew w5 → OwnRB w5 w1.drew.heap.size v5 rs5 → RgOk rs5 → (∀ n, hasR rs5 n = (hasR (hadRow m k) n || hasR rs n)) →
          ∃ w6, (Instr.mapUpdate 124 (.map (some bm)) (.string ⟨k.toArray⟩) v5).run Tryz.prog w5 = .ok () w6 ∧ w5.cell? ⟨bs, 0, none⟩ = some (.map (some bm)) ∧ w6.cell? ⟨bs, 0, none⟩ = some (.map (some bm)) ∧ MgRel w G G' bs bm bo bp w.heap.size m m' V' w6 ∧ w6.rangeLeft bp w.heap.size < wr.rangeLeft bp w.heap.size from fun w5 v5 rs5 hb5 ho5 hok5 hhas5 => by
        have D5 := D1.up hb5
        have hne5 : rs5 ≠ [] := fun e => by
          obtain ⟨n, hn⟩ := rg_some hpo.2.1 hpo.2.2
          have := hhas5 n
          rw [e, hn] at this
          simp [hasR] at this
        obtain ⟨g5, cp5, hv5, hg5b, hg5l⟩ := World.ownsRow.form ho5 (List.length_pos_iff.2 hne5)
        obtain ⟨w6, hr6, hm6, hg6⟩ := D5.map.put (by simpa using hlen2) k (by unfold maxLen; omega) _ _ Tryz.underlying124 v5
        have hok6 : HadOk (putB k rs5 m2) := ⟨putB_rising HM.out.dst.ok.up _ _, fun p hp => by
          rcases putB_mem.1 hp with rfl | ⟨hp, _⟩
          · exact ⟨hpo.1, hok5, hne5⟩
          · exact HM.out.dst.ok.each p hp⟩
        have hst := D1.stored (w2 := w5) (w3 := w6) k va v5 rs5 hv0 hv1 ⟨hb5.os, hb5.tape, hb5.output, hb5.size, fun i hi _ => hb5.block i hi⟩ (own_down ho5 (Nat.zero_le _)) (.inr ⟨g5, by rw [hv5]; rfl, hg5b⟩) (by rw [hv5]; simp [Value.ownBlock]) hm6 hg6 hok6
        have hw1s : w.heap.size < w1.heap.size := by have := (MapR.lt hrg1); omega
        have hbpm : bp ≠ bm := fun e => HAP.out bm HBM.out (e ▸ HBP.out)
        have hrm : w.heap.size ≠ bm := fun e => by have := HGL.out bm HBM.out; omega
        have R6 := ((hrg1.up (w' := w1.drew) (Below.refl _ _).drew).up hb5).kept hg6 hbpm hrm
        refine ⟨w6, hr6, D5.cell, hst.1.cell, ⟨_, cnt1, _, putB k rs5 m2, _, R6, hst.1, (S1.up hb5).grown hg6 (fun hx => HAP.out bm HBM.out hx), fun s n => ?_, fun s hs => ?_, ?_, ?_, fun b hb => ?_⟩, ?_⟩
        · have h1 := HM.out.has s n
          by_cases e : s = k
          · subst e
            have h2 : hadB (putB s rs5 m2) s n = hasR rs5 n := by unfold hadB; rw [hadRow_put_same]
            have h3 : hadB m' s n = hasR rs n := by unfold hadB hadRow; rw [hgk]; rfl
            rw [h2, hhas5, h3]
            simp [hadB]
          · have h2 : hadB (putB k rs5 m2) s n = hadB m2 s n := by unfold hadB; rw [hadRow_put_other _ _ e]
            have h3 : (s == k) = false := by simpa using e
            rw [h2, h1]
            simp only [h3, Bool.not_false, Bool.and_true]
        · simp only [Bool.and_eq_true, Bool.not_eq_true', beq_eq_false_iff_ne] at hs
          rw [hadRow_put_other _ _ hs.2]
          exact HM.out.rows s hs.1
        · have := putB_length_le m2 k rs5
          have := HM.out.len
          omega
        · refine (K1.drewN 1).trans (G := G2) (show Keep G2 (w1.drewN 1) w6 from hst.2) (fun b hb hG2 => ?_)
          rcases HM.out.new b hG2 with h1 | h1
          · exact h1
          · omega
        · rcases hb with ⟨hb, _⟩ | ⟨hb, _⟩
          · exact HM.out.new b hb
          · right; have : w1.heap.size ≤ b := hb; omega
        · rw [R6.left_eq, HM.out.rng.left_eq]; exact hlt1)
      subst hva
      rw [hvb] at hen
      rw [hvb]
      clear hoa hob hC1 hC2 hvb D1 S1 K1 hv0 hv1 hrk hpo htk hrg1 hlt1 hgk hmem hget hgr hsz1 hnG2 hok1
      go_wp2
      go_region_held3 (fun wx => wx.cell? ⟨bs, 0, none⟩ = some (.map (some bm))) (first | assumption | go_keep) (first | (go_at_call 123; (with_reducible refine HU.out.mono ?_); rintro r9 w5 ⟨v5, rs5, rfl, ho5, hok5, hhas5, _, hb5⟩; obtain ⟨w6, hr6, hc5, hc6, hrel6, hme6⟩ := HFIN.out w5 v5 rs5 hb5 ho5 hok5 hhas5; have HREL := Lib.hid hrel6; have HME := Lib.hid hme6; clear ho5 hok5 hhas5 hb5 hrel6 hme6))
      all_goals
        clear hlk hen hr6 hc5 c0
        go_wp2
        go_roundw
        case rel => exact HREL.out
        case measure => exact HME.out
end Go.Proofs.YtgbagjpokpchpaaGreatDoor
