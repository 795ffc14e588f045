/-
  Slices of cells cut; appending to a row of the call's own, at a step of a region that draws its order.
  Layer 6: a clock's bytes: Encode.
-/
import Derived.Test.YtdjoaboalknlkaaGreatDoorLSets
import Derived.Test.YtdjoaboalknlkaaGreatDoorLClkEnc
import Derived.Test.YtdjoaboalknlkaaGreatDoorLItkDrop
import Derived.Test.YtdjoaboalknlkaaGreatDoorLGnB
import Derived.Deep.RegionHeld3
namespace Go.Proofs.YtdjoaboalknlkaaGreatDoor
open Go.RowKit

section
variable {P : Program}
/-- append to a row of the call's own, at a step of a region that draws its order -/
theorem step_app {ops : Array Oper} {o : Oper} {a : Act} {w : World} {K : Act → World → Prop} {Q : Exit → Act → World → Prop} {E : Prop} (hgd : o.guard = none) (s x : Operand) (t : TypeId)
    (ho : o.op = .call { callee := .builtin .append, args := #[s, x], argTypes := #[t, t] })
    (e : TypeId) (i : TypeInfo) (z : Value) (size bytes : Nat) (ht : P.underlying t = some (.slice e)) (hi : P.info? e = some i) (hz : i.zero = some z)
    (hsize : i.size = size) (hby : i.bytes = bytes) (hzs : z.cells.size = size) (hsz : 0 < size)
    (base : Nat) (v : Value) (n : Nat) (xs : List Value) (hs : a.eval s = v) (hown : w.ownsRow base e size v n xs)
    (B : Nat) (A : Option Addr) (m c : Nat) (ys : List Value) (hx : a.eval x = .slice A m c) (hr : Cel w B size A m c ys) (h1 : ∀ u ∈ ys, u.oneCell' = true)
    (h63 : n + m ≤ maxLen) (hbytes : (n + m) * bytes ≤ 140737488355328) (hbase : base ≤ w.heap.size)
    (h : ∀ v' w', w'.ownsRow base e size v' (n + m) (xs ++ ys) → w.grownBy w' v.ownBlock → (v'.ownBlock = v.ownBlock ∨ v'.ownBlock = some w.heap.size) → K (a.put o.dst v') w') :
    if Region.wanted o (yielded ops a.tmps) = true then Oper.wp P o a w K Q else E := by
  have hw : Region.wanted o (yielded ops a.tmps) = true := by simp [Region.wanted, hgd]
  rw [if_pos hw]
  obtain ⟨v', w', h1, h2, h3, h4⟩ := run_app (P := P) w t o.type e i z size bytes ht hi hz hsize hby hzs hsz base v n xs hown B A m c ys hr h1 h63 hbytes hbase
  unfold Oper.wp execOp
  simp only [ho, resolve, invoke, builtin, Sem.run_bind, Sem.run_pure, Result.andThen_ok, List.map_toArray, List.map_cons, List.map_nil, hs, hx, h1]
  exact h v' w' h2 h3 h4
end
theorem below_drew {B : Nat} {a w : World} (h : Below B a w) : Below B a w.drew := below_drewN h 1
end Go.Proofs.YtdjoaboalknlkaaGreatDoor
namespace Go.Proofs.YtdjoaboalknlkaaGreatDoor
open Go.RowKit Go.Maps Go.Sort Go.Shelf

theorem ownsRow_keep {w w' : World} {base n size : Nat} {e : TypeId} {v : Value} {xs : List Value} (h : w.ownsRow base e size v n xs) (hb : ∀ b, v.ownBlock = some b → w'.heap[b]? = w.heap[b]?) : w'.ownsRow base e size v n xs := by
  refine ⟨h.1, ?_⟩
  rcases h.2 with h' | ⟨g, cap, cur, rfl, hb', hg, hr⟩
  · exact .inl h'
  · exact .inr ⟨g, cap, cur, rfl, hb', (hb g rfl).trans hg, hr⟩
theorem ownsRow_typ {w : World} {base n size : Nat} {e : TypeId} {v : Value} {xs : List Value} (h : w.ownsRow base e size v n xs) {b : Nat} (hb : v.ownBlock = some b) : ∃ cs, w.heap[b]? = some (.cells cs e (0, 0)) := by
  rcases h.2 with ⟨rfl, _⟩ | ⟨g, cap, cur, rfl, hb', hg, hr⟩
  · cases hb
  · injection hb with hb; subst hb; exact ⟨_, hg⟩
/-- what is no row of bytes, and not the box, is kept -/
theorem kept_at {w W : World} {bx k : Nat} {o : Obj} (h : Lib.OthersKept 5 (some bx) w W) (ho : w.heap[k]? = some o) (h1 : k ≠ bx) (h2 : ∀ c fz, o ≠ .cells c 5 fz) : W.heap[k]? = some o :=
  h k o ho (fun e => by first | exact h1 (Option.some.inj e) | exact h1 (Option.some.inj e).symm) (fun c fz e => h2 c fz e)
theorem ClockAt.kept {w W : World} {bc bm bx : Nat} {c : Clk} (h : ClockAt w bc bm c) (hk : Lib.OthersKept 5 (some bx) w W) (h1 : bc ≠ bx) (h2 : bm ≠ bx) : ClockAt W bc bm c := by
  refine h.keep ?_ ?_
  · rw [h.blk]; exact kept_at hk h.blk h1 (fun c fz e => nomatch e)
  · obtain ⟨es, cl, hm⟩ := h.map.isMap
    rw [hm]; exact kept_at hk hm h2 (fun c fz e => nomatch e)
theorem srcB_take (m : Row (Int × Int)) (k : Nat) (hk : k < m.length) : srcB (m.take (k + 1)) = srcB (m.take k) ++ lineB m[k].1 [m[k].2.1, m[k].2.2] := by
  rw [List.take_add_one, List.getElem?_eq_getElem hk, Option.toList_some, srcB_append]
  congr 1
  simp [srcB]
theorem lineB_len (s : List UInt8) (ns : List Int) (h : ∀ n ∈ ns, -9223372036854775808 ≤ n ∧ n ≤ 9223372036854775807) : (lineB s ns).length ≤ s.length + 22 * ns.length + 1 := by
  have := numsB_len ns h
  unfold lineB; simp; omega
theorem srcB_len {c : Clk} (h : ClkOk c) : ∀ k, (srcB (c.src.take k)).length ≤ 69 * k
  | 0 => by simp [srcB]
  | k + 1 => by
    have ih := srcB_len h k
    by_cases hk : k < c.src.length
    · rw [srcB_take _ _ hk, List.length_append]
      have hs := h.src _ (List.getElem_mem hk)
      have hn := h.now
      have h24 : (c.src[k]).1.length ≤ 24 := by have := hs.1; unfold nameB at this; simp at this; omega
      have := lineB_len (c.src[k]).1 [(c.src[k]).2.1, (c.src[k]).2.2] (by intro v hv; simp at hv; rcases hv with rfl | rfl <;> omega)
      simp only [List.length_cons, List.length_nil] at this
      omega
    · rw [List.take_of_length_le (by omega)] at ih ⊢; omega
def CeRel (ws : World) (base bx : Nat) (hd : List UInt8) (m : Row (Int × Int)) (i : Value) (wr : World) : Prop := ∃ (k : Nat) (v : Value), i = .int .i64 k ∧ k ≤ m.length ∧ BxSt ws base bx (hd ++ srcB (m.take k)) v wr
def CePost (w : World) (l : List UInt8) (e : Ending) (w' : World) : Prop := ∃ v, e = .returned v ∧ OwnB w' w.heap.size v l ∧ Below w.heap.size w w'
set_option maxRecDepth 100000 in
set_option maxHeartbeats 4000000 in
theorem clkenc_any (w : World) (bc bm : Nat) (c : Clk) (h : ClockAt w bc bm c) (hml : c.src.length ≤ 100000) (htab : Lib.TabBelow Tryz.prog w.heap.size w "internal/strconv.uint64pow10" .u64 Lib.pow10Tab) :
    Calls Tryz.prog 45 #[.pointer (some ⟨bc, 0, none⟩)] w (CePost w (encC c)) := by
  obtain ⟨o1, o2, o3, o4, o5, o6⟩ := h.ok
  have hblt := h.lt
  have hmlt := h.map.lt
  have hb1 : Below w.heap.size w (w.alloc (byBox (.slice none 0 0))) := (Below.refl _ _).alloc (Nat.le_refl _) _
  have HC1 := Lib.hid (h.up hb1)
  have HB1 := Lib.hid hb1
  have HX1 := Lib.hid (show (w.alloc (byBox (.slice none 0 0))).heap[w.heap.size]? = some (byBox (.slice none 0 0)) from heap_alloc_new w _)
  have hs1 : (w.alloc (byBox (.slice none 0 0))).heap.size = w.heap.size + 1 := by simp
  have HE := Lib.hid (show encC c = lineB [99, 108, 111, 99, 107] [c.slack, c.idle, c.now, c.mark] ++ srcB c.src from rfl)
  have HT := Lib.hid htab
  clear h hb1 htab o5 o6
  go_enter Tryz.func45, Tryz.ntmps45
  go_wp2
  go_upto_region 3 with fail
  generalize w.alloc (byBox (.slice none 0 0)) = w1 at *
  obtain ⟨c0, c1, c2, c3, c4, _, _⟩ := HC1.out.cells
  have hs2 : w.heap.size < w1.heap.size := by omega
  clear hs1
  have hbA : Below w1.heap.size w1 (w1.alloc (.cells #[.int .i64 c.slack, .int .i64 c.idle, .int .i64 c.now, .int .i64 c.mark] 3)).drew := below_drew ((Below.refl _ _).alloc (Nat.le_refl _) _)
  have HC3 := Lib.hid (HC1.out.up hbA)
  have HB3 := Lib.hid (HB1.out.trans (hbA.mono (by omega)))
  have HX3 := Lib.hid ((hbA.block _ (by omega)).trans HX1.out)
  have HN3 := Lib.hid (show ((w1.alloc (.cells #[.int .i64 c.slack, .int .i64 c.idle, .int .i64 c.now, .int .i64 c.mark] 3)).drew).heap[w1.heap.size]? = some (.cells ([c.slack, c.idle, c.now, c.mark].map (Value.int .i64)).toArray 3 (0, 0)) from heap_alloc_new w1 _)
  have hs3 := hbA.size
  clear hbA HC1 HX1
  have HLN := Lib.hid (enline_any (w1.alloc (.cells #[.int .i64 c.slack, .int .i64 c.idle, .int .i64 c.now, .int .i64 c.mark] 3)).drew w.heap.size w.heap.size w1.heap.size [] _ (OwnB.nil _ _) HX3.out (Nat.le_refl _) [99, 108, 111, 99, 107] [c.slack, c.idle, c.now, c.mark] HN3.out (by intro v hv; simp at hv; rcases hv with rfl | rfl | rfl | rfl <;> omega) (by simp) (HT.out.on HB3.out))
  simp only [List.nil_append] at HLN
  have HLN := Lib.hid (show Calls Tryz.prog 81 #[.string ⟨#[99, 108, 111, 99, 107]⟩, .slice (some ⟨w1.heap.size, 0, none⟩) 4 4, .pointer (some ⟨w.heap.size, 0, none⟩)] ((w1.alloc (.cells #[.int .i64 c.slack, .int .i64 c.idle, .int .i64 c.now, .int .i64 c.mark] 3)).drew) (LnPost ((w1.alloc (.cells #[.int .i64 c.slack, .int .i64 c.idle, .int .i64 c.now, .int .i64 c.mark] 3)).drew) w.heap.size w.heap.size (lineB [99, 108, 111, 99, 107] [c.slack, c.idle, c.now, c.mark])) from HLN.out)
  have HLL := Lib.hid (lineB_len [99, 108, 111, 99, 107] [c.slack, c.idle, c.now, c.mark] (by intro v hv; simp at hv; rcases hv with rfl | rfl | rfl | rfl <;> omega))
  simp only [List.length_cons, List.length_nil, Nat.zero_add, Nat.reduceAdd, Nat.reduceMul] at HLL
  generalize lineB [99, 108, 111, 99, 107] [c.slack, c.idle, c.now, c.mark] = hd at *
  go_region_held3 (fun W => W.cell? ⟨bc, 0, none⟩ = some (.int .i64 c.slack) ∧ W.cell? ⟨bc, 1, none⟩ = some (.int .i64 c.idle) ∧ W.cell? ⟨bc, 2, none⟩ = some (.int .i64 c.now) ∧ W.cell? ⟨bc, 3, none⟩ = some (.int .i64 c.mark)) (first | assumption | exact ⟨c0, c1, c2, c3⟩ | go_keep) ((go_at_call 81; (with_reducible refine HLN.out.mono ?_); rintro r w4 ⟨rfl, v4, h4⟩; have HC4 := Lib.hid (HC3.out.kept h4.kept (by omega) (by omega)); clear c0 c1 c2 c3 c4; obtain ⟨c0, c1, c2, c3, _, _, _⟩ := HC4.out.cells))
  clear c0 c1 c2 c3
  have HB4 := Lib.hid (HB3.out.trans h4.bel)
  have HX4 := Lib.hid h4.box
  have HO4 := Lib.hid h4.own
  have hs4 := h4.bel.size
  clear h4 HLN HC3 HB3 HX3 HN3
  generalize (w1.alloc (.cells #[.int .i64 c.slack, .int .i64 c.idle, .int .i64 c.now, .int .i64 c.mark] 3)).drew = w3 at *
  go_wp2_with fail
  with_reducible refine (clksrc_any w4 bc bm c HC4.out hml).mono ?_
  rintro r w5 ⟨v5, rfl, ho5, hb5⟩
  have hl5 : (c.src.map (·.1)).length = c.src.length := by simp
  obtain ⟨A5, k5, hv5⟩ := ownsRow_form ho5
  rw [hl5] at hv5
  have HO5 := Lib.hid ho5
  subst hv5
  have HC5 := Lib.hid (HC4.out.up hb5)
  have hxl : w.heap.size < w4.heap.size := (Array.getElem?_eq_some_iff.1 HX4.out).1
  have HS5 := Lib.hid (show BxSt w5 w.heap.size w.heap.size hd v4 w5 from ⟨HO4.out.below hb5 (Nat.le_refl _), (hb5.block _ hxl).trans HX4.out, Below.refl _ _, Lib.OthersKept.refl _ _ _⟩)
  have HB5 := Lib.hid (HB4.out.trans (hb5.mono (by omega)))
  have hs5 := hb5.size
  clear ho5 hb5 hl5 HC4 HX4 HO4
  have HR0 := Lib.hid (show CeRel w5 w.heap.size w.heap.size hd c.src (.int .i64 ((0 : Nat) : Int)) w5 from ⟨0, v4, rfl, Nat.zero_le _, by simpa [srcB] using HS5.out⟩)
  clear HS5
  go_wp2
  go_loopw [6, 30] (fun _ i wr => CeRel w5 w.heap.size w.heap.size hd c.src i wr) (fun _ i _ => c.src.length - (intOf i).toNat)
  case atStart => exact HR0.out
  case round =>
    obtain ⟨k, vk, rfl, hk, hst⟩ := hrel
    have HS := Lib.hid hst
    have hsr := hst.bel.size
    clear hst HR0
    have HCR := Lib.hid (HC5.out.kept HS.out.kept (by omega) (by omega))
    by_cases hkn : k < c.src.length
    · have t1 : (k : Int) < c.src.length := by omega
      have hmem := List.getElem_mem hkn
      have hso := HC5.out.ok.src _ hmem
      have hgb := getB_of_mem HC5.out.ok.rising (k := (c.src[k]).1) (v := (c.src[k]).2) hmem
      have HTK := Lib.hid (srcB_take c.src k hkn)
      have hlen := srcB_len HC5.out.ok k
      obtain ⟨g, hA5, hstr⟩ : ∃ g, A5 = some ⟨g, 0, none⟩ ∧ wr.cell? ⟨g, k, none⟩ = some (.string ⟨(c.src[k]).1.toArray⟩) := by
        have ho := HO5.out
        have hkb : ∀ b, (Value.slice A5 c.src.length k5).ownBlock = some b → wr.heap[b]? = w5.heap[b]? := fun b hb => by
          obtain ⟨cs, hcs⟩ := ownsRow_typ ho hb
          rw [hcs]
          exact kept_at HS.out.kept hcs (fun e => by
            have := (World.ownsRow.lt ho b hb).1
            omega) (fun c fz e => nomatch e)
        have ho2 := ownsRow_keep ho hkb
        have hl5 : (c.src.map (·.1)).length = c.src.length := by simp
        rw [hl5] at ho2
        obtain ⟨b, off, hA, _, hc⟩ := Strs.at_ (ss := c.src.map (·.1)) (Cel.of_own ho2) k (by simpa using hkn)
        rcases ho2.2 with ⟨e, _⟩ | ⟨g, cap, cur, e, _⟩
        · injection e with e; rw [e] at hA; cases hA
        · injection e with e
          rw [e] at hA; injection hA with hA; injection hA with h1 h2; subst h1 h2
          refine ⟨g, e, ?_⟩
          rw [Nat.zero_add] at hc
          rw [hc]; simp
      subst hA5
      have HL3 := Lib.hid (show hd ++ srcB (c.src.take k) ++ lineB (c.src[k]).1 [(c.src[k]).2.1, (c.src[k]).2.2] = hd ++ srcB (c.src.take (k + 1)) from by rw [HTK.out]; simp)
      have HPL := Lib.hid (show (hd ++ srcB (c.src.take k)).length ≤ 7000000 from by have := HLL.out; rw [List.length_append]; omega)
      clear HTK hlen hmem
      generalize hd ++ srcB (c.src.take k) = P at *
      generalize c.src[k] = p at *
      obtain ⟨nm, a, q⟩ := p
      dsimp only at hso hgb hstr HL3
      have hnm : nm.length ≤ 24 := by have := hso.1; unfold nameB at this; simp at this; omega
      have HLK := Lib.hid (show ∀ W, ClockAt W bc bm c → (Instr.lookup 104 (.map (some bm)) (.string ⟨nm.toArray⟩) false).run Tryz.prog W = .ok (.agg #[.int .i64 a, .int .i64 q]) W from fun W hW => by
        rw [look_src hW nm hnm, hgb]; rfl)
      clear hgb
      have hbA : Below wr.heap.size wr (wr.alloc (.cells #[.int .i64 a, .int .i64 q] 3)).drew := below_drew ((Below.refl _ _).alloc (Nat.le_refl _) _)
      have HCA := Lib.hid (HCR.out.up hbA)
      have HNA := Lib.hid (show ((wr.alloc (.cells #[.int .i64 a, .int .i64 q] 3)).drew).heap[wr.heap.size]? = some (.cells ([a, q].map (Value.int .i64)).toArray 3 (0, 0)) from heap_alloc_new wr _)
      have hxr := HS.out.blt
      have HLN := Lib.hid (enline_any ((wr.alloc (.cells #[.int .i64 a, .int .i64 q] 3)).drew) w.heap.size w.heap.size wr.heap.size P vk (HS.out.own.below hbA (Nat.le_refl _)) ((hbA.block _ hxr).trans HS.out.box) (Nat.le_refl _) nm [a, q] HNA.out (by intro v hv; simp at hv; rcases hv with rfl | rfl <;> omega) (by have := HPL.out; simp; omega) (HT.out.on ((HB5.out.trans HS.out.bel).trans (hbA.mono (by omega)))))
      have HLN := Lib.hid (show Calls Tryz.prog 81 #[.string ⟨nm.toArray⟩, .slice (some ⟨wr.heap.size, 0, none⟩) 2 2, .pointer (some ⟨w.heap.size, 0, none⟩)] ((wr.alloc (.cells #[.int .i64 a, .int .i64 q] 3)).drew) (LnPost ((wr.alloc (.cells #[.int .i64 a, .int .i64 q] 3)).drew) w.heap.size w.heap.size (P ++ lineB nm [a, q])) from HLN.out)
      rw [HL3.out] at HLN
      have HKA := Lib.hid (show Lib.OthersKept 5 (some w.heap.size) wr ((wr.alloc (.cells #[.int .i64 a, .int .i64 q] 3)).drew) from fun k o hk1 _ _ => (hbA.block k (Array.getElem?_eq_some_iff.1 hk1).1).trans hk1)
      have HBA := Lib.hid hbA
      obtain ⟨_, _, _, _, c4, _, _⟩ := HCR.out.cells
      have hlk := HLK.out wr HCR.out
      have hlkd := HLK.out wr.drew (HCR.out.up (below_drew (Below.refl _ _)))
      have hf0 : ∀ W, (Instr.field 127 (.agg #[.int .i64 a, .int .i64 q]) 0).run Tryz.prog W = .ok (.int .i64 a) W := fun _ => by kernel_rfl
      have hf1 : ∀ W, (Instr.field 127 (.agg #[.int .i64 a, .int .i64 q]) 1).run Tryz.prog W = .ok (.int .i64 q) W := fun _ => by kernel_rfl
      clear hbA
      go_wp2
      go_region_held3 (fun W => W.cell? ⟨bc, 4, none⟩ = some (.map (some bm)) ∧ (Instr.lookup 104 (.map (some bm)) (.string ⟨nm.toArray⟩) false).run Tryz.prog W = .ok (.agg #[.int .i64 a, .int .i64 q]) W) (first | assumption | exact ⟨c4, hlk⟩ | exact ⟨HCA.out.cells.c4, HLK.out _ HCA.out⟩ | go_keep) ((go_at_call 81; (with_reducible refine HLN.out.mono ?_); rintro r w9 ⟨rfl, v9, h9⟩; clear c4 hlk hlkd; have c4 := ((HCA.out.kept h9.kept (by omega) (by omega)).cells).c4; have hlk := HLK.out w9 (HCA.out.kept h9.kept (by omega) (by omega))))
      all_goals
        have HR9 := Lib.hid (show CeRel w5 w.heap.size w.heap.size hd c.src (.int .i64 ((k + 1 : Nat) : Int)) w9 from ⟨k + 1, v9, rfl, hkn, ⟨h9.own, h9.box, (HS.out.bel.trans ((HBA.out).mono (by omega))).trans h9.bel, (HS.out.kept.trans HKA.out).trans h9.kept⟩⟩)
        clear h9 hf0 hf1
        first
          | exact ⟨HR9.out, by simp [intOf]; omega⟩
          | (go_wp2; exact ⟨HR9.out, by simp [intOf]; omega⟩)
    · have t1 : ¬ (k : Int) < c.src.length := by omega
      have hkl : k = c.src.length := by omega
      have HE2 := Lib.hid (show hd ++ srcB (c.src.take k) = encC c from by rw [hkl, List.take_length, HE.out])
      rw [HE2.out] at HS
      obtain ⟨A9, k9, hv9⟩ := HS.out.own.form
      have HF := Lib.hid (show CePost w (encC c) (.returned vk) wr from ⟨vk, rfl, HS.out.own, HB5.out.trans HS.out.bel⟩)
      obtain ⟨c9, _⟩ := HS.out.cell
      subst hv9
      clear hkl
      go_wp2
      go_ret
      exact HF.out
end Go.Proofs.YtdjoaboalknlkaaGreatDoor
