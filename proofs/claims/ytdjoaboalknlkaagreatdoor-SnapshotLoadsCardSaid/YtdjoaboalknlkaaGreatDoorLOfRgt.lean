/-
  Layer 8: right, whether events may be those of an intake.
-/
import Derived.Test.YtdjoaboalknlkaaGreatDoorLOfStay
import Derived.RegionTactic
import Derived.BigRegion
import Derived.Deep.DeepCutAuto
import Derived.StillTailTactics
namespace Go.Proofs.YtdjoaboalknlkaaGreatDoor
open Go.RowKit Go.Maps Go.Sort

/-- what right begins with: the intake's block, its maps, the rows that it is asked of -/
structure RgIn (w : World) (B bi : Nat) (A : ItkA) (ng : Nat) (gone : List (List UInt8)) (hd : Had) (At Al : Option Addr) (nt kt nl kl : Nat) (taken late : List Ev) : Prop where
  blk : w.heap[bi]? = some (itkObj A)
  hs : HadAt w A.G A.bs A.bh hd A.V
  rows : ∀ s, (hadRow hd s).length ≤ 1000000
  lates : SetI w A.bl 0 []
  gs : SetB w A.bg ng gone
  max : MaxAt w
  tk : Evs w B At nt kt taken
  le : Evs w B Al nl kl late
  hnt : nt ≤ 200000
  hnl : nl ≤ 200000
  st : ∀ e ∈ taken, e.small
  sl : ∀ e ∈ late, e.small
  hib : bi ≠ A.bl
  hgb : A.bg ≠ A.bl
  hml : 0 < B
  hB : B ≤ A.bl
def RgPost (w : World) (bl : Nat) (gone : List (List UInt8)) (hd : Had) (taken late : List Ev) (r : Ending) (w' : World) : Prop :=
  w.grownBy w' (some bl) ∧ ((r = .returned (.bool true) ∧ RightOk gone hd taken late ∧ SetI w' bl late.length (late.map idOf)) ∨ (r = .returned (.bool false) ∧ ¬ RightOk gone hd taken late))
/-- the boxes of right: the intake's, the parts' -/
structure RgBox (w wr : World) (bi : Nat) (vp : Array Value) : Prop where
  b0 : wr.heap[w.heap.size]? = some (.cells #[.pointer (some ⟨bi, 0, none⟩)] 24)
  b1 : wr.heap[w.heap.size + 1]? = some (.cells vp 42)
def RgRel (w : World) (bi : Nat) (vp : Array Value) (gone : List (List UInt8)) (hd : Had) (taken : List Ev) (i : Value) (wr : World) : Prop :=
  ∃ k : Nat, i = .int .i64 k ∧ k ≤ taken.length ∧ (∀ j (h : j < taken.length), j < k → tkB gone hd taken j taken[j] = true) ∧ SetI wr (w.heap.size + 2) k ((taken.take k).map idOf) ∧ Below w.heap.size w wr ∧ RgBox w wr bi vp
def RlRel (w5 : World) (bl : Nat) (gone : List (List UInt8)) (late : List Ev) (i : Value) (wr : World) : Prop :=
  ∃ k : Nat, i = .int .i64 k ∧ k ≤ late.length ∧ (∀ j (h : j < late.length), j < k → ltB gone late j late[j] = true) ∧ SetI wr bl k ((late.take k).map idOf) ∧ w5.grownBy wr (some bl)

set_option maxRecDepth 100000 in
set_option maxHeartbeats 4000000 in
theorem right_any (w : World) (B bi : Nat) (A : ItkA) (ng : Nat) (gone : List (List UInt8)) (hd : Had) (At Al Ac Ah Ag : Option Addr) (nt kt nl kl nc kc nh kh ngo kgo : Nat) (taken late : List Ev) (a b : Int)
    (h : RgIn w B bi A ng gone hd At Al nt kt nl kl taken late) :
    Calls Tryz.prog 36 #[.pointer (some ⟨bi, 0, none⟩), ptsAgg a b (.slice Ac nc kc) (.slice Ah nh kh) (.slice At nt kt) (.slice Al nl kl) (.slice Ag ngo kgo)] w (RgPost w A.bl gone hd taken late) := by
  have HI := Lib.hid h
  have hlt : bi < w.heap.size := heap_lt h.blk
  have hbll := h.lates.lt
  have hlen1 := h.tk.len
  have hlen2 := h.le.len
  have hnt := h.hnt
  have hnl := h.hnl
  have hBB := h.hB
  clear h
  have hmm := @run_makeMap Tryz.prog
  have hcst := call_stays
  have hmk : ∀ W : World, (Instr.makeMap 58 (some (.int .i64 (nt : Int)))).run Tryz.prog W = .ok (.map (some W.heap.size)) (W.alloc (.map #[] 0)) := fun W => by
    unfold Instr.makeMap
    simp only [Sem.run_bind, run_underlying Tryz.underlying58, asInt, Sem.run_pure, Result.andThen_ok]
    rfl
  obtain ⟨vp, hvp⟩ : ∃ vp : Array Value, vp = #[.int .i64 a, .int .i64 b, .slice Ac nc kc, .slice Ah nh kh, .slice At nt kt, .slice Al nl kl, .slice Ag ngo kgo] := ⟨_, rfl⟩
  have HB0 := Lib.hid (show Below w.heap.size w (((w.alloc (.cells #[.pointer (some ⟨bi, 0, none⟩)] 24)).alloc (.cells #[.int .i64 a, .int .i64 b, .slice Ac nc kc, .slice Ah nh kh, .slice At nt kt, .slice Al nl kl, .slice Ag ngo kgo] 42)).alloc (.map #[] 0)) from
    (((Below.refl _ _).alloc (Nat.le_refl _) _).alloc (by simp) _).alloc (by simp; omega) _)
  have HX0 := Lib.hid (show RgBox w (((w.alloc (.cells #[.pointer (some ⟨bi, 0, none⟩)] 24)).alloc (.cells #[.int .i64 a, .int .i64 b, .slice Ac nc kc, .slice Ah nh kh, .slice At nt kt, .slice Al nl kl, .slice Ag ngo kgo] 42)).alloc (.map #[] 0)) bi vp from by
    refine ⟨?_, ?_⟩
    · rw [Below.heap_alloc _ _ _ (by simp; omega), Below.heap_alloc _ _ _ (by simp)]; exact heap_alloc_new w _
    · rw [Below.heap_alloc _ _ _ (by simp), hvp]
      have := heap_alloc_new (w.alloc (.cells #[.pointer (some ⟨bi, 0, none⟩)] 24)) (.cells #[.int .i64 a, .int .i64 b, .slice Ac nc kc, .slice Ah nh kh, .slice At nt kt, .slice Al nl kl, .slice Ag ngo kgo] 42)
      rw [show (w.alloc (.cells #[.pointer (some ⟨bi, 0, none⟩)] 24)).heap.size = w.heap.size + 1 by simp] at this
      exact this)
  have HS0 := Lib.hid (show SetI (((w.alloc (.cells #[.pointer (some ⟨bi, 0, none⟩)] 24)).alloc (.cells #[.int .i64 a, .int .i64 b, .slice Ac nc kc, .slice Ah nh kh, .slice At nt kt, .slice Al nl kl, .slice Ag ngo kgo] 42)).alloc (.map #[] 0)) (w.heap.size + 2) 0 [] from by
    have := SetI.made ((w.alloc (.cells #[.pointer (some ⟨bi, 0, none⟩)] 24)).alloc (.cells #[.int .i64 a, .int .i64 b, .slice Ac nc kc, .slice Ah nh kh, .slice At nt kt, .slice Al nl kl, .slice Ag ngo kgo] 42))
    rw [show ((w.alloc (.cells #[.pointer (some ⟨bi, 0, none⟩)] 24)).alloc (.cells #[.int .i64 a, .int .i64 b, .slice Ac nc kc, .slice Ah nh kh, .slice At nt kt, .slice Al nl kl, .slice Ag ngo kgo] 42)).heap.size = w.heap.size + 2 by simp] at this
    exact this)
  have HVP := Lib.hid hvp
  clear hvp
  go_wp2
  clear hmk hmm
  generalize ((w.alloc (.cells #[.pointer (some ⟨bi, 0, none⟩)] 24)).alloc (.cells #[.int .i64 a, .int .i64 b, .slice Ac nc kc, .slice Ah nh kh, .slice At nt kt, .slice Al nl kl, .slice Ag ngo kgo] 42)).alloc (.map #[] 0) = w5 at *
  go_loopw [25] (fun i wr => RgRel w bi vp gone hd taken i wr) (fun i _ => nt - (intOf i).toNat)
  case atStart => exact ⟨0, rfl, Nat.zero_le _, fun j _ h => absurd h (Nat.not_lt_zero _), HS0.out, HB0.out, HX0.out⟩
  case round =>
    obtain ⟨k, rfl, hk, htk, hset, hbel, hbox⟩ := hrel
    have HTK := Lib.hid htk; have HSE := Lib.hid hset; have HBE := Lib.hid hbel; have HBO := Lib.hid hbox
    have hsr : w.heap.size + 3 ≤ wr.heap.size := hset.lt
    clear htk hset hbel hbox
    by_cases hkn : k < nt
    · have hkl : k < taken.length := by omega
      obtain ⟨eb, eo, hAt, hb, hev⟩ := HI.out.tk.ev k hkl
      have HAT := Lib.hid hAt; have HKN := Lib.hid hkl
      have HKT := Lib.hid (show tkB gone hd taken k taken[k] = (mayB taken[k] && !decide (idOf taken[k] ∈ (taken.take k).map idOf) && staysB gone taken[k] && hadB hd taken[k].src taken[k].num && (decide (k = 0) || (cmpE taken[k] (taken.getD (k - 1) taken[k]) == 1)) && (!(taken[k].kind == 14) || decide (taken[k].per ∈ gone))) from rfl)
      have HSM := Lib.hid (HI.out.st _ (List.getElem_mem hkl))
      have hebw : eb < w.heap.size := by omega
      obtain ⟨e0, e1, e2, e3, e4, e5, e6, e7⟩ := hev.below HBE.out hebw
      have HNX := Lib.hid (show tkB gone hd taken k taken[k] = true → ∀ j (h : j < taken.length), j < k + 1 → tkB gone hd taken j taken[j] = true from fun ht j hj hjk => by
        by_cases e : j = k
        · subst e; exact ht
        · exact HTK.out j hj (by omega))
      have HNO := Lib.hid (show tkB gone hd taken k taken[k] = false → ¬ RightOk gone hd taken late from fun ht hr => Bool.noConfusion (ht.symm.trans (hr.taken k hkl)))
      have HIX := Lib.hid (show ∀ q, q ∈ idOf taken[k] :: (taken.take k).map idOf ↔ q ∈ (taken.take (k + 1)).map idOf from fun q => by
        rw [List.take_add_one, List.getElem?_eq_getElem hkl, Option.toList_some]
        simp only [List.map_append, List.map_cons, List.map_nil, List.mem_append, List.mem_cons, List.not_mem_nil, or_false]
        exact Or.comm)
      have q4 : wr.cell? ⟨w.heap.size + 1, 4, none⟩ = some (.slice At nt kt) := (cell_of_row wr (w.heap.size + 1) 4 _ _ (0, 0) HBO.out.b1).trans (by rw [HVP.out]; rfl)
      have t1 : (k : Int) < nt := by omega
      generalize taken[k] = y at *
      rw [hAt]
      go_wp2_with fail
      have hbA : Below w.heap.size w (wr.alloc (evObj y)) := HBE.out.alloc HBE.out.size _
      have HEA := Lib.hid (EvIn.new wr y)
      have HSA := Lib.hid (HSE.out.block (w' := wr.alloc (evObj y)) (Below.heap_alloc _ _ _ (by omega)))
      have HOA := Lib.hid (show RgBox w (wr.alloc (evObj y)) bi vp from ⟨(Below.heap_alloc _ _ _ (by omega)).trans HBO.out.b0, (Below.heap_alloc _ _ _ (by omega)).trans HBO.out.b1⟩)
      have hsA : (wr.alloc (evObj y)).heap.size = wr.heap.size + 1 := by simp
      have hag : (Value.agg #[.string ⟨y.src.toArray⟩, .int .i64 y.num, .int .i64 y.at_, .int .i64 y.kind, .string ⟨y.per.toArray⟩, .string ⟨y.item.toArray⟩, .int .i64 y.val, .string ⟨y.text.toArray⟩]) = y.agg := rfl
      generalize wr.alloc (evObj y) = w6 at *
      rw [hag]
      refine (ident_any w6 y).mono ?_
      rintro r w7 ⟨rfl, hb7⟩
      have hb8 : Below w6.heap.size w6 (w7.alloc (.cells #[.string ⟨y.src.toArray⟩, .int .i64 y.num] 138)) := hb7.alloc hb7.size _
      have hs7 := hb7.size
      have HI8 := Lib.hid (show (w7.alloc (.cells #[.string ⟨y.src.toArray⟩, .int .i64 y.num] 138)).heap[w7.heap.size]? = some (.cells #[.string ⟨y.src.toArray⟩, .int .i64 y.num] 138 (0, 0)) from heap_alloc_new w7 _)
      have HE8 := Lib.hid (HEA.out.below hb8 (by omega))
      have HS8 := Lib.hid (HSA.out.block (hb8.block _ (by omega)))
      have HO8 := Lib.hid (show RgBox w (w7.alloc (.cells #[.string ⟨y.src.toArray⟩, .int .i64 y.num] 138)) bi vp from ⟨(hb8.block _ (by omega)).trans HOA.out.b0, (hb8.block _ (by omega)).trans HOA.out.b1⟩)
      have HB8 := Lib.hid (show Below w.heap.size w (w7.alloc (.cells #[.string ⟨y.src.toArray⟩, .int .i64 y.num] 138)) from hbA.trans (hb8.mono hbA.size))
      have hs8 : w7.heap.size < (w7.alloc (.cells #[.string ⟨y.src.toArray⟩, .int .i64 y.num] 138)).heap.size := by simp
      clear hag hbA hb7 hb8 e0 e1 e2 e3 e4 e5 e6 e7 q4 HEA HSA HOA hev
      go_upto_region 9 with fail
      generalize w7.alloc (.cells #[.string ⟨y.src.toArray⟩, .int .i64 y.num] 138) = w8 at *
      have HSS := Lib.hid (show ∀ W, Below w8.heap.size w8 W → (W.cell? ⟨wr.heap.size, 0, none⟩ = some (.string ⟨y.src.toArray⟩) ∧ W.cell? ⟨wr.heap.size, 1, none⟩ = some (.int .i64 y.num) ∧ W.cell? ⟨wr.heap.size, 2, none⟩ = some (.int .i64 y.at_) ∧ W.cell? ⟨wr.heap.size, 3, none⟩ = some (.int .i64 y.kind) ∧ W.cell? ⟨wr.heap.size, 4, none⟩ = some (.string ⟨y.per.toArray⟩) ∧ W.cell? ⟨wr.heap.size, 5, none⟩ = some (.string ⟨y.item.toArray⟩) ∧ W.cell? ⟨wr.heap.size, 6, none⟩ = some (.int .i64 y.val) ∧ W.cell? ⟨wr.heap.size, 7, none⟩ = some (.string ⟨y.text.toArray⟩))
          ∧ (W.cell? ⟨w7.heap.size, 0, none⟩ = some (.string ⟨y.src.toArray⟩) ∧ W.cell? ⟨w7.heap.size, 1, none⟩ = some (.int .i64 y.num)) ∧ W.cell? ⟨w.heap.size, 0, none⟩ = some (.pointer (some ⟨bi, 0, none⟩)) ∧ W.cell? ⟨w.heap.size + 1, 4, none⟩ = some (.slice At nt kt) ∧ W.cell? ⟨bi, 1, none⟩ = some (.pointer (some ⟨A.bs, 0, none⟩)) ∧ W.cell? ⟨bi, 5, none⟩ = some (.map (some A.bg)) from fun W hW => by
        have hbB := (HB8.out.trans (hW.mono HB8.out.size)).block bi hlt
        refine ⟨HE8.out.below hW (by omega), ?_, (cell_of_row W w.heap.size 0 _ _ (0, 0) ((hW.block _ (by omega)).trans HO8.out.b0)).trans rfl, (cell_of_row W (w.heap.size + 1) 4 _ _ (0, 0) ((hW.block _ (by omega)).trans HO8.out.b1)).trans (by rw [HVP.out]; rfl), (cell_of_row W bi 1 _ _ (0, 0) (hbB.trans HI.out.blk)).trans rfl, (cell_of_row W bi 5 _ _ (0, 0) (hbB.trans HI.out.blk)).trans rfl⟩
        exact ⟨(cell_of_row W w7.heap.size 0 _ _ (0, 0) ((hW.block _ hs8).trans HI8.out)).trans rfl, (cell_of_row W w7.heap.size 1 _ _ (0, 0) ((hW.block _ hs8).trans HI8.out)).trans rfl⟩)
      have HWB := Lib.hid (show ∀ W, Below w8.heap.size w8 W → Below w.heap.size w W from fun W hW => HB8.out.trans (hW.mono HB8.out.size))
      have HMAY := Lib.hid (show ∀ W, Below w8.heap.size w8 W → Calls Tryz.prog 65 #[y.agg] W (Says (mayB y) W) from fun W hW => may_any W y HSM.out (HI.out.max.up (HWB.out W hW)))
      have HSTY := Lib.hid (show ∀ W, Below w8.heap.size w8 W → Calls Tryz.prog 74 #[y.agg, .pointer (some ⟨w.heap.size, 0, none⟩)] W (Says (staysB gone y) W) from fun W hW => by
        obtain ⟨_, _, x0, _, _, x5⟩ := HSS.out W hW
        exact stays_any W w.heap.size bi A.bg ng gone y HSM.out x0 x5 (HI.out.gs.block ((HWB.out W hW).block _ HI.out.gs.lt)))
      have HHAS := Lib.hid (show ∀ W, Below w8.heap.size w8 W → Calls Tryz.prog 76 #[.pointer (some ⟨A.bs, 0, none⟩), .string ⟨y.src.toArray⟩, .int .i64 y.num] W (Says (hadB hd y.src y.num) W) from fun W hW =>
        has_any W A.G A.bs A.bh hd A.V (HI.out.hs.up (HWB.out W hW)) y.src HSM.out.1 (HI.out.rows _) y.num)
      have HLK := Lib.hid (show ∀ W, Below w8.heap.size w8 W → mayB y = true → (Instr.lookup 58 (.map (some (w.heap.size + 1 + 1))) (.agg #[.string ⟨y.src.toArray⟩, .int .i64 y.num]) false).run Tryz.prog W = .ok (.bool (decide (idOf y ∈ (taken.take k).map idOf))) W from fun W hW hm =>
        (HS8.out.block (hW.block _ (by omega))).look y.src y.num (may_id hm))
      have HGK := Lib.hid (show ∀ W, Below w8.heap.size w8 W → (Instr.lookup 59 (.map (some A.bg)) (.string ⟨y.per.toArray⟩) false).run Tryz.prog W = .ok (.bool (decide (y.per ∈ gone))) W from fun W hW =>
        (HI.out.gs.block ((HWB.out W hW).block _ HI.out.gs.lt)).look y.per (by have := HSM.out.2.1; unfold maxLen; omega))
      have HBAD := Lib.hid (show tkB gone hd taken k y = false → ∀ W, Below w8.heap.size w8 W → RgPost w A.bl gone hd taken late (.returned (.bool false)) W from fun ht W hW =>
        ⟨⟨(HWB.out W hW).os, (HWB.out W hW).tape, (HWB.out W hW).output, (HWB.out W hW).size, fun i hi _ => (HWB.out W hW).block i hi⟩, .inr ⟨rfl, HNO.out ht⟩⟩)
      unfold Ev.agg at HMAY HSTY
      generalize hmy : mayB y = mb at *
      generalize hid : decide (idOf y ∈ (taken.take k).map idOf) = ib at *
      generalize hst : staysB gone y = sb at *
      cases mb
      · have HT := Lib.hid (show tkB gone hd taken k y = false by rw [HKT.out]; rfl)
        clear hid hst hmy
        refine wp_region_quiet (C := fun wx => Below w8.heap.size w8 wx) (by kernel_rfl) (by kernel_rfl) (below_drew (Below.refl _ _)) ?_
        simp only
        repeat (first
          | go_big_quiet_skip
          | (go_big_quiet_want; go_big_quiet_op; go_big_quiet_on)
          | (refine wpQuiet_step (fun K hK => ?_)
             go_simp
             first
               | (refine hK _ ?_; clear hK K)
               | (apply Exists.intro
                  refine ⟨fun wx hx => ?_, hK _ ?_⟩
                  · (obtain ⟨⟨q0, q1, q2, q3, q4, q5, q6, q7⟩, ⟨i0, i1⟩, x0, x4, x1, x5⟩ := HSS.out wx hx; go_simp; first | done | rfl | exact ⟨rfl, rfl⟩ | (refine (HMAY.out wx hx).mono ?_; rintro r w9 ⟨hr, hb9⟩; exact ⟨hr, hx.trans (hb9.mono hx.size)⟩))
                  clear hK K)))
        refine wpQuiet_nil ?_
        intro w9 hb9
        go_wp2
        go_ret
        exact HBAD.out HT.out _ hb9
      cases ib
      rotate_left
      · have HT := Lib.hid (show tkB gone hd taken k y = false by rw [HKT.out]; simp)
        clear hid hst hmy
        refine wp_region_quiet (C := fun wx => Below w8.heap.size w8 wx) (by kernel_rfl) (by kernel_rfl) (below_drew (Below.refl _ _)) ?_
        simp only
        repeat (first
          | go_big_quiet_skip
          | (go_big_quiet_want; go_big_quiet_op; go_big_quiet_on)
          | (refine wpQuiet_step (fun K hK => ?_)
             go_simp
             first
               | (refine hK _ ?_; clear hK K)
               | (apply Exists.intro
                  refine ⟨fun wx hx => ?_, hK _ ?_⟩
                  · (obtain ⟨⟨q0, q1, q2, q3, q4, q5, q6, q7⟩, ⟨i0, i1⟩, x0, x4, x1, x5⟩ := HSS.out wx hx; have l0 := HLK.out wx hx rfl; go_simp; first | done | rfl | exact ⟨rfl, rfl⟩ | (refine (HMAY.out wx hx).mono ?_; rintro r w9 ⟨hr, hb9⟩; exact ⟨hr, hx.trans (hb9.mono hx.size)⟩))
                  clear hK K)))
        refine wpQuiet_nil ?_
        intro w9 hb9
        go_wp2
        go_ret
        exact HBAD.out HT.out _ hb9
      cases sb
      · have HT := Lib.hid (show tkB gone hd taken k y = false by rw [HKT.out]; simp)
        clear hid hst hmy
        refine wp_region_quiet (C := fun wx => Below w8.heap.size w8 wx) (by kernel_rfl) (by kernel_rfl) (below_drew (Below.refl _ _)) ?_
        simp only
        repeat (first
          | go_big_quiet_skip
          | (go_big_quiet_want; go_big_quiet_op; go_big_quiet_on)
          | (refine wpQuiet_step (fun K hK => ?_)
             go_simp
             first
               | (refine hK _ ?_; clear hK K)
               | (apply Exists.intro
                  refine ⟨fun wx hx => ?_, hK _ ?_⟩
                  · (obtain ⟨⟨q0, q1, q2, q3, q4, q5, q6, q7⟩, ⟨i0, i1⟩, x0, x4, x1, x5⟩ := HSS.out wx hx; have l0 := HLK.out wx hx rfl; go_simp; first | done | rfl | exact ⟨rfl, rfl⟩ | (refine (HMAY.out wx hx).mono ?_; rintro r w9 ⟨hr, hb9⟩; exact ⟨hr, hx.trans (hb9.mono hx.size)⟩) | (refine (HSTY.out wx hx).mono ?_; rintro r w9 ⟨hr, hb9⟩; exact ⟨hr, hx.trans (hb9.mono hx.size)⟩))
                  clear hK K)))
        refine wpQuiet_nil ?_
        intro w9 hb9
        go_wp2
        go_ret
        exact HBAD.out HT.out _ hb9
      have HMY := Lib.hid hmy
      clear hid hst hmy
      generalize hhv : hadB hd y.src y.num = hv at *
      clear hhv
      refine wp_region_quiet (C := fun wx => Below w8.heap.size w8 wx) (by kernel_rfl) (by kernel_rfl) (below_drew (Below.refl _ _)) ?_
      simp only
      repeat (first
        | go_big_quiet_skip
        | (go_big_quiet_want; go_big_quiet_op; go_big_quiet_on)
        | (refine wpQuiet_step (fun K hK => ?_)
           go_simp
           first
             | (refine hK _ ?_; clear hK K)
             | (apply Exists.intro
                refine ⟨fun wx hx => ?_, hK _ ?_⟩
                · (obtain ⟨⟨q0, q1, q2, q3, q4, q5, q6, q7⟩, ⟨i0, i1⟩, x0, x4, x1, x5⟩ := HSS.out wx hx; have l0 := HLK.out wx hx rfl; go_simp; first | done | rfl | exact ⟨rfl, rfl⟩ | (refine (HMAY.out wx hx).mono ?_; rintro r w9 ⟨hr, hb9⟩; exact ⟨hr, hx.trans (hb9.mono hx.size)⟩) | (refine (HSTY.out wx hx).mono ?_; rintro r w9 ⟨hr, hb9⟩; exact ⟨hr, hx.trans (hb9.mono hx.size)⟩) | (refine (HHAS.out wx hx).mono ?_; rintro r w9 ⟨hr, hb9⟩; exact ⟨hr, hx.trans (hb9.mono hx.size)⟩))
                clear hK K)))
      refine wpQuiet_nil ?_
      intro w9 hb9
      cases hv
      · have HT := Lib.hid (show tkB gone hd taken k y = false by rw [HKT.out]; simp)
        go_wp2
        go_ret
        exact HBAD.out HT.out _ hb9
      have hs82 : w.heap.size + 1 + 1 < w8.heap.size := by omega
      go_upto_region 11 with fail
      by_cases hk0 : k = 0
      · have d0 : decide ((0 : Int) < (k : Int)) = false := decide_eq_false (by omega)
        have d1 : decide (0 < k) = false := decide_eq_false (by omega)
        have HKU := Lib.hid (show tkB gone hd taken k y = (!(y.kind == 14) || decide (y.per ∈ gone)) by rw [HKT.out, hk0]; simp)
        clear HKT hk0
        refine wp_region_quiet (C := fun wx => Below w8.heap.size w8 wx) (by kernel_rfl) (by kernel_rfl) (below_drew hb9) ?_
        simp only
        repeat (first
          | go_big_quiet_skip
          | (go_big_quiet_want; go_big_quiet_op; go_big_quiet_on)
          | (refine wpQuiet_step (fun K hK => ?_)
             go_simp
             first
               | (refine hK _ ?_; clear hK K)
               | (apply Exists.intro
                  refine ⟨fun wx hx => ?_, hK _ ?_⟩
                  · (obtain ⟨⟨q0, q1, q2, q3, q4, q5, q6, q7⟩, ⟨i0, i1⟩, x0, x4, x1, x5⟩ := HSS.out wx hx; go_simp; first | done | rfl | exact ⟨rfl, rfl⟩)
                  clear hK K)))
        refine wpQuiet_nil ?_
        intro w11 hb11
        clear d0 d1
        go_upto_region 13 with fail
        cases hk14 : (y.kind == 14)
        · have hd14 : decide (y.kind = 14) = false := decide_eq_false (by simpa using hk14)
          have HT := Lib.hid (show tkB gone hd taken k y = true by rw [HKU.out, hk14]; rfl)
          clear HKU
          have hxx := HKN
          refine wp_region_quiet (C := fun wx => Below w8.heap.size w8 wx) (by kernel_rfl) (by kernel_rfl) (below_drew hb11) ?_
          simp only
          repeat (first
            | go_big_quiet_skip
            | (go_big_quiet_want; go_big_quiet_op; go_big_quiet_on)
            | (refine wpQuiet_step (fun K hK => ?_)
               go_simp
               first
                 | (refine hK _ ?_; clear hK K)
                 | (apply Exists.intro
                    refine ⟨fun wx hx => ?_, hK _ ?_⟩
                    · (obtain ⟨⟨q0, q1, q2, q3, q4, q5, q6, q7⟩, ⟨i0, i1⟩, x0, x4, x1, x5⟩ := HSS.out wx hx; go_simp; first | done | rfl | exact ⟨rfl, rfl⟩)
                    clear hK K)))
          refine wpQuiet_nil ?_
          intro w13 hb13
          obtain ⟨w15, hr15, hs15, hg15⟩ := (HS8.out.block (hb13.block _ hs82)).put (by unfold maxLen; omega) y.src y.num (may_id HMY.out)
          obtain ⟨⟨q0, q1, q2, q3, q4, q5, q6, q7⟩, ⟨i0, i1⟩, x0, x4, x1, x5⟩ := HSS.out w13 hb13
          have HRR := Lib.hid (show RgRel w bi vp gone hd taken (.int .i64 ((k + 1 : Nat) : Int)) w15 from ⟨k + 1, rfl, by omega, HNX.out HT.out, hs15.congr HIX.out, (HWB.out w13 hb13).grown hg15 (HWB.out w13 hb13).size (fun j hj => by injection hj with hj; omega),
            ⟨(hg15.block _ (by have := hb13.size; omega) (fun e => by injection e with e; omega)).trans ((hb13.block _ (by omega)).trans HO8.out.b0), (hg15.block _ (by have := hb13.size; omega) (fun e => by injection e with e; omega)).trans ((hb13.block _ (by omega)).trans HO8.out.b1)⟩⟩)
          have ew15 : IntKind.i64.wrap ((k : Int) + 1) = (k : Int) + 1 := IntWalk.i64_in _ (by omega)
          clear hs15 hg15
          go_wp2
          go_roundw
          case rel => exact HRR.out
          case measure => simp [intOf]; omega
        · have hd14 : decide (y.kind = 14) = true := decide_eq_true (by simpa using hk14)
          have HKV := Lib.hid (show tkB gone hd taken k y = decide (y.per ∈ gone) by rw [HKU.out, hk14]; simp)
          clear HKU
          generalize hpg : decide (y.per ∈ gone) = pg at *
          clear hpg
          refine wp_region_quiet (C := fun wx => Below w8.heap.size w8 wx) (by kernel_rfl) (by kernel_rfl) (below_drew hb11) ?_
          simp only
          repeat (first
            | go_big_quiet_skip
            | (go_big_quiet_want; go_big_quiet_op; go_big_quiet_on)
            | (refine wpQuiet_step (fun K hK => ?_)
               go_simp
               first
                 | (refine hK _ ?_; clear hK K)
                 | (apply Exists.intro
                    refine ⟨fun wx hx => ?_, hK _ ?_⟩
                    · (obtain ⟨⟨q0, q1, q2, q3, q4, q5, q6, q7⟩, ⟨i0, i1⟩, x0, x4, x1, x5⟩ := HSS.out wx hx; have l1 := HGK.out wx hx; go_simp; first | done | rfl | exact ⟨rfl, rfl⟩)
                    clear hK K)))
          refine wpQuiet_nil ?_
          intro w13 hb13
          cases pg
          · have HT := Lib.hid (show tkB gone hd taken k y = false from HKV.out)
            go_wp2
            go_ret
            exact HBAD.out HT.out _ hb13
          · have HT := Lib.hid (show tkB gone hd taken k y = true from HKV.out)
            obtain ⟨w15, hr15, hs15, hg15⟩ := (HS8.out.block (hb13.block _ hs82)).put (by unfold maxLen; omega) y.src y.num (may_id HMY.out)
            obtain ⟨⟨q0, q1, q2, q3, q4, q5, q6, q7⟩, ⟨i0, i1⟩, x0, x4, x1, x5⟩ := HSS.out w13 hb13
            have HRR := Lib.hid (show RgRel w bi vp gone hd taken (.int .i64 ((k + 1 : Nat) : Int)) w15 from ⟨k + 1, rfl, by omega, HNX.out HT.out, hs15.congr HIX.out, (HWB.out w13 hb13).grown hg15 (HWB.out w13 hb13).size (fun j hj => by injection hj with hj; omega),
              ⟨(hg15.block _ (by have := hb13.size; omega) (fun e => by injection e with e; omega)).trans ((hb13.block _ (by omega)).trans HO8.out.b0), (hg15.block _ (by have := hb13.size; omega) (fun e => by injection e with e; omega)).trans ((hb13.block _ (by omega)).trans HO8.out.b1)⟩⟩)
            have ew15 : IntKind.i64.wrap ((k : Int) + 1) = (k : Int) + 1 := IntWalk.i64_in _ (by omega)
            clear hs15 hg15
            go_wp2
            go_roundw
            case rel => exact HRR.out
            case measure => simp [intOf]; omega
      · obtain ⟨k', hkk⟩ : ∃ k', k = k' + 1 := ⟨k - 1, by omega⟩
        have d0 : decide ((0 : Int) < (k : Int)) = true := decide_eq_true (by omega)
        have d1 : decide (0 < k) = true := decide_eq_true (by omega)
        have ew : IntKind.i64.wrap ((k : Int) - 1) = (k' : Int) := by
          have e : (k : Int) - 1 = k' := by omega
          rw [e]; exact IntWalk.i64_in _ (by omega)
        have t3 : (k' : Int) < nt := by omega
        have hk'l : k' < taken.length := by omega
        have hzz : taken.getD k' y = taken[k'] := by rw [List.getD_eq_getElem?_getD, List.getElem?_eq_getElem hk'l]; rfl
        obtain ⟨eb', eo', hAt', hb', hev'⟩ := HI.out.tk.ev k' hk'l
        obtain ⟨rfl, rfl⟩ : eb' = eb ∧ eo' = eo := by have := hAt'.symm.trans HAT.out; injection this with this; injection this with h1 h2; exact ⟨h1, h2⟩
        have HKW := Lib.hid (show tkB gone hd taken k y = ((cmpE y taken[k'] == 1) && (!(y.kind == 14) || decide (y.per ∈ gone))) by
          rw [HKT.out, ← hzz, hkk]; simp)
        clear HKT hzz hkk hk0
        generalize taken[k'] = z at *
        have HEZ := Lib.hid (show ∀ W, Below w8.heap.size w8 W → EvAt W eb' (eo' + k' * 8) z from fun W hW => hev'.below (HWB.out W hW) hebw)
        have HCM := Lib.hid (show ∀ W, Below w8.heap.size w8 W → Calls Tryz.prog 77 #[y.agg, z.agg] W (fun e w' => e = .returned (.int .i64 (cmpE y z)) ∧ Below W.heap.size W w') from fun W _ => compare_any W y z)
        unfold Ev.agg at HCM
        clear hev' hAt' hb'
        generalize hcz : cmpE y z = cz at *
        refine wp_region_quiet (C := fun wx => Below w8.heap.size w8 wx) (by kernel_rfl) (by kernel_rfl) (below_drew hb9) ?_
        simp only
        repeat (first
          | go_big_quiet_skip
          | (go_big_quiet_want; go_big_quiet_op; go_big_quiet_on)
          | (refine wpQuiet_step (fun K hK => ?_)
             go_simp
             first
               | (refine hK _ ?_; clear hK K)
               | (apply Exists.intro
                  refine ⟨fun wx hx => ?_, hK _ ?_⟩
                  · (obtain ⟨⟨q0, q1, q2, q3, q4, q5, q6, q7⟩, ⟨i0, i1⟩, x0, x4, x1, x5⟩ := HSS.out wx hx; obtain ⟨z0, z1, z2, z3, z4, z5, z6, z7⟩ := HEZ.out wx hx; rewrite [HAT.out] at x4; go_simp; first | done | rfl | exact ⟨rfl, rfl⟩ | (refine (HCM.out wx hx).mono ?_; rintro r w9 ⟨hr, hb9⟩; exact ⟨hr, hx.trans (hb9.mono hx.size)⟩))
                  clear hK K)))
        refine wpQuiet_nil ?_
        intro w11 hb11
        clear d0 d1 ew t3 HCM HEZ hcz
        by_cases hc1 : cz = 1
        · subst hc1
          have HKU := Lib.hid (show tkB gone hd taken k y = (!(y.kind == 14) || decide (y.per ∈ gone)) by rw [HKW.out]; simp)
          clear HKW
          go_upto_region 13 with fail
          cases hk14 : (y.kind == 14)
          · have hd14 : decide (y.kind = 14) = false := decide_eq_false (by simpa using hk14)
            have HT := Lib.hid (show tkB gone hd taken k y = true by rw [HKU.out, hk14]; rfl)
            clear HKU
            have hxx := HKN
            refine wp_region_quiet (C := fun wx => Below w8.heap.size w8 wx) (by kernel_rfl) (by kernel_rfl) (below_drew hb11) ?_
            simp only
            repeat (first
              | go_big_quiet_skip
              | (go_big_quiet_want; go_big_quiet_op; go_big_quiet_on)
              | (refine wpQuiet_step (fun K hK => ?_)
                 go_simp
                 first
                   | (refine hK _ ?_; clear hK K)
                   | (apply Exists.intro
                      refine ⟨fun wx hx => ?_, hK _ ?_⟩
                      · (obtain ⟨⟨q0, q1, q2, q3, q4, q5, q6, q7⟩, ⟨i0, i1⟩, x0, x4, x1, x5⟩ := HSS.out wx hx; go_simp; first | done | rfl | exact ⟨rfl, rfl⟩)
                      clear hK K)))
            refine wpQuiet_nil ?_
            intro w13 hb13
            obtain ⟨w15, hr15, hs15, hg15⟩ := (HS8.out.block (hb13.block _ hs82)).put (by unfold maxLen; omega) y.src y.num (may_id HMY.out)
            obtain ⟨⟨q0, q1, q2, q3, q4, q5, q6, q7⟩, ⟨i0, i1⟩, x0, x4, x1, x5⟩ := HSS.out w13 hb13
            have HRR := Lib.hid (show RgRel w bi vp gone hd taken (.int .i64 ((k + 1 : Nat) : Int)) w15 from ⟨k + 1, rfl, by omega, HNX.out HT.out, hs15.congr HIX.out, (HWB.out w13 hb13).grown hg15 (HWB.out w13 hb13).size (fun j hj => by injection hj with hj; omega),
              ⟨(hg15.block _ (by have := hb13.size; omega) (fun e => by injection e with e; omega)).trans ((hb13.block _ (by omega)).trans HO8.out.b0), (hg15.block _ (by have := hb13.size; omega) (fun e => by injection e with e; omega)).trans ((hb13.block _ (by omega)).trans HO8.out.b1)⟩⟩)
            have ew15 : IntKind.i64.wrap ((k : Int) + 1) = (k : Int) + 1 := IntWalk.i64_in _ (by omega)
            clear hs15 hg15
            go_wp2
            go_roundw
            case rel => exact HRR.out
            case measure => simp [intOf]; omega
          · have hd14 : decide (y.kind = 14) = true := decide_eq_true (by simpa using hk14)
            have HKV := Lib.hid (show tkB gone hd taken k y = decide (y.per ∈ gone) by rw [HKU.out, hk14]; simp)
            clear HKU
            generalize hpg : decide (y.per ∈ gone) = pg at *
            clear hpg
            refine wp_region_quiet (C := fun wx => Below w8.heap.size w8 wx) (by kernel_rfl) (by kernel_rfl) (below_drew hb11) ?_
            simp only
            repeat (first
              | go_big_quiet_skip
              | (go_big_quiet_want; go_big_quiet_op; go_big_quiet_on)
              | (refine wpQuiet_step (fun K hK => ?_)
                 go_simp
                 first
                   | (refine hK _ ?_; clear hK K)
                   | (apply Exists.intro
                      refine ⟨fun wx hx => ?_, hK _ ?_⟩
                      · (obtain ⟨⟨q0, q1, q2, q3, q4, q5, q6, q7⟩, ⟨i0, i1⟩, x0, x4, x1, x5⟩ := HSS.out wx hx; have l1 := HGK.out wx hx; go_simp; first | done | rfl | exact ⟨rfl, rfl⟩)
                      clear hK K)))
            refine wpQuiet_nil ?_
            intro w13 hb13
            cases pg
            · have HT := Lib.hid (show tkB gone hd taken k y = false from HKV.out)
              go_wp2
              go_ret
              exact HBAD.out HT.out _ hb13
            · have HT := Lib.hid (show tkB gone hd taken k y = true from HKV.out)
              obtain ⟨w15, hr15, hs15, hg15⟩ := (HS8.out.block (hb13.block _ hs82)).put (by unfold maxLen; omega) y.src y.num (may_id HMY.out)
              obtain ⟨⟨q0, q1, q2, q3, q4, q5, q6, q7⟩, ⟨i0, i1⟩, x0, x4, x1, x5⟩ := HSS.out w13 hb13
              have HRR := Lib.hid (show RgRel w bi vp gone hd taken (.int .i64 ((k + 1 : Nat) : Int)) w15 from ⟨k + 1, rfl, by omega, HNX.out HT.out, hs15.congr HIX.out, (HWB.out w13 hb13).grown hg15 (HWB.out w13 hb13).size (fun j hj => by injection hj with hj; omega),
                ⟨(hg15.block _ (by have := hb13.size; omega) (fun e => by injection e with e; omega)).trans ((hb13.block _ (by omega)).trans HO8.out.b0), (hg15.block _ (by have := hb13.size; omega) (fun e => by injection e with e; omega)).trans ((hb13.block _ (by omega)).trans HO8.out.b1)⟩⟩)
              have ew15 : IntKind.i64.wrap ((k : Int) + 1) = (k : Int) + 1 := IntWalk.i64_in _ (by omega)
              clear hs15 hg15
              go_wp2
              go_roundw
              case rel => exact HRR.out
              case measure => simp [intOf]; omega
        · have hcf : decide (cz = 1) = false := decide_eq_false hc1
          have HT := Lib.hid (show tkB gone hd taken k y = false by rw [HKW.out, beq_eq_false_iff_ne.2 hc1]; rfl)
          clear HKW
          go_wp2
          go_ret
          exact HBAD.out HT.out _ hb11
    · have hkk : k = nt := by omega
      have t1 : ¬ (k : Int) < nt := by omega
      have HTA := Lib.hid (show ∀ j (h : j < taken.length), tkB gone hd taken j taken[j] = true from fun j hj => HTK.out j hj (by omega))
      have q5 : wr.cell? ⟨w.heap.size + 1, 5, none⟩ = some (.slice Al nl kl) := (cell_of_row wr (w.heap.size + 1) 5 _ _ (0, 0) HBO.out.b1).trans (by rw [HVP.out]; rfl)
      have HRR0 := Lib.hid (show RlRel wr A.bl gone late (.int .i64 0) wr from ⟨0, rfl, Nat.zero_le _, fun j _ h => absurd h (Nat.not_lt_zero _), HI.out.lates.block (HBE.out.block _ hbll), World.grownBy.refl wr _⟩)
      clear HTK HSE
      go_wp2
      clear q5
      generalize wr = wo at *
      go_loopw [90] (fun i wz => RlRel wo A.bl gone late i wz) (fun i _ => nl - (intOf i).toNat)
      case atStart => exact HRR0.out
      case round =>
        obtain ⟨j, rfl, hj, hlt2, hset, hgr⟩ := hrel
        have HLT := Lib.hid hlt2; have HSE := Lib.hid hset; have HGR := Lib.hid hgr
        have hso : wo.heap.size ≤ wr.heap.size := hgr.size
        have HKP := Lib.hid (show Keep (fun b => b = A.bl) w wr from (Keep.of_below (HBE.out.mono (Nat.le_refl _))).trans (Keep.of_grown (F := fun b => b = A.bl) hgr (fun k h => by injection h with h; exact h.symm)) (fun _ _ h => h))
        clear hlt2 hset hgr HRR0
        by_cases hjn : j < nl
        · have hjl : j < late.length := by omega
          obtain ⟨eb, eo, hAt, hb, hev⟩ := HI.out.le.ev j hjl
          have HBB := Lib.hid (show Below B w wr from HKP.out.below (by omega) (fun k hk e => by omega))
          have HKT := Lib.hid (show ltB gone late j late[j] = (mayB late[j] && !decide (idOf late[j] ∈ (late.take j).map idOf) && staysB gone late[j]) from rfl)
          have HSM := Lib.hid (HI.out.sl _ (List.getElem_mem hjl))
          obtain ⟨e0, e1, e2, e3, e4, e5, e6, e7⟩ := hev.below HBB.out hb
          have HNX := Lib.hid (show ltB gone late j late[j] = true → ∀ i (h : i < late.length), i < j + 1 → ltB gone late i late[i] = true from fun ht i hi hij => by
            by_cases e : i = j
            · subst e; exact ht
            · exact HLT.out i hi (by omega))
          have HNO := Lib.hid (show ltB gone late j late[j] = false → ¬ RightOk gone hd taken late from fun ht hr => Bool.noConfusion (ht.symm.trans (hr.late j hjl)))
          have HIX := Lib.hid (show ∀ q, q ∈ idOf late[j] :: (late.take j).map idOf ↔ q ∈ (late.take (j + 1)).map idOf from fun q => by
            rw [List.take_add_one, List.getElem?_eq_getElem hjl, Option.toList_some]
            simp only [List.map_append, List.map_cons, List.map_nil, List.mem_append, List.mem_cons, List.not_mem_nil, or_false]
            exact Or.comm)
          have t2 : (j : Int) < nl := by omega
          generalize late[j] = y at *
          rw [hAt]
          go_wp2_with fail
          have HEA := Lib.hid (EvIn.new wr y)
          have HBA := Lib.hid (show Below wr.heap.size wr (wr.alloc (evObj y)) from (Below.refl _ _).alloc (Nat.le_refl _) _)
          have hsA : (wr.alloc (evObj y)).heap.size = wr.heap.size + 1 := by simp
          have hag : (Value.agg #[.string ⟨y.src.toArray⟩, .int .i64 y.num, .int .i64 y.at_, .int .i64 y.kind, .string ⟨y.per.toArray⟩, .string ⟨y.item.toArray⟩, .int .i64 y.val, .string ⟨y.text.toArray⟩]) = y.agg := rfl
          generalize wr.alloc (evObj y) = w6 at *
          rw [hag]
          refine (ident_any w6 y).mono ?_
          rintro r w7 ⟨rfl, hb7⟩
          have hb8 : Below w6.heap.size w6 (w7.alloc (.cells #[.string ⟨y.src.toArray⟩, .int .i64 y.num] 138)) := hb7.alloc hb7.size _
          have hs7 := hb7.size
          have HI8 := Lib.hid (show (w7.alloc (.cells #[.string ⟨y.src.toArray⟩, .int .i64 y.num] 138)).heap[w7.heap.size]? = some (.cells #[.string ⟨y.src.toArray⟩, .int .i64 y.num] 138 (0, 0)) from heap_alloc_new w7 _)
          have HE8 := Lib.hid (HEA.out.below hb8 (by omega))
          have HR8 := Lib.hid (show Below wr.heap.size wr (w7.alloc (.cells #[.string ⟨y.src.toArray⟩, .int .i64 y.num] 138)) from HBA.out.trans (hb8.mono (by omega)))
          have hs8 : w7.heap.size < (w7.alloc (.cells #[.string ⟨y.src.toArray⟩, .int .i64 y.num] 138)).heap.size := by simp
          clear hag hb7 hb8 e0 e1 e2 e3 e4 e5 e6 e7 HEA HBA hev
          go_upto_region 21 with fail
          generalize w7.alloc (.cells #[.string ⟨y.src.toArray⟩, .int .i64 y.num] 138) = w8 at *
          have HWR := Lib.hid (show ∀ W, Below w8.heap.size w8 W → Below wr.heap.size wr W from fun W hW => HR8.out.trans (hW.mono HR8.out.size))
          have HWK := Lib.hid (show ∀ W, Below w8.heap.size w8 W → Keep (fun b => b = A.bl) w W from fun W hW => HKP.out.trans (Keep.of_below (F := fun b => b = A.bl) (HWR.out W hW)) (fun _ _ h => h))
          have HWO := Lib.hid (show ∀ W, Below w8.heap.size w8 W → wo.grownBy W (some A.bl) from fun W hW => ⟨(HWR.out W hW).os.trans HGR.out.os, (HWR.out W hW).tape.trans HGR.out.tape, (HWR.out W hW).output.trans HGR.out.output, Nat.le_trans hso (HWR.out W hW).size, fun i hi hne => ((HWR.out W hW).block i (by omega)).trans (HGR.out.block i hi hne)⟩)
          have HSS := Lib.hid (show ∀ W, Below w8.heap.size w8 W → (W.cell? ⟨wr.heap.size, 0, none⟩ = some (.string ⟨y.src.toArray⟩) ∧ W.cell? ⟨wr.heap.size, 1, none⟩ = some (.int .i64 y.num) ∧ W.cell? ⟨wr.heap.size, 2, none⟩ = some (.int .i64 y.at_) ∧ W.cell? ⟨wr.heap.size, 3, none⟩ = some (.int .i64 y.kind) ∧ W.cell? ⟨wr.heap.size, 4, none⟩ = some (.string ⟨y.per.toArray⟩) ∧ W.cell? ⟨wr.heap.size, 5, none⟩ = some (.string ⟨y.item.toArray⟩) ∧ W.cell? ⟨wr.heap.size, 6, none⟩ = some (.int .i64 y.val) ∧ W.cell? ⟨wr.heap.size, 7, none⟩ = some (.string ⟨y.text.toArray⟩))
              ∧ (W.cell? ⟨w7.heap.size, 0, none⟩ = some (.string ⟨y.src.toArray⟩) ∧ W.cell? ⟨w7.heap.size, 1, none⟩ = some (.int .i64 y.num)) ∧ W.cell? ⟨w.heap.size, 0, none⟩ = some (.pointer (some ⟨bi, 0, none⟩)) ∧ W.cell? ⟨bi, 4, none⟩ = some (.map (some A.bl)) ∧ W.cell? ⟨bi, 5, none⟩ = some (.map (some A.bg)) from fun W hW => by
            have hbB := (HWK.out W hW).block bi hlt HI.out.hib
            have hx0 := (HWO.out W hW).block w.heap.size (by omega) (fun e => by injection e with e; omega)
            refine ⟨HE8.out.below hW (by omega), ?_, (cell_of_row W w.heap.size 0 _ _ (0, 0) (hx0.trans HBO.out.b0)).trans rfl, (cell_of_row W bi 4 _ _ (0, 0) (hbB.trans HI.out.blk)).trans rfl, (cell_of_row W bi 5 _ _ (0, 0) (hbB.trans HI.out.blk)).trans rfl⟩
            exact ⟨(cell_of_row W w7.heap.size 0 _ _ (0, 0) ((hW.block _ hs8).trans HI8.out)).trans rfl, (cell_of_row W w7.heap.size 1 _ _ (0, 0) ((hW.block _ hs8).trans HI8.out)).trans rfl⟩)
          have HMAY := Lib.hid (show ∀ W, Below w8.heap.size w8 W → Calls Tryz.prog 65 #[y.agg] W (Says (mayB y) W) from fun W hW => may_any W y HSM.out (MaxAt.out HI.out.max (HWK.out W hW) (fun e => by have := HI.out.hml; omega)))
          have HGS := Lib.hid (show ∀ W, Below w8.heap.size w8 W → SetB W A.bg ng gone from fun W hW => HI.out.gs.block ((HWK.out W hW).block _ HI.out.gs.lt HI.out.hgb))
          have HSTY := Lib.hid (show ∀ W, Below w8.heap.size w8 W → Calls Tryz.prog 74 #[y.agg, .pointer (some ⟨w.heap.size, 0, none⟩)] W (Says (staysB gone y) W) from fun W hW => by
            obtain ⟨_, _, x0, _, x5⟩ := HSS.out W hW
            exact stays_any W w.heap.size bi A.bg ng gone y HSM.out x0 x5 (HGS.out W hW))
          have HLK := Lib.hid (show ∀ W, Below w8.heap.size w8 W → mayB y = true → (Instr.lookup 58 (.map (some A.bl)) (.agg #[.string ⟨y.src.toArray⟩, .int .i64 y.num]) false).run Tryz.prog W = .ok (.bool (decide (idOf y ∈ (late.take j).map idOf))) W from fun W hW hm =>
            (HSE.out.block ((HWR.out W hW).block _ HSE.out.lt)).look y.src y.num (may_id hm))
          have HBAD := Lib.hid (show ltB gone late j y = false → ∀ W, Below w8.heap.size w8 W → RgPost w A.bl gone hd taken late (.returned (.bool false)) W from fun ht W hW =>
            ⟨⟨(HWK.out W hW).os, (HWK.out W hW).tape, (HWK.out W hW).output, (HWK.out W hW).size, fun i hi hne => (HWK.out W hW).block i hi (fun e => hne (by rw [e]))⟩, .inr ⟨rfl, HNO.out ht⟩⟩)
          unfold Ev.agg at HMAY HSTY
          generalize hmy : mayB y = mb at *
          generalize hid : decide (idOf y ∈ (late.take j).map idOf) = ib at *
          generalize hst : staysB gone y = sb at *
          cases mb
          · have HT := Lib.hid (show ltB gone late j y = false by rw [HKT.out]; rfl)
            clear hid hst hmy
            refine wp_region_quiet (C := fun wx => Below w8.heap.size w8 wx) (by kernel_rfl) (by kernel_rfl) (below_drew (Below.refl _ _)) ?_
            simp only
            repeat (first
              | go_big_quiet_skip
              | (go_big_quiet_want; go_big_quiet_op; go_big_quiet_on)
              | (refine wpQuiet_step (fun K hK => ?_)
                 go_simp
                 first
                   | (refine hK _ ?_; clear hK K)
                   | (apply Exists.intro
                      refine ⟨fun wx hx => ?_, hK _ ?_⟩
                      · (obtain ⟨⟨q0, q1, q2, q3, q4, q5, q6, q7⟩, ⟨i0, i1⟩, x0, x4, x5⟩ := HSS.out wx hx; go_simp; first | done | rfl | exact ⟨rfl, rfl⟩ | (refine (HMAY.out wx hx).mono ?_; rintro r w9 ⟨hr, hb9⟩; exact ⟨hr, hx.trans (hb9.mono hx.size)⟩))
                      clear hK K)))
            refine wpQuiet_nil ?_
            intro w9 hb9
            go_wp2
            go_ret
            exact HBAD.out HT.out _ hb9
          cases ib
          rotate_left
          · have HT := Lib.hid (show ltB gone late j y = false by rw [HKT.out]; simp)
            clear hid hst hmy
            refine wp_region_quiet (C := fun wx => Below w8.heap.size w8 wx) (by kernel_rfl) (by kernel_rfl) (below_drew (Below.refl _ _)) ?_
            simp only
            repeat (first
              | go_big_quiet_skip
              | (go_big_quiet_want; go_big_quiet_op; go_big_quiet_on)
              | (refine wpQuiet_step (fun K hK => ?_)
                 go_simp
                 first
                   | (refine hK _ ?_; clear hK K)
                   | (apply Exists.intro
                      refine ⟨fun wx hx => ?_, hK _ ?_⟩
                      · (obtain ⟨⟨q0, q1, q2, q3, q4, q5, q6, q7⟩, ⟨i0, i1⟩, x0, x4, x5⟩ := HSS.out wx hx; have l0 := HLK.out wx hx rfl; go_simp; first | done | rfl | exact ⟨rfl, rfl⟩ | (refine (HMAY.out wx hx).mono ?_; rintro r w9 ⟨hr, hb9⟩; exact ⟨hr, hx.trans (hb9.mono hx.size)⟩))
                      clear hK K)))
            refine wpQuiet_nil ?_
            intro w9 hb9
            go_wp2
            go_ret
            exact HBAD.out HT.out _ hb9
          have HMY := Lib.hid hmy
          clear hid hst hmy
          refine wp_region_quiet (C := fun wx => Below w8.heap.size w8 wx) (by kernel_rfl) (by kernel_rfl) (below_drew (Below.refl _ _)) ?_
          simp only
          repeat (first
            | go_big_quiet_skip
            | (go_big_quiet_want; go_big_quiet_op; go_big_quiet_on)
            | (refine wpQuiet_step (fun K hK => ?_)
               go_simp
               first
                 | (refine hK _ ?_; clear hK K)
                 | (apply Exists.intro
                    refine ⟨fun wx hx => ?_, hK _ ?_⟩
                    · (obtain ⟨⟨q0, q1, q2, q3, q4, q5, q6, q7⟩, ⟨i0, i1⟩, x0, x4, x5⟩ := HSS.out wx hx; have l0 := HLK.out wx hx rfl; go_simp; first | done | rfl | exact ⟨rfl, rfl⟩ | (refine (HMAY.out wx hx).mono ?_; rintro r w9 ⟨hr, hb9⟩; exact ⟨hr, hx.trans (hb9.mono hx.size)⟩) | (refine (HSTY.out wx hx).mono ?_; rintro r w9 ⟨hr, hb9⟩; exact ⟨hr, hx.trans (hb9.mono hx.size)⟩))
                    clear hK K)))
          refine wpQuiet_nil ?_
          intro w9 hb9
          cases sb
          · have HT := Lib.hid (show ltB gone late j y = false by rw [HKT.out]; simp)
            go_wp2
            go_ret
            exact HBAD.out HT.out _ hb9
          have HT := Lib.hid (show ltB gone late j y = true by rw [HKT.out]; rfl)
          obtain ⟨⟨q0, q1, q2, q3, q4, q5, q6, q7⟩, ⟨i0, i1⟩, x0, x4, x5⟩ := HSS.out w9 hb9
          have HS9 := Lib.hid (show SetI (w9.drewN 1) A.bl j ((late.take j).map idOf) from (HSE.out.block ((HWR.out _ hb9).block _ HSE.out.lt)).block rfl)
          have HO9 := Lib.hid (HWO.out _ hb9)
          have ew2 : IntKind.i64.wrap ((j : Int) + 1) = (j : Int) + 1 := IntWalk.i64_in _ (by omega)
          clear HSS HMAY HSTY HLK HBAD HGS HWK
          go_wp2
          go_still_tail 5, (by kernel_rfl)
          change wpList _ _ _ _ _ (w9.drewN 1)
          refine wpList_idput rfl (.tmp 116) (.tmp 117) _ rfl A.bl j ((late.take j).map idOf) rfl HS9.out (by unfold maxLen; omega) y.src y.num rfl (may_id HMY.out) rfl ?_
          intro w10 hs10 hg10
          have HRR := Lib.hid (show RlRel wo A.bl gone late (.int .i64 ((j + 1 : Nat) : Int)) w10 from ⟨j + 1, rfl, by omega, HNX.out HT.out, hs10.congr HIX.out, ⟨hg10.os.trans HO9.out.os, hg10.tape.trans HO9.out.tape, hg10.output.trans HO9.out.output, Nat.le_trans HO9.out.size hg10.size, fun i hi hne => (hg10.block i (Nat.lt_of_lt_of_le hi HO9.out.size) hne).trans (HO9.out.block i hi hne)⟩⟩)
          clear hs10 hg10 q0 q1 q2 q3 q4 q5 q6 q7 i0 i1 x0 x4 x5
          go_wp2
          go_roundw
          case rel => exact HRR.out
          case measure => simp [intOf]; omega
        · have hjj : j = nl := by omega
          have t2 : ¬ (j : Int) < nl := by omega
          have HRT := Lib.hid (show RightOk gone hd taken late from ⟨by omega, HTA.out, fun i hi => HLT.out i hi (by omega)⟩)
          have HPO := Lib.hid (show RgPost w A.bl gone hd taken late (.returned (.bool true)) wr from
            ⟨⟨HKP.out.os, HKP.out.tape, HKP.out.output, HKP.out.size, fun i hi hne => HKP.out.block i hi (fun e => hne (by rw [e]))⟩, .inl ⟨rfl, HRT.out, by
              have := HSE.out
              rw [List.take_of_length_le (by omega)] at this
              rw [hlen2, ← hjj]; exact this⟩⟩)
          go_wp2
          go_ret
          exact HPO.out
end Go.Proofs.YtdjoaboalknlkaaGreatDoor
