/-
  The law ReplicaForgets, walked.
-/
import Derived.Test.YtgbagjpokpchpaaGreatDoorFRpAsOf
import Derived.Test.YtgbagjpokpchpaaGreatDoorFRpPlain
import Derived.Test.YtgbagjpokpchpaaGreatDoorFRpLog
import Derived.Deep.RegionHeld3
namespace Go.Proofs.YtgbagjpokpchpaaGreatDoor
open Go.RowKit Go.Maps Go.Sort Go.Shelf

def forgB (p : List UInt8) (e : Ev) : Bool := (e.per == p) && (e.kind == 14)
def FgRel (w : World) (es fs : List Ev) (p : List UInt8) (v g i : Value) (wr : World) : Prop :=
  ∃ k : Nat, i = .int .i64 k ∧ k ≤ es.length ∧ ((es.take k).map idOf).Nodup ∧ g = .bool ((fs.take k).any (forgB p)) ∧ OwnE wr w.heap.size v ((fs.take k).filter (leftB p)) ∧ RowKit.Below w.heap.size w wr
def FgIn (w1 w2 : World) (es : List Ev) (e : Ev) (j : Value) (wz : World) : Prop := ∃ k : Nat, j = .int .i64 k ∧ k ≤ es.length ∧ (∀ a ∈ es.take k, idOf a ≠ idOf e) ∧ RowKit.Below w1.heap.size w1 wz ∧ RowKit.Below w2.heap.size w2 wz
theorem fs_in {es : List Ev} {N k : Nat} (hk : k < N) (hke : k < es.length) : (es.take N).take (k + 1) = (es.take N).take k ++ [es[k]] := by
  rw [List.take_add_one, List.getElem?_take, if_pos hk, List.getElem?_eq_getElem hke]; rfl
theorem fs_out {es : List Ev} {N k : Nat} (hk : N ≤ k) : (es.take N).take (k + 1) = (es.take N).take k := by
  rw [List.take_take, List.take_take, Nat.min_eq_right (by omega), Nat.min_eq_right (by omega)]
theorem left_one {l : List Ev} {p : List UInt8} (x : Ev) : (l ++ [x]).filter (leftB p) = l.filter (leftB p) ++ (if leftB p x then [x] else []) := by
  rw [List.filter_append]; congr 1
  simp [List.filter_cons]
theorem any_one {l : List Ev} {p : List UInt8} (x : Ev) : (l ++ [x]).any (forgB p) = (l.any (forgB p) || forgB p x) := by simp
theorem rising_len33 {r ks : List (List UInt8)} (h : Rising r ks) : r.length ≤ ks.length := by
  have hnd : r.Nodup := List.pairwise_iff_getElem.2 fun i j hi hj hij e => by
    have := List.pairwise_iff_getElem.1 h.1 i j hi hj hij
    rw [e] at this
    exact lt_irr _ this
  have key : ∀ (r ks : List (List UInt8)), r.Nodup → (∀ x, x ∈ r → x ∈ ks) → r.length ≤ ks.length := by
    intro r
    induction r with
    | nil => intro ks _ _; simp
    | cons a l ih =>
      intro ks hnd hsub
      have hnd' := List.nodup_cons.1 hnd
      have ha : a ∈ ks := hsub a List.mem_cons_self
      have := ih (ks.erase a) hnd'.2 (fun x hx => by
        have hxa : x ≠ a := fun e => hnd'.1 (by rw [← e]; exact hx)
        exact (List.mem_erase_of_ne hxa).2 (hsub x (List.mem_cons_of_mem _ hx)))
      rw [List.length_erase_of_mem ha] at this
      have := List.length_pos_of_mem ha
      simp only [List.length_cons]
      omega
  exact key r ks hnd fun x hx => (h.2 x).1 hx

theorem admAll_goneN (l : List Ev) : ∀ x : Itk, (admAll x l).gone.length ≤ x.gone.length + l.length := by
  induction l with
  | nil => intro x; exact Nat.le_refl _
  | cons e l ih =>
    intro x
    have h1 := ih (x.admits e)
    have h2 : (x.admits e).gone.length ≤ x.gone.length + 1 := by
      unfold Itk.admits
      split
      · omega
      · unfold Itk.took
        split
        · show (e.per :: x.gone).length ≤ _; simp
        · exact Nat.le_succ _
    have h3 : admAll x (e :: l) = admAll (x.admits e) l := rfl
    rw [h3, List.length_cons]; omega
set_option maxRecDepth 100000 in
set_option maxHeartbeats 8000000 in
theorem rpforgets_any (w : World) (A : Option Addr) (n c : Nat) (es : List Ev) (h : Evs w w.heap.size A n c es) (hn : n ≤ 140737488355328) (p : List UInt8) (_hp : p.length ≤ 140737488355328) (z : Int) (hmx : MaxAt w) :
    Calls Tryz.prog 3 #[.slice A n c, .string ⟨p.toArray⟩, .int .i64 z] w (Says true w) := by
  have HH := Lib.hid h; have HMX := Lib.hid hmx
  have HL := Lib.hid h.len
  clear h hmx
  obtain ⟨i0, hi, hz0, hz1, hz2⟩ := info_parts ev_info
  have HI := Lib.hid hi; have HZ0 := Lib.hid hz0; have HZ1 := Lib.hid hz1; have HZ2 := Lib.hid hz2
  clear hi hz0 hz1 hz2
  go_enter Tryz.func3, Tryz.ntmps3
  go_wp2_with fail
  refine (rplives_any w HMX.out).mono ?_
  rintro r w1 ⟨rfl, hb1⟩
  have HB1 := Lib.hid hb1
  have HH1 := Lib.hid (show Evs w1 w1.heap.size A n c es from Cel.more (Cel.below HH.out hb1) hb1.size)
  clear hb1
  go_wp2_with fail
  refine (rpfew_any w1 A n c es HH1.out hn).mono ?_
  rintro r w2 ⟨rfl, hb2⟩
  have HB2 := Lib.hid (HB1.out.trans (hb2.mono HB1.out.size))
  clear hb2 HH1
  cases hfw : fewB es
  case false =>
    clear hfw
    go_wp2
    go_ret
    exact ⟨rfl, HB2.out⟩
  have hfw2 : (es.length ≤ 30 ∧ es.any (fun d => bigB d 300) = false) ∧ es.all mayB = true := by
    unfold fewB at hfw
    simpa using hfw
  have HAL := Lib.hid hfw2.2
  have hn30 : n ≤ 30 := by have := HL.out; omega
  clear hfw hfw2
  by_cases hpl : 100 < p.length
  · have t1 : (100 : Int) < p.length := by omega
    go_wp2
    go_ret
    exact ⟨rfl, HB2.out⟩
  have t1 : ¬ (100 : Int) < p.length := by omega
  by_cases hz : z < 0
  · go_wp2
    go_ret
    exact ⟨rfl, HB2.out⟩
  by_cases hzn : (n : Int) < z
  · go_wp2
    go_ret
    exact ⟨rfl, HB2.out⟩
  obtain ⟨N, rfl⟩ := Int.eq_ofNat_of_zero_le (show 0 ≤ z by omega)
  have hNn : N ≤ n := by omega
  obtain ⟨fs, hfs⟩ : ∃ fs, fs = es.take N := ⟨_, rfl⟩
  have HFS := Lib.hid hfs
  have hs2 := HB2.out.size
  have HST := Lib.hid (show FgRel w es fs p (.slice none 0 0) (.bool false) (.int .i64 0) w2 from ⟨0, rfl, Nat.zero_le _, by simp, by simp, by rw [List.take_zero]; exact World.ownsRow_nil _ _ _ _, HB2.out⟩)
  clear hfs
  go_wp2
  generalize decide (100 < (p.length : Int)) = q1
  generalize decide ((N : Int) < 0) = q2
  generalize decide (n < N) = q3
  go_loopw [7, 8, 9] (fun v g i wr => FgRel w es fs p v g i wr) (fun _ _ i _ => n - (intOf i).toNat)
  case atStart => exact HST.out
  case round =>
    obtain ⟨k, rfl, hk, hnd, rfl, ho, hbel⟩ := hrel
    have HND := Lib.hid hnd; have HO := Lib.hid ho; have HB := Lib.hid hbel
    have hkL : k ≤ n := by rw [← HL.out]; exact hk
    have hsr := hbel.size
    clear hnd ho HST
    by_cases hkn : k < n
    · have hkl : k < es.length := by rw [HL.out]; exact hkn
      obtain ⟨b, off, hA, hb, hev⟩ := HH.out.ev k hkl
      subst hA
      have HEK := Lib.hid (show ∀ W, RowKit.Below w.heap.size w W → EvAt W b (off + k * 8) es[k] from fun W hW => hev.below hW hb)
      have t2 : (k : Int) < n := by omega
      have HTS := Lib.hid (show es.take (k + 1) = es.take k ++ [es[k]] by rw [List.take_add_one, List.getElem?_eq_getElem hkl]; rfl)
      have HIN1 := Lib.hid (show k < N → fs.take (k + 1) = fs.take k ++ [es[k]] from fun hh => by rw [HFS.out]; exact fs_in hh hkl)
      have HOUT1 := Lib.hid (show N ≤ k → fs.take (k + 1) = fs.take k from fun hh => by rw [HFS.out]; exact fs_out hh)
      have HTL := Lib.hid (show (es.take k).length = k by rw [List.length_take]; omega)
      have HFL := Lib.hid (show (fs.take k).length ≤ 30 from by rw [HFS.out, List.length_take, List.length_take]; omega)
      generalize es[k] = e at *
      have HIN := Lib.hid (show FgIn w wr (es.take k) e (.int .i64 0) wr from ⟨0, rfl, Nat.zero_le _, fun a ha => by simp at ha, HB.out, Below.refl _ _⟩)
      clear hev
      go_wp2
      go_loopw [10] (fun j wz => FgIn w wr (es.take k) e j wz) (fun j _ => k - (intOf j).toNat)
      case atStart => exact HIN.out
      case round =>
        obtain ⟨j, rfl, hj, hno, hbz, hbr⟩ := hrel
        have HNO := Lib.hid hno; have HBZ := Lib.hid hbz; have HBR := Lib.hid hbr
        have hjk : j ≤ k := by rw [← HTL.out]; exact hj
        clear hno HIN hbz hbr
        generalize wr = wz at *
        have HOZ := Lib.hid (HO.out.keep (fun b' hb' => HBR.out.block b' (HO.out.lt hb')))
        by_cases hjn : j < k
        · have t3 : (j : Int) < k := by omega
          have hjl : j < es.length := by omega
          obtain ⟨b', off', q, hb', hev2⟩ := HH.out.ev j hjl
          injection q with q; injection q with q1 q2; subst q1 q2
          have hjt : j < (es.take k).length := by rw [HTL.out]; exact hjn
          have HGE := Lib.hid (show (es.take k)[j] = es[j] from List.getElem_take ..)
          have HTJ := Lib.hid (show (es.take k).take (j + 1) = (es.take k).take j ++ [es[j]] by rw [List.take_add_one, List.getElem?_eq_getElem hjt, HGE.out]; rfl)
          have HEV := Lib.hid (show ∀ W, RowKit.Below w.heap.size w W → EvAt W b (off + j * 8) es[j] from fun W hW => hev2.below hW hb)
          generalize es[j] = y at *
          have hjn' : (j : Int) < n := by omega
          have HSS := Lib.hid (show ∀ W : World, RowKit.Below wz.heap.size wz W → (W.cell? ⟨b, off + k * 8, none⟩ = some (.string ⟨e.src.toArray⟩) ∧ W.cell? ⟨b, off + k * 8 + 1, none⟩ = some (.int .i64 e.num) ∧ W.cell? ⟨b, off + k * 8 + 2, none⟩ = some (.int .i64 e.at_) ∧ W.cell? ⟨b, off + k * 8 + 3, none⟩ = some (.int .i64 e.kind) ∧ W.cell? ⟨b, off + k * 8 + 4, none⟩ = some (.string ⟨e.per.toArray⟩) ∧ W.cell? ⟨b, off + k * 8 + 5, none⟩ = some (.string ⟨e.item.toArray⟩) ∧ W.cell? ⟨b, off + k * 8 + 6, none⟩ = some (.int .i64 e.val) ∧ W.cell? ⟨b, off + k * 8 + 7, none⟩ = some (.string ⟨e.text.toArray⟩) ∧ W.cell? ⟨b, off + j * 8, none⟩ = some (.string ⟨y.src.toArray⟩) ∧ W.cell? ⟨b, off + j * 8 + 1, none⟩ = some (.int .i64 y.num) ∧ W.cell? ⟨b, off + j * 8 + 2, none⟩ = some (.int .i64 y.at_) ∧ W.cell? ⟨b, off + j * 8 + 3, none⟩ = some (.int .i64 y.kind) ∧ W.cell? ⟨b, off + j * 8 + 4, none⟩ = some (.string ⟨y.per.toArray⟩) ∧ W.cell? ⟨b, off + j * 8 + 5, none⟩ = some (.string ⟨y.item.toArray⟩) ∧ W.cell? ⟨b, off + j * 8 + 6, none⟩ = some (.int .i64 y.val) ∧ W.cell? ⟨b, off + j * 8 + 7, none⟩ = some (.string ⟨y.text.toArray⟩)) from fun W hW => by
            obtain ⟨a0, a1, a2, a3, a4, a5, a6, a7⟩ := HEK.out W (HBZ.out.trans (hW.mono HBZ.out.size))
            obtain ⟨b0, b1, b2, b3, b4, b5, b6, b7⟩ := HEV.out W (HBZ.out.trans (hW.mono HBZ.out.size))
            exact ⟨a0, a1, a2, a3, a4, a5, a6, a7, b0, b1, b2, b3, b4, b5, b6, b7⟩)
          have HCM := Lib.hid (show ∀ W, Calls Tryz.prog 9 #[.agg #[.string ⟨e.src.toArray⟩, .int .i64 e.num, .int .i64 e.at_, .int .i64 e.kind, .string ⟨e.per.toArray⟩, .string ⟨e.item.toArray⟩, .int .i64 e.val, .string ⟨e.text.toArray⟩], .agg #[.string ⟨y.src.toArray⟩, .int .i64 y.num, .int .i64 y.at_, .int .i64 y.kind, .string ⟨y.per.toArray⟩, .string ⟨y.item.toArray⟩, .int .i64 y.val, .string ⟨y.text.toArray⟩]] W (Says (sameI e y) W) from fun W => evsame_any W e y)
          have HX := Lib.hid (show RowKit.Below wz.heap.size wz wz.drew from (Below.refl _ _).drew)
          have hS := HSS.out _ (Below.refl _ _)
          clear hev2 hjt hjl HGE
          go_wp2
          go_region_held3 (fun W => W.cell? ⟨b, off + k * 8, none⟩ = some (.string ⟨e.src.toArray⟩) ∧ W.cell? ⟨b, off + k * 8 + 1, none⟩ = some (.int .i64 e.num) ∧ W.cell? ⟨b, off + k * 8 + 2, none⟩ = some (.int .i64 e.at_) ∧ W.cell? ⟨b, off + k * 8 + 3, none⟩ = some (.int .i64 e.kind) ∧ W.cell? ⟨b, off + k * 8 + 4, none⟩ = some (.string ⟨e.per.toArray⟩) ∧ W.cell? ⟨b, off + k * 8 + 5, none⟩ = some (.string ⟨e.item.toArray⟩) ∧ W.cell? ⟨b, off + k * 8 + 6, none⟩ = some (.int .i64 e.val) ∧ W.cell? ⟨b, off + k * 8 + 7, none⟩ = some (.string ⟨e.text.toArray⟩) ∧ W.cell? ⟨b, off + j * 8, none⟩ = some (.string ⟨y.src.toArray⟩) ∧ W.cell? ⟨b, off + j * 8 + 1, none⟩ = some (.int .i64 y.num) ∧ W.cell? ⟨b, off + j * 8 + 2, none⟩ = some (.int .i64 y.at_) ∧ W.cell? ⟨b, off + j * 8 + 3, none⟩ = some (.int .i64 y.kind) ∧ W.cell? ⟨b, off + j * 8 + 4, none⟩ = some (.string ⟨y.per.toArray⟩) ∧ W.cell? ⟨b, off + j * 8 + 5, none⟩ = some (.string ⟨y.item.toArray⟩) ∧ W.cell? ⟨b, off + j * 8 + 6, none⟩ = some (.int .i64 y.val) ∧ W.cell? ⟨b, off + j * 8 + 7, none⟩ = some (.string ⟨y.text.toArray⟩)) (first | assumption | exact HSS.out _ HX.out | go_keep) ((go_at_call 9; (with_reducible refine (HCM.out _).mono ?_); rintro r9 w9 ⟨rfl, hb9⟩; have HX2 := Lib.hid (HX.out.trans (hb9.mono HX.out.size)); clear HX; have HX := HX2; clear HX2; (try clear hS); have hS := HSS.out _ HX.out; clear hb9))
          clear hS HSS HCM HEV
          cases hsi : sameI e y
          · have HREL := Lib.hid (show FgIn w _ (es.take k) e (.int .i64 ((j + 1 : Nat) : Int)) w9 from ⟨j + 1, rfl, by rw [HTL.out]; omega, (fun a ha => by
              rw [HTJ.out] at ha
              rcases List.mem_append.1 ha with ha | ha
              · exact HNO.out a ha
              · rw [List.mem_singleton] at ha; rw [ha]; intro hc; rw [same_ids.2 hc.symm] at hsi; cases hsi), HBZ.out.trans (HX.out.mono HBZ.out.size), HBR.out.trans (HX.out.mono HBR.out.size)⟩)
            clear hsi
            go_wp2
            go_roundw
            case rel => exact HREL.out
            case measure => simp [intOf]; omega
          · have hbw9 : RowKit.Below w.heap.size w w9 := HBZ.out.trans (HX.out.mono HBZ.out.size)
            clear hsi
            go_wp2
            go_ret
            exact ⟨rfl, hbw9⟩
        · have t3 : ¬ (j : Int) < k := by omega
          have HNE := Lib.hid (show ((es.take (k + 1)).map idOf).Nodup by
            have h1 := HNO.out
            rw [List.take_of_length_le (by rw [HTL.out]; omega)] at h1
            rw [HTS.out, List.map_append, List.nodup_append]
            refine ⟨HND.out, by simp, fun a ha b' hb' hab => ?_⟩
            obtain ⟨x, hx, rfl⟩ := List.mem_map.1 ha
            rw [List.map_singleton, List.mem_singleton] at hb'
            exact h1 x hx (hab.trans hb'))
          obtain ⟨e0, e1, e2, e3, e4, e5, e6, e7⟩ := HEK.out wz HBZ.out
          have hsz := HBZ.out.size
          by_cases hkN : k < N
          · have t4 : (k : Int) < N := by omega
            have HT := Lib.hid (HIN1.out hkN)
            cases hp : (e.per == p)
            · have HF2 := Lib.hid (show (fs.take (k + 1)).any (forgB p) = (fs.take k).any (forgB p) from by rw [HT.out, any_one]; unfold forgB; rw [hp]; simp)
              have HF3 := Lib.hid (show (fs.take (k + 1)).filter (leftB p) = (fs.take k).filter (leftB p) ++ [e] from by rw [HT.out, left_one]; unfold leftB; simp [bne, hp])
              have hpn : (e.per != p) = true := by simp [bne, hp]
              generalize (fs.take k).any (forgB p) = g at *
              have hlk : ((fs.take k).filter (leftB p)).length ≤ 30 := by have := HFL.out; have := List.length_filter_le (leftB p) (fs.take k); omega
              generalize (fs.take k).filter (leftB p) = out at *
              go_wp2_with (at_builtin; refine wpList_app (P := Tryz.prog) rfl (.tmp 97) (.tmp 102) 22 rfl 28 i0 _ 8 96 Tryz.underlying22 HI.out HZ0.out HZ1.out HZ2.out rfl (by decide) w.heap.size _ out.length (evCells out) rfl ?c1 (wz.heap.size + 1) _ _ _ e.cells rfl ?c2 (cells_one e) ?c4 ?c5 ?c6 ?_)
              case c1 => exact World.ownsRow.alloc HOZ.out _
              case c2 => exact Cel.new wz _ _ (by unfold maxLen; omega) rfl
              case c4 => unfold maxLen; omega
              case c5 => omega
              case c6 => first | omega | (simp; omega)
              intro v' w3 hown3 hg3 hvv
              have hown4 : OwnE w3 w.heap.size v' (out ++ [e]) := by unfold OwnE; rw [evCells_one, List.length_append]; exact hown3
              have HREL := Lib.hid (show FgRel w es fs p v' (.bool g) (.int .i64 ((k + 1 : Nat) : Int)) w3 from ⟨k + 1, rfl, hkl, HNE.out, by rw [HF2.out], by rw [HF3.out]; exact hown4, Below.grown (HBZ.out.alloc hsz _) hg3 (by simp; omega) (fun k' hk' => (World.ownsRow.lt HOZ.out k' hk').1)⟩)
              clear hown3 hown4 hg3 hvv e0 e1 e2 e3 e4 e5 e6 e7
              go_wp2
              go_roundw
              case rel => exact HREL.out
              case measure => simp [intOf]; omega
            · have hpn : (e.per != p) = false := by simp [bne, hp]
              cases hk14 : (e.kind == 14)
              · have HF2 := Lib.hid (show (fs.take (k + 1)).any (forgB p) = (fs.take k).any (forgB p) from by rw [HT.out, any_one]; unfold forgB; rw [hp, hk14]; simp)
                have HF3 := Lib.hid (show (fs.take (k + 1)).filter (leftB p) = (fs.take k).filter (leftB p) from by rw [HT.out, left_one]; unfold leftB; simp [hpn, hk14])
                have HREL := Lib.hid (show FgRel w es fs p _ (.bool ((fs.take k).any (forgB p))) (.int .i64 ((k + 1 : Nat) : Int)) wz from ⟨k + 1, rfl, hkl, HNE.out, by rw [HF2.out], by rw [HF3.out]; exact HOZ.out, HBZ.out⟩)
                generalize (fs.take k).any (forgB p) = g at *
                go_wp2
                go_roundw
                case rel => exact HREL.out
                case measure => simp [intOf]; omega
              · have HF2 := Lib.hid (show (fs.take (k + 1)).any (forgB p) = true from by rw [HT.out, any_one]; unfold forgB; rw [hp, hk14]; simp)
                have HF3 := Lib.hid (show (fs.take (k + 1)).filter (leftB p) = (fs.take k).filter (leftB p) ++ [e] from by rw [HT.out, left_one]; unfold leftB; simp [hk14])
                generalize (fs.take k).any (forgB p) = g at *
                have hlk : ((fs.take k).filter (leftB p)).length ≤ 30 := by have := HFL.out; have := List.length_filter_le (leftB p) (fs.take k); omega
                generalize (fs.take k).filter (leftB p) = out at *
                go_wp2_with (at_builtin; refine wpList_app (P := Tryz.prog) rfl (.tmp 97) (.tmp 102) 22 rfl 28 i0 _ 8 96 Tryz.underlying22 HI.out HZ0.out HZ1.out HZ2.out rfl (by decide) w.heap.size _ out.length (evCells out) rfl ?c1 (wz.heap.size + 1) _ _ _ e.cells rfl ?c2 (cells_one e) ?c4 ?c5 ?c6 ?_)
                case c1 => exact World.ownsRow.alloc HOZ.out _
                case c2 => exact Cel.new wz _ _ (by unfold maxLen; omega) rfl
                case c4 => unfold maxLen; omega
                case c5 => omega
                case c6 => first | omega | (simp; omega)
                intro v' w3 hown3 hg3 hvv
                have hown4 : OwnE w3 w.heap.size v' (out ++ [e]) := by unfold OwnE; rw [evCells_one, List.length_append]; exact hown3
                have HREL := Lib.hid (show FgRel w es fs p v' (.bool true) (.int .i64 ((k + 1 : Nat) : Int)) w3 from ⟨k + 1, rfl, hkl, HNE.out, by rw [HF2.out], by rw [HF3.out]; exact hown4, Below.grown (HBZ.out.alloc hsz _) hg3 (by simp; omega) (fun k' hk' => (World.ownsRow.lt HOZ.out k' hk').1)⟩)
                clear hown3 hown4 hg3 hvv e0 e1 e2 e3 e4 e5 e6 e7
                go_wp2
                go_roundw
                case rel => exact HREL.out
                case measure => simp [intOf]; omega
          · have t4 : ¬ (k : Int) < N := by omega
            have HT := Lib.hid (HOUT1.out (by omega))
            have HREL := Lib.hid (show FgRel w es fs p _ (.bool ((fs.take k).any (forgB p))) (.int .i64 ((k + 1 : Nat) : Int)) wz from ⟨k + 1, rfl, hkl, HNE.out, by rw [HT.out], by rw [HT.out]; exact HOZ.out, HBZ.out⟩)
            generalize (fs.take k).any (forgB p) = g at *
            go_wp2
            go_roundw
            case rel => exact HREL.out
            case measure => simp [intOf]; omega
    · have t2 : ¬ (k : Int) < n := by omega
      have hkE : k = es.length := by have := HL.out; omega
      have HTE := Lib.hid (show es.take k = es from List.take_of_length_le (by omega))
      have HTF := Lib.hid (show fs.take k = fs from List.take_of_length_le (by rw [HFS.out, List.length_take]; omega))
      have HND2 := Lib.hid (show (es.map idOf).Nodup by have := HND.out; rw [HTE.out] at this; exact this)
      rw [HTF.out] at HO ⊢
      have hfl : fs.length = N := by rw [HFS.out, List.length_take]; have := HL.out; omega
      have HFL := Lib.hid hfl
      have HFI := Lib.hid (show (fs.map idOf).Nodup from by rw [HFS.out]; exact ((List.take_sublist N es).map idOf).nodup HND2.out)
      have HFM := Lib.hid (show ∀ e ∈ fs, mayB e = true from fun e he => List.all_eq_true.1 HAL.out e (by rw [HFS.out] at he; exact List.mem_of_mem_take he))
      have HFT := Lib.hid (show es.take N = fs from HFS.out.symm)
      have HHR := Lib.hid (show Evs wr wr.heap.size A n c es from Cel.more (Cel.below HH.out hbel) hbel.size)
      have hlE : es.length = n := HL.out
      clear HND hkE hfl
      cases hg : fs.any (forgB p)
      · go_wp2
        go_ret
        exact ⟨rfl, HB.out⟩
      · have hgb : GoneBy fs p := by
          obtain ⟨f, h1, h2⟩ := List.any_eq_true.1 hg
          unfold forgB at h2
          rw [Bool.and_eq_true, beq_iff_eq, beq_iff_eq] at h2
          exact ⟨f, h1, HFM.out f h1, h2.2, h2.1⟩
        have HEQ := Lib.hid (forgets_same HFI.out (by rw [HFL.out]; omega) hgb)
        have hlle : (fs.filter (leftB p)).length ≤ 30 := by have := List.length_filter_le (leftB p) fs; have := HFL.out; omega
        have HLM := Lib.hid (show (fs.filter (leftB p)).all mayB = true from List.all_eq_true.2 fun e he => HFM.out e (List.mem_filter.1 he).1)
        generalize fs.filter (leftB p) = ls at *
        obtain ⟨B3, c3, hv3, _⟩ := HO.out.form
        subst hv3
        clear hg hgb
        go_wp2_with fail
        refine (rplog_any wr A n c es HHR.out (by omega) HAL.out 4 (by omega) (by omega) (HMX.out.up HB.out)).mono ?_
        rintro r w1 ⟨bd, bj, G, F, j, rfl, hj1, _, hb1, hes1⟩
        have HJ1 := Lib.hid hj1; have HES1 := Lib.hid hes1
        have HB1' := Lib.hid (HB.out.trans (hb1.mono hsr))
        have HLS := Lib.hid (show Evs w1 w1.heap.size B3 ls.length c3 ls from Cel.more (Cel.below (Cel.of_own HO.out) hb1) hb1.size)
        clear hj1 hb1 hes1
        go_wp2_with fail
        refine (rplog_any w1 B3 ls.length c3 ls HLS.out (by omega) HLM.out 4 (by omega) (by omega) (HMX.out.up HB1'.out)).mono ?_
        rintro r w2 ⟨bd2, bj2, G2, F2, j2, rfl, hj2, _, hb2, hes2⟩
        have HJ2 := Lib.hid hj2; have HES2 := Lib.hid hes2
        have HJ1' := Lib.hid (HJ1.out.up hb2)
        have HB2' := Lib.hid (HB1'.out.trans (hb2.mono HB1'.out.size))
        clear hj2 hb2 hes2
        go_wp2_with fail
        refine (rpasof_any w2 G F bj bd j HJ1'.out es HES1.out 0 0 N (by omega) (by omega) (HMX.out.up HB2'.out)).mono ?_
        rintro r w3 ⟨bi, R, rfl, hI3, hb3, _⟩
        rw [HFT.out] at hI3
        have HI3 := Lib.hid hI3
        have HJ2' := Lib.hid (HJ2.out.up hb3)
        have HB3 := Lib.hid (HB2'.out.trans (hb3.mono HB2'.out.size))
        clear hI3 hb3
        go_wp2_with fail
        refine (rpasof_any w3 G2 F2 bj2 bd2 j2 HJ2'.out ls HES2.out 0 0 ls.length (by omega) (by omega) (HMX.out.up HB3.out)).mono ?_
        rintro r w4 ⟨bi2, R2, rfl, hI4, hb4, _⟩
        rw [List.take_of_length_le (Nat.le_refl _)] at hI4
        have HI4 := Lib.hid hI4
        have HI3' := Lib.hid (HI3.out.up hb4)
        have HB4 := Lib.hid (HB3.out.trans (hb4.mono HB3.out.size))
        clear hI4 hb4
        have HTK := Lib.hid HEQ.out.1
        have HGN := Lib.hid HEQ.out.2
        generalize admAll (Itk.new 0 0) fs = x at *
        have hyg : (admAll (Itk.new 0 0) ls).gone.length ≤ 30 := by have := admAll_goneN ls (Itk.new 0 0); have h0 : (Itk.new 0 0).gone.length = 0 := rfl; omega
        generalize admAll (Itk.new 0 0) ls = y at *
        go_wp2_with fail
        refine (itaken_any w4 R bi _ x HI3'.out (by omega)).mono ?_
        rintro r w5 ⟨v5, rfl, ho5, hb5⟩
        obtain ⟨B5, c5, hv5, _⟩ := ho5.form
        subst hv5
        have HE5 := Lib.hid (show Evs w5 w5.heap.size B5 x.taken.length c5 x.taken from Cel.of_own ho5)
        have HX5 := Lib.hid (HI3'.out.up hb5)
        have HY5 := Lib.hid (HI4.out.up hb5)
        have HB5 := Lib.hid (HB4.out.trans (hb5.mono HB4.out.size))
        have hx5 : x.taken.length ≤ 100000 := by obtain ⟨A, _, hO, _⟩ := HX5.out; exact Nat.le_trans hO.taken (by omega)
        clear ho5 hb5
        go_wp2_with fail
        refine (itaken_any w5 R2 bi2 _ y HY5.out (by omega)).mono ?_
        rintro r w6 ⟨v6, rfl, ho6, hb6⟩
        rw [← HTK.out] at ho6
        obtain ⟨B6, c6, hv6, _⟩ := ho6.form
        subst hv6
        have HE6 := Lib.hid (show Evs w6 w6.heap.size B6 x.taken.length c6 x.taken from Cel.of_own ho6)
        have HE56 := Lib.hid (show Evs w6 w6.heap.size B5 x.taken.length c5 x.taken from Cel.more (Cel.below HE5.out hb6) hb6.size)
        have HX6 := Lib.hid (HX5.out.up hb6)
        have HY6 := Lib.hid (HY5.out.up hb6)
        have HB6 := Lib.hid (HB5.out.trans (hb6.mono HB5.out.size))
        clear ho6 hb6
        go_wp2_with fail
        refine (same02_any w6 _ _ B5 B6 _ c5 c6 _ HE56.out HE6.out hx5).mono ?_
        rintro r w7 ⟨rfl, q7, rfl⟩
        have hb7 : RowKit.Below w6.heap.size w6 (w6.drewN q7) := below_drewN (Below.refl _ _) q7
        have HX7 := Lib.hid (HX6.out.up hb7)
        have HY7 := Lib.hid (HY6.out.up hb7)
        have HB7 := Lib.hid (below_drewN HB6.out q7)
        clear hb7
        generalize w6.drewN q7 = w7 at *
        go_wp2_with fail
        refine (igone_any w7 R bi _ x HX7.out (by omega)).mono ?_
        rintro r w8 ⟨v8, rx, rfl, hrx, hox, hb8⟩
        obtain ⟨B8, c8, rfl⟩ := ownsRow_form hox
        have HSX := Lib.hid (show Strs w8 w8.heap.size B8 rx.length c8 rx from Cel.of_own hox)
        have HY8 := Lib.hid (HY7.out.up hb8)
        have HB8 := Lib.hid (HB7.out.trans (hb8.mono HB7.out.size))
        have HRX := Lib.hid hrx
        clear hox hb8 hrx
        go_wp2_with fail
        refine (igone_any w8 R2 bi2 _ y HY8.out (by omega)).mono ?_
        rintro r w9 ⟨v9, ry, rfl, hry, hoy, hb9⟩
        obtain rfl : ry = rx := rising_unique hry ⟨HRX.out.1, fun r => (HRX.out.2 r).trans (HGN.out r)⟩
        obtain ⟨B9, c9, rfl⟩ := ownsRow_form hoy
        have HSY := Lib.hid (show Strs w9 w9.heap.size B9 ry.length c9 ry from Cel.of_own hoy)
        have HSX9 := Lib.hid (show Strs w9 w9.heap.size B8 ry.length c8 ry from Cel.more (Cel.below HSX.out hb9) hb9.size)
        have HB9 := Lib.hid (HB8.out.trans (hb9.mono HB8.out.size))
        have hr9 : ry.length ≤ 100000 := by have := rising_len33 hry; omega
        clear hoy hb9 hry
        go_wp2_with fail
        refine (texts_any w9 _ _ B8 B9 _ c8 c9 _ HSX9.out HSY.out hr9).mono ?_
        rintro r w10 ⟨rfl, q10, rfl⟩
        have HB10 := Lib.hid (below_drewN HB9.out q10)
        go_wp2
        go_ret
        exact ⟨rfl, HB10.out⟩
end Go.Proofs.YtgbagjpokpchpaaGreatDoor
