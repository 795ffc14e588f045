/-
  Layer 4: Crash.
-/
import Derived.Test.YtejjfhhppjdcaaaGreatDoorODk9
import Derived.Test.YtejjfhhppjdcaaaGreatDoorODk7
import Derived.Test.YtejjfhhppjdcaaaGreatDoorORJl1
import Derived.Deep.RegionHeld3
import Derived.Deep.DeepCutAuto
namespace Go.Proofs.YtejjfhhppjdcaaaGreatDoor
open Go.RowKit Go.Maps Go.Sort

/-- the files after i of them were cut -/
def crsR (m : Row Fl) (ks : List Int) (i : Nat) : Row Fl := crashR (m.take i) ks ++ m.drop i
def Dk.crs (d : Dk) (ks : List Int) (i : Nat) : Dk := ⟨crsR d.files ks i, total (crsR d.files ks i), false, 0, false⟩
theorem crsR_all (m : Row Fl) (ks : List Int) : crsR m ks m.length = crashR m ks := by simp [crsR]
theorem crsR_mid {m : Row Fl} (ks : List Int) {i : Nat} (hi : i < m.length) : crsR m ks i = crashR (m.take i) ks ++ m[i] :: m.drop (i + 1) := by
  unfold crsR; rw [← List.drop_eq_getElem_cons hi]
theorem crsR_succ {m : Row Fl} (ks : List Int) {i : Nat} (hi : i < m.length) : crsR m ks (i + 1) = crashR (m.take i) ks ++ crash1 m[i] (ks.getD i 0) ++ m.drop (i + 1) := by
  unfold crsR
  rw [List.take_add_one, List.getElem?_eq_getElem hi, Option.toList_some, crashR_append]
  simp only [crashR, List.append_nil, List.length_take, Nat.min_eq_left (Nat.le_of_lt hi)]
  rw [show (ks.drop i).headD 0 = ks.getD i 0 by simp [List.headD_eq_head?_getD]]
theorem crsR_up {m : Row Fl} (ks : List Int) (i : Nat) (h : RowUp m) : RowUp (crsR m ks i) := by
  unfold crsR
  have h' : RowUp (m.take i ++ m.drop i) := by rw [List.take_append_drop]; exact h
  obtain ⟨h1, h2, h3⟩ := List.pairwise_append.1 h'
  refine List.pairwise_append.2 ⟨crashR_up _ h1, h2, fun p hp q hq => ?_⟩
  obtain ⟨p', hp', k, rfl⟩ := crashR_mem hp
  exact h3 p' hp' q hq
section
variable {w w' : World} {G : Nat → Prop} {bd bm : Nat} {d : Dk} {B : List UInt8 → Nat} {V : List UInt8 → Value}
theorem DkAt.look1 (h : DkAt w G bd bm d B V) (s : List UInt8) (hs : s.length ≤ 1000000) : (Instr.lookup 98 (.map (some bm)) (.string ⟨s.toArray⟩) false).run Tryz.prog w = .ok (ptrOf d B s) w := by
  have := h.map.look s (by unfold maxLen; omega) 98 114 Tryz.underlying98 (.pointer none) (by kernel_rfl)
  rw [this, Dk.rowv]
  unfold ptrOf
  cases getB d.files s <;> rfl
end
theorem crash1_len {p : List UInt8 × Fl} (k : Int) : (crash1 p k).length ≤ 1 := by unfold crash1; split <;> simp
theorem Dk.Ok.crs {d : Dk} (h : d.Ok) (ks : List Int) (i : Nat) : (d.crs ks i).Ok := by
  have hsp : total d.files = total (d.files.take i) + total (d.files.drop i) := by rw [← total_append, List.take_append_drop]
  have hlt : ∀ p ∈ d.files.take i, 0 ≤ p.2.lasts ∧ p.2.lasts ≤ p.2.data.length := fun p hp => h.las p (List.mem_of_mem_take hp)
  have hc := total_crash ks hlt
  have hm := h.max
  rw [h.used, hsp] at hm
  refine ⟨crsR_up ks i h.up, rfl, ?_, Int.le_refl _, by show (0 : Int) ≤ 1000; omega, ?_, fun p hp => ?_⟩
  · show total (crsR d.files ks i) ≤ 4194304
    unfold crsR; rw [total_append]; omega
  · show (crsR d.files ks i).length ≤ 4096
    have h1 := crashR_len (d.files.take i) ks
    have h2 := h.num
    have h3 : (d.files.take i).length + (d.files.drop i).length = d.files.length := by rw [← List.length_append, List.take_append_drop]
    unfold crsR; rw [List.length_append]; omega
  · have hp : p ∈ crsR d.files ks i := hp
    unfold crsR at hp
    rcases List.mem_append.1 hp with hp | hp
    · obtain ⟨q, hq, k, rfl⟩ := crashR_mem hp
      have h1 := hlt q hq
      have h2 := q.2.kept_le h1 k
      have h3 := Fl.crash_len h1 k
      exact ⟨by show 0 ≤ q.2.kept k; omega, by show q.2.kept k ≤ ((q.2.crash k).data.length : Int); omega⟩
    · exact h.las p (List.mem_of_mem_drop hp)
/-- append to bytes of the call's own, at a step of a region that draws its order -/
theorem step_app8 {ops : Array Oper} {o : Oper} {a : Act} {w : World} {K : Act → World → Prop} {Q : Exit → Act → World → Prop} {E : Prop} (hgd : o.guard = none) (s x : Operand)
    (ho : o.op = .call { callee := .builtin .append, args := #[s, x], argTypes := #[41, 41] })
    (base : Nat) (v : Value) (l : List UInt8) (hs : a.eval s = v) (hown : OwnB w base v l)
    (B : Nat) (A : Option Addr) (m c : Nat) (l' : List UInt8) (hx : a.eval x = .slice A m c) (hr : Byt w B A m c l')
    (hlen : l.length + m ≤ 1099511627776) (hbase : base ≤ w.heap.size)
    (h : ∀ v' w', OwnB w' base v' (l ++ l') → w.grownBy w' v.ownBlock → (v'.ownBlock = v.ownBlock ∨ v'.ownBlock = some w.heap.size) → K (a.put o.dst v') w') :
    if Region.wanted o (yielded ops a.tmps) = true then Oper.wp Tryz.prog o a w K Q else E := by
  have hw : Region.wanted o (yielded ops a.tmps) = true := by simp [Region.wanted, hgd]
  rw [if_pos hw]
  obtain ⟨v', w', h1, h2, h3, h4⟩ := run_app8 w o.type base v l hown B A m c l' hr hlen hbase
  unfold Oper.wp execOp
  simp only [ho, resolve, invoke, builtin, Sem.run_bind, Sem.run_pure, Result.andThen_ok, List.map_toArray, List.map_cons, List.map_nil, hs, hx, h1]
  exact h v' w' h2 h3 h4
theorem crs_next {d : Dk} (h : d.Ok) (ks : List Int) {k : Nat} (hk : k < d.files.length) {s : List UInt8} {f : Fl} (hp : (s, f) = d.files[k]) (d4 : Dk) (u : Int) (hd : d4 = { d.crs ks k with used := u }) (hu : u = (d.crs ks k).used - (f.data.length - f.kept (ks.getD k 0))) :
    d.crs ks (k + 1) = if f.gone (ks.getD k 0) then { d4 with files := delB s d4.files } else { d4 with files := putB s (f.crash (ks.getD k 0)) d4.files } := by
  have hlas := h.las _ (List.getElem_mem hk)
  rw [← hp] at hlas
  have hmid : (d.crs ks k).files = crashR (d.files.take k) ks ++ (s, f) :: d.files.drop (k + 1) := by
    show crsR d.files ks k = _
    rw [crsR_mid ks hk, ← hp]
  have hup : RowUp (crashR (d.files.take k) ks ++ (s, f) :: d.files.drop (k + 1)) := by rw [← hmid]; exact crsR_up ks k h.up
  have hnext : crsR d.files ks (k + 1) = crashR (d.files.take k) ks ++ crash1 (s, f) (ks.getD k 0) ++ d.files.drop (k + 1) := by rw [crsR_succ ks hk, ← hp]
  have hused : (d.crs ks k).used = total (crashR (d.files.take k) ks) + (f.data.length + total (d.files.drop (k + 1))) := by
    show total (d.crs ks k).files = _
    rw [hmid, total_append]; rfl
  have h4 : d4.files = crashR (d.files.take k) ks ++ (s, f) :: d.files.drop (k + 1) := by rw [hd]; exact hmid
  have hu4 : u = total (crsR d.files ks (k + 1)) := by
    have e1 : total (crsR d.files ks (k + 1)) = total (crashR (d.files.take k) ks) + f.kept (ks.getD k 0) + total (d.files.drop (k + 1)) := by
      rw [hnext, total_append, total_append, total_crash1 (p := (s, f)) hlas]
    rw [e1, hu, hused]; omega
  have hf : d.crs ks (k + 1) = { d4 with files := crsR d.files ks (k + 1) } := by
    rw [hd]
    show (⟨_, _, _, _, _⟩ : Dk) = _
    rw [← hu4]; rfl
  rw [hf, hnext, h4, putB_mid hup, delB_mid hup]
  unfold crash1
  by_cases hg : f.gone (ks.getD k 0) = true
  · rw [if_pos hg, if_pos hg]; simp
  · rw [if_neg hg, if_neg hg]; simp
section
variable {w4 W : World} {G : Nat → Prop} {bd bm : Nat} {d : Dk} {B : List UInt8 → Nat} {V : List UInt8 → Value}
/-- a file's own three cells are written anew, its bytes are new -/
theorem DkAt.refile (h : DkAt w4 G bd bm d B V) {s : List UInt8} {f : Fl} (hg : getB d.files s = some f) (f' : Fl) (v' : Value) (hs : w4.heap.size ≤ W.heap.size) (hk : ∀ b, b < w4.heap.size → b ≠ B s → W.heap[b]? = w4.heap[b]?)
    (hb : W.heap[B s]? = some (flObj v' f')) (ho : OwnB W w4.heap.size v' f'.data) :
    DkAt W (fun b => G b ∨ b = B s ∨ v'.ownBlock = some b) bd bm { d with files := putB s f' d.files } (fun t => if t = s then B s else B t) (fun t => if t = s then v' else V t) := by
  have hne := h.nB _ (getB_mem hg)
  have hbs : B s < w4.heap.size := h.lt _ (h.gB _ (getB_mem hg))
  have hv : ∀ b, v'.ownBlock = some b → w4.heap.size ≤ b := fun b hb => ho.lt b hb
  refine h.set s f' v' (B s) _ rfl ((hk bd (h.lt _ h.gd) hne.1.symm).trans h.blk) ?_ hb (ho.base_le (Nat.zero_le _)) hs (fun b hb' _ _ h3 => hk b (h.lt b hb') (h3 f hg).1) (.inl ⟨f, hg, rfl⟩) (fun b hb => .inr ⟨hv b hb, fun e => by have := hv b hb; omega⟩)
  have e := map_put_here h.up f' hg (fun t => (.pointer (some ⟨if t = s then B s else B t, 0, none⟩)))
  rw [e]
  have e2 : (fun p : List UInt8 × Fl => (p.1, Value.pointer (some ⟨if p.1 = s then B s else B p.1, 0, none⟩))) = fun p => (p.1, .pointer (some ⟨B p.1, 0, none⟩)) := by
    funext p; split
    · next h => rw [h]
    · rfl
  rw [e2]
  exact h.map.block (hk bm (h.lt _ h.gm) hne.2.symm)
end
def CrRel (w : World) (G : Nat → Prop) (bd : Nat) (d : Dk) (ks : List Int) (i : Value) (W : World) : Prop :=
  ∃ (k : Nat) (G' : Nat → Prop) (bm : Nat) (B : List UInt8 → Nat) (V : List UInt8 → Value), i = .int .i64 k ∧ k ≤ d.files.length ∧ DkAt W G' bd bm (d.crs ks k) B V ∧ (∀ b, G' b → G b ∨ w.heap.size ≤ b) ∧ Keep G w W
def CrPost (w : World) (G : Nat → Prop) (bd : Nat) (d' : Dk) (e : Ending) (w' : World) : Prop := e = .returned (.tuple #[]) ∧ DkD w G bd d' w'
set_option maxRecDepth 100000 in
set_option maxHeartbeats 8000000 in
theorem dkcrash_any (w : World) (G : Nat → Prop) (bd : Nat) (d : Dk) (h : DkIn w G bd d) (hnm : ∀ p ∈ d.files, p.1.length ≤ 1000000) (A : Option Addr) (n c : Nat) (ks : List Int) (hk : Ints w w.heap.size A n c ks) (hA : ∀ b off, A = some ⟨b, off, none⟩ → 0 < n → ¬ G b) :
    Calls Tryz.prog 36 #[.pointer (some ⟨bd, 0, none⟩), .slice A n c] w (CrPost w G bd (d.crash ks)) := by
  obtain ⟨ho, bm, B, V, h⟩ := h
  have hlt := h.lt
  have HH := Lib.hid h; have HO := Lib.hid ho; have HKS := Lib.hid hk; have HA := Lib.hid hA; have HNM := Lib.hid hnm
  obtain ⟨c0, c1, c2, c3, c4⟩ := h.cells
  have f2 := h.frozen 2
  have f3 := h.frozen 3
  have f4 := h.frozen 4
  have hdl := hlt _ h.gd
  clear hk hA hnm
  have HW1 := Lib.hid (show ∀ W, W = ((w.setCell ⟨bd, 2, none⟩ (.bool false)).setCell ⟨bd, 3, none⟩ (.int .i64 0)).setCell ⟨bd, 4, none⟩ (.bool false) → DkAt W G bd bm (d.crs ks 0) B V ∧ Keep G w W ∧ W.heap.size = w.heap.size from fun W hW => by
    have hf : (d.crs ks 0).files = d.files := by simp [Dk.crs, crsR, crashR]
    refine ⟨HH.out.head _ hf ?_ (by rw [hW]; simp [World.setCell]) (fun b hb => by rw [hW, Below.heap_setCell _ _ _ _ hb, Below.heap_setCell _ _ _ _ hb, Below.heap_setCell _ _ _ _ hb]), ?_, by rw [hW]; simp [World.setCell]⟩
    · rw [hW, heap_set_row (heap_set_row (heap_set_row HH.out.blk))]
      have hu : (d.crs ks 0).used = d.used := by show total (d.crs ks 0).files = _; rw [hf, HO.out.used]
      show _ = some (Obj.cells #[.map (some bm), .int .i64 (d.crs ks 0).used, .bool false, .int .i64 0, .bool false] _)
      rw [hu]; rfl
    · rw [hW]
      exact (((Keep.refl G w).setCell (p := ⟨bd, 2, none⟩) (fun _ => HH.out.gd) _).setCell (p := ⟨bd, 3, none⟩) (fun _ => HH.out.gd) _).setCell (p := ⟨bd, 4, none⟩) (fun _ => HH.out.gd) _)
  clear h ho hlt c0 c1
  go_enter Tryz.func36, Tryz.ntmps36
  go_wp2_with fail
  obtain ⟨w1, hw1⟩ : ∃ w1, w1 = ((w.setCell ⟨bd, 2, none⟩ (.bool false)).setCell ⟨bd, 3, none⟩ (.int .i64 0)).setCell ⟨bd, 4, none⟩ (.bool false) := ⟨_, rfl⟩
  rw [← hw1]
  obtain ⟨hd1, hk1, hz1⟩ := HW1.out w1 hw1
  have HK1 := Lib.hid hk1
  have HD1 := Lib.hid hd1
  obtain ⟨m, hm⟩ : ∃ m, m = d.files.length := ⟨_, rfl⟩
  have HM := Lib.hid hm
  have HNA := Lib.hid (show Calls Tryz.prog 20 #[.pointer (some ⟨bd, 0, none⟩)] w1 (SrcPost w1 (d.files.map (·.1))) from by
    have := dknames_any w1 G bd (d.crs ks 0) ⟨HO.out.crs ks 0, bm, B, V, HD1.out⟩
    have e : (d.crs ks 0).files = d.files := by simp [Dk.crs, crsR, crashR]
    rw [e] at this; exact this)
  clear hw1 HW1 hd1 hk1 c2 c3 c4 f2 f3 f4 hm
  refine HNA.out.mono ?_
  rintro r w2 ⟨vn, rfl, hrow, hb2⟩
  obtain ⟨An, cn, hvn⟩ := ownsRow_form hrow
  subst hvn
  have HB2 := Lib.hid hb2
  have hs2 := hb2.size
  rw [show (d.files.map (·.1)).length = m by rw [List.length_map, HM.out]]
  have HR0 := Lib.hid (show CrRel w2 G bd d ks (.int .i64 0) w2 from ⟨0, G, bm, B, V, rfl, Nat.zero_le _, HD1.out.up_ HB2.out, fun b hb => .inl hb, Keep.refl _ _⟩)
  have HG1 := Lib.hid (show ∀ b, G b → b < w1.heap.size from HD1.out.lt)
  have HSN := Lib.hid (show ∀ W, Keep G w2 W → Strs W W.heap.size An m cn (d.files.map (·.1)) from fun W hW => by
    have h0 : Strs w2 w2.heap.size An m cn (d.files.map (·.1)) := by
      have := Cel.of_own hrow
      rw [show (d.files.map (·.1)).length = m by rw [List.length_map, HM.out]] at this
      exact this
    rcases Nat.eq_zero_or_pos m with h0' | h0'
    · rw [h0'] at h0 ⊢
      exact ⟨h0.1, h0.2, h0.3, fun h => absurd h (Nat.lt_irrefl _)⟩
    · refine Cel.keepG h0 (fun b off e hb => ?_) hW
      have hbl := HG1.out b hb
      rcases hrow.2 with ⟨e', hl⟩ | ⟨g, cap, cur, e', hbg, _⟩
      · injection e' with e1 e2; rw [List.length_map, ← HM.out] at e2; omega
      · injection e' with e1 e2
        rw [e] at e1; injection e1 with e1; injection e1 with e1
        omega)
  have HKI := Lib.hid (show ∀ W, Keep G w2 W → Ints W W.heap.size A n c ks from fun W hW => by
    have hkw : Keep G w W := (HK1.out.trans (Keep.of_below (F := G) HB2.out) (fun _ _ h => h)).trans hW (fun _ _ h => h)
    rcases Nat.eq_zero_or_pos n with h0' | h0'
    · have h0 := HKS.out
      rw [h0'] at h0 ⊢
      exact ⟨h0.1, h0.2, h0.3, fun h => absurd h (Nat.lt_irrefl _)⟩
    · exact Cel.keepG HKS.out (fun b off e hb => HA.out b off e h0' hb) hkw)
  have hm4 : m ≤ 4096 := by have := HO.out.num; rw [HM.out]; exact this
  have hkn : ks.length = n := HKS.out.len
  have HFI := Lib.hid (show ∀ W, CrRel w2 G bd d ks (.int .i64 m) W → CrPost w G bd (d.crash ks) (.returned (.tuple #[])) W from fun W hW => by
    obtain ⟨k, G', bm', B', V', e, hk', hd', hG', hk2⟩ := hW
    injection e with _ e
    have hkm : k = d.files.length := by rw [← HM.out]; omega
    have hdk : d.crs ks k = d.crash ks := by unfold Dk.crs Dk.crash; rw [hkm, crsR_all]
    rw [hdk] at hd'
    have hs3 := HK1.out.size
    exact ⟨rfl, G', ⟨HO.out.crash ks, bm', B', V', hd'⟩, fun b hb => (hG' b hb).imp id (fun h => by omega), (HK1.out.trans (Keep.of_below (F := G) HB2.out) (fun _ _ h => h)).trans hk2 (fun _ _ h => h)⟩)
  clear hrow hb2 HNA
  go_wp2_with fail
  go_loopw [4, 5, 6, 7, 20] (fun _ _ _ _ i W => CrRel w2 G bd d ks i W) (fun _ _ _ _ i _ => m - (intOf i).toNat)
  case atStart => exact HR0.out
  case round =>
    obtain ⟨k, G1, bm1, B1, V1, rfl, hk, hd, hG, hkp⟩ := hrel
    have HDK := Lib.hid hd; have HG := Lib.hid hG; have HKP := Lib.hid hkp
    rw [← HM.out] at hk
    have hsr := hkp.size
    by_cases hkm : k < m
    · have hkl : k < d.files.length := by rw [← HM.out]; exact hkm
      have t1 : (k : Int) < m := by omega
      obtain ⟨bn, on, hAn, hbn, hcn⟩ := (HSN.out wr hkp).at_ k (by rw [List.length_map]; exact hkl)
      subst hAn
      obtain ⟨p0, hp0⟩ : ∃ p0, p0 = d.files[k] := ⟨_, rfl⟩
      have HP0 := Lib.hid hp0
      have hpm : p0 ∈ d.files := by rw [hp0]; exact List.getElem_mem hkl
      have HPM := Lib.hid hpm
      rw [List.getElem_map, ← hp0] at hcn
      have hlas := HO.out.las p0 hpm
      have hnl := HNM.out p0 hpm
      have hlen : (p0.2.data.length : Int) ≤ 4194304 := by
        have h1 := total_mem hpm
        have h2 := HO.out.max
        rw [HO.out.used] at h2; omega
      obtain ⟨s, f⟩ := p0
      simp only at hcn hlas hnl hlen
      have hmid : (d.crs ks k).files = crashR (d.files.take k) ks ++ (s, f) :: d.files.drop (k + 1) := by
        show crsR d.files ks k = _
        rw [crsR_mid ks hkl, ← HP0.out]
      have HMI := Lib.hid hmid
      have hup : RowUp (crashR (d.files.take k) ks ++ (s, f) :: d.files.drop (k + 1)) := by rw [← hmid]; exact hd.up
      have HUP := Lib.hid hup
      have hgt : getB (d.crs ks k).files s = some f := by rw [hmid]; exact getB_mid hup
      have HGT := Lib.hid hgt
      have hl1 := hd.look1 s hnl
      rw [show ptrOf (d.crs ks k) B1 s = .pointer (some ⟨B1 s, 0, none⟩) by unfold ptrOf; rw [hgt]; rfl] at hl1
      obtain ⟨x0, x1, x2⟩ := hd.filecells hgt
      have c0 := hd.cells.1
      obtain ⟨Av, cv, hv⟩ := (hd.own _ (getB_mem hgt)).form
      replace hv : V1 s = .slice Av f.data.length cv := hv
      rw [hv] at x0
      have hkb := f.kept_le hlas (ks.getD k 0)
      obtain ⟨l0, hl0⟩ : ∃ l0 : Nat, f.lasts = l0 := ⟨f.lasts.toNat, by omega⟩
      obtain ⟨kv, hkv⟩ : ∃ kv : Nat, (kv : Int) = f.kept (ks.getD k 0) - l0 := ⟨(f.kept (ks.getD k 0) - l0).toNat, by omega⟩
      obtain ⟨dl, hdl⟩ : ∃ dl : Nat, dl = f.data.length := ⟨_, rfl⟩
      have HKV := Lib.hid hkv
      have HL0 := Lib.hid hl0
      have HDL := Lib.hid hdl
      have hb0 : l0 + kv ≤ dl := by omega
      have hb1 : dl ≤ 4194304 := by omega
      rw [← hdl] at x0
      rw [hl0] at x1
      have hul := (HO.out.crs ks k).max
      have hu0 := (HO.out.crs ks k).used0
      obtain ⟨us, hus⟩ : ∃ us, us = (d.crs ks k).used := ⟨_, rfl⟩
      have HUS := Lib.hid hus
      rw [← hus] at hul hu0
      have HLAS := Lib.hid hlas
      have hdk1 : wr.cell? ⟨bd, 1, none⟩ = some (.int .i64 us) := by rw [hus]; exact hd.cells.2.1
      have HVV := Lib.hid hv
      clear hd hG hkp hp0 hpm hmid hup hgt hv hkb hlas hlen hl0 hdl hus
      go_upto_if 34 with fail
      go_cut [7] (fun v wc => v = .int .i64 kv ∧ ∃ q, wc = wr.drewN q)
      case first =>
        by_cases hin : k < n
        · obtain ⟨bk, ok, hAk, hbk, hck⟩ := (HKI.out wr HKP.out).at_ k (by omega)
          subst hAk
          have t2 : (k : Int) < n := by omega
          have hge : ks.getD k 0 = ks[k] := by rw [List.getD_eq_getElem?_getD, List.getElem?_eq_getElem (by omega)]; rfl
          have hmn : min (max ks[k] 0) ((dl : Int) - l0) = kv := by have := HL0.out; have := HDL.out; rw [hkv, hge]; unfold Fl.kept; omega
          clear hge hkv
          go_wp2_with fail
          go_region_held3 (fun W => W.cell? ⟨bk, ok + k, none⟩ = some (.int .i64 ks[k]) ∧ W.cell? ⟨B1 s, 0, none⟩ = some (.slice Av dl cv) ∧ W.cell? ⟨B1 s, 1, none⟩ = some (.int .i64 (l0 : Int))) (first | assumption | go_keep) (fail)
          go_wp2
          go_meet
          have hwr : IntKind.i64.wrap ((dl : Int) - l0) = (dl : Int) - l0 := IntWalk.i64_in _ (by omega)
          exact ⟨by rw [hwr, hmn], _, rfl⟩
        · have t2 : ¬ (k : Int) < n := by omega
          have hge : ks.getD k 0 = 0 := by rw [List.getD_eq_getElem?_getD, List.getElem?_eq_none (by omega)]; rfl
          have hkv0 : kv = 0 := by have := HLAS.out; have := HL0.out; rw [hge] at hkv; unfold Fl.kept at hkv; omega
          clear hge hkv
          go_wp2
          go_meet
          exact ⟨by rw [hkv0]; rfl, 0, rfl⟩
      case rest =>
        obtain ⟨rfl, q, rfl⟩ := hcut
        clear hkv
        obtain ⟨w3, hw3⟩ : ∃ w3, w3 = wr.drewN q := ⟨_, rfl⟩
        have hb3 : Below wr.heap.size wr w3 := hw3 ▸ below_drewN (Below.refl _ _) q
        have hd3 := HDK.out.up_ hb3
        have HD3 := Lib.hid hd3
        have HK3 := Lib.hid (show Keep G w2 w3 from HKP.out.trans (Keep.of_below (F := G) hb3) (fun _ _ h => h))
        have HG3 := Lib.hid hd3.lt
        have x0 : w3.cell? ⟨B1 s, 0, none⟩ = some (.slice Av dl cv) := by rw [hw3]; exact x0
        have x1 : w3.cell? ⟨B1 s, 1, none⟩ = some (.int .i64 l0) := by rw [hw3]; exact x1
        have x2 : w3.cell? ⟨B1 s, 2, none⟩ = some (.bool f.stays) := by rw [hw3]; exact x2
        have c0 : w3.cell? ⟨bd, 0, none⟩ = some (.map (some bm1)) := by rw [hw3]; exact c0
        have hdk1 : w3.cell? ⟨bd, 1, none⟩ = some (.int .i64 us) := by rw [hw3]; exact hdk1
        have d1f : w3.frozen? ⟨bd, 1, none⟩ = false := hd3.frozen 1
        have hne : B1 s ≠ bd := (hd3.nB _ (getB_mem HGT.out)).1
        have hne' : bd ≠ B1 s := Ne.symm hne
        rw [← hw3]
        clear hw3 hd3 hb3 hcn hl1
        have hwr : IntKind.i64.wrap (us - IntKind.i64.wrap (IntKind.i64.wrap ((dl : Int) - l0) - kv)) = us - (dl - l0 - kv) := by
          rw [IntWalk.i64_in ((dl : Int) - l0) (by omega), IntWalk.i64_in ((dl : Int) - l0 - kv) (by omega), IntWalk.i64_in _ (by omega)]
        have HWR := Lib.hid hwr
        clear hwr
        -- the disk with its number written
        obtain ⟨u4, hu4⟩ : ∃ u4 : Int, u4 = us - (dl - l0 - kv) := ⟨_, rfl⟩
        have HU4 := Lib.hid hu4
        clear hu4
        go_upto_region 8 with fail
        go_cut [] (fun wc => wc = (w3.setCell ⟨bd, 1, none⟩ (.int .i64 u4)).drew)
        case first =>
          go_region_law (fail)
          all_goals
            go_wp2
            go_meet
            rw [HWR.out, ← HU4.out]
        rename_i wc hcut
        subst hcut
        obtain ⟨d4, hd4⟩ : ∃ d4 : Dk, d4 = { d.crs ks k with used := u4 } := ⟨_, rfl⟩
        have HD4 := Lib.hid hd4
        obtain ⟨w4, hw4⟩ : ∃ w4, w4 = (w3.setCell ⟨bd, 1, none⟩ (.int .i64 u4)).drew := ⟨_, rfl⟩
        have HA4 := Lib.hid (show DkAt w4 G1 bd bm1 d4 B1 V1 ∧ Keep G w2 w4 ∧ w4.heap.size = w3.heap.size from by
          have hs : (w3.setCell ⟨bd, 1, none⟩ (.int .i64 u4)).heap.size = w3.heap.size := by simp [World.setCell]
          have hh : w4.heap = (w3.setCell ⟨bd, 1, none⟩ (.int .i64 u4)).heap := by rw [hw4]; rfl
          refine ⟨HD3.out.head d4 (by rw [hd4]) ?_ (by rw [hh]; exact hs) (fun b hb => by rw [hh]; exact Below.heap_setCell _ _ _ _ hb), ?_, by rw [hh]; exact hs⟩
          · rw [hh, heap_set_row HD3.out.blk, hd4]; rfl
          · rw [hw4]
            exact (HK3.out.setCell (p := ⟨bd, 1, none⟩) (fun h => (HG.out _ HDK.out.gd).elim id (fun h' => absurd h (by show ¬ bd < w2.heap.size; omega))) _).drewN 1)
        obtain ⟨hd4a, hk4, hz4⟩ := HA4.out
        have hf4 : d4.files = (d.crs ks k).files := by rw [hd4]
        have HF4 := Lib.hid hf4
        have HGT4 := Lib.hid (show getB d4.files s = some f from by rw [hf4]; exact HGT.out)
        obtain ⟨y0, y1, y2⟩ := hd4a.filecells HGT4.out
        rw [HVV.out, ← HDL.out] at y0
        rw [HL0.out] at y1
        have HBY := Lib.hid (show Byt w4 w4.heap.size Av dl cv f.data from by
          have := hd4a.own _ (getB_mem HGT4.out)
          rw [HVV.out] at this
          have := OwnB.byt (base := 0) this
          rw [← HDL.out] at this; exact this)
        rw [← hw4]
        clear hw4 hd4 x0 x1 x2 hdk1 d1f hd4a hk4 hf4 c0 hz4
        have HBT := Lib.hid (HBY.out.take (l0 + kv) hb0)
        obtain ⟨wa, hwa⟩ : ∃ wa, wa = (w4.alloc (.cells #[] 5)).drew := ⟨_, rfl⟩
        have HLI := Lib.hid (show OwnB wa w4.heap.size (.slice (some ⟨w4.heap.size, 0, none⟩) 0 0) [] from by rw [hwa]; exact World.ownsRow_lit w4 #[] 0 (Nat.le_refl _) (by simp [maxLen]) rfl)
        have HBA := Lib.hid (show Byt wa w4.heap.size Av (l0 + kv) cv (f.data.take (l0 + kv)) from by rw [hwa]; exact (HBT.out.alloc (Nat.le_refl _) _).drewN 1)
        have HLA := Lib.hid (show w4.heap.size ≤ wa.heap.size from by rw [hwa]; show _ ≤ (w4.alloc (.cells #[] 5)).heap.size; simp)
        have HBW := Lib.hid (show Below w4.heap.size w4 wa from by rw [hwa]; exact below_drewN ((Below.refl _ _).alloc (Nat.le_refl _) _) 1)
        have HD5 := Lib.hid (show ∀ W5, wa.grownBy W5 (some w4.heap.size) → DkAt W5 G1 bd bm1 d4 B1 V1 ∧ Keep G w2 W5 ∧ w4.heap.size ≤ W5.heap.size from fun W5 hg => by
          have hb : Below w4.heap.size w4 W5 := Below.grown HBW.out hg HLA.out (fun k hk => by injection hk with hk; omega)
          exact ⟨HA4.out.1.up_ hb, HA4.out.2.1.trans (Keep.of_below (F := fun _ => False) hb) (fun _ _ h => h.elim), hb.size⟩)
        have hlc : ([] : List UInt8).length + (l0 + kv) ≤ 1099511627776 := by simp; omega
        have HLC := Lib.hid hlc
        have HTL := Lib.hid (show ([] ++ f.data.take (l0 + kv) : List UInt8) = f.data.take (l0 + kv) ∧ (f.data.take (l0 + kv)).length = l0 + kv from ⟨by simp, by rw [List.length_take, ← HDL.out]; omega⟩)
        have HS5 := Lib.hid (show ∀ W5, wa.grownBy W5 (some w4.heap.size) → ∀ u, W5.cell? ⟨B1 s, 1, none⟩ = some (.int .i64 (l0 : Int)) ∧ W5.cell? ⟨B1 s, 0, none⟩ = some (.slice Av dl cv) ∧ W5.frozen? ⟨B1 s, 0, none⟩ = false ∧ (W5.setCell ⟨B1 s, 0, none⟩ u).cell? ⟨B1 s, 1, none⟩ = some (.int .i64 (l0 : Int)) from fun W5 hg u => by
          obtain ⟨h1, _, _⟩ := HD5.out W5 hg
          obtain ⟨z0, z1, z2⟩ := h1.filecells HGT4.out
          rw [HVV.out, ← HDL.out] at z0
          rw [HL0.out] at z1
          refine ⟨z1, z0, frozen_of_row W5 (B1 s) 0 _ _ (h1.fl _ (getB_mem HGT4.out)), ?_⟩
          exact (cell_of_row _ (B1 s) 1 _ _ (0, 0) (heap_set_row (o := 0) (u := u) (h1.fl _ (getB_mem HGT4.out)))).trans (by rw [HL0.out]; rfl))
        have hbs4 : B1 s < w4.heap.size := HA4.out.1.lt _ (HA4.out.1.gB _ (getB_mem HGT4.out))
        have y0a : wa.cell? ⟨B1 s, 0, none⟩ = some (.slice Av dl cv) := (HBW.out.cell (p := ⟨B1 s, 0, none⟩) hbs4).trans y0
        have y1a : wa.cell? ⟨B1 s, 1, none⟩ = some (.int .i64 (l0 : Int)) := (HBW.out.cell (p := ⟨B1 s, 1, none⟩) hbs4).trans y1
        clear hlc hbs4
        have hcap : dl ≤ cv := HBY.out.cap
        have hwl : IntKind.i64.wrap ((l0 : Int) + kv) = (l0 : Int) + kv := IntWalk.i64_in _ (by omega)
        have hwl0 : (0 : Int) ≤ (l0 : Int) + kv := by omega
        have hwl1 : (l0 : Int) + kv ≤ cv := by omega
        have hwl2 : ((l0 : Int) + kv).toNat = l0 + kv := by omega
        clear hcap
        subst hwa
        go_upto_region 9 with fail
        go_cut [] (fun wc => ∃ (A5 : Option Addr) (c5 : Nat) (w5 : World), wc = w5.setCell ⟨B1 s, 0, none⟩ (.slice A5 (l0 + kv) c5) ∧ ((w4.alloc (.cells #[] 5)).drew).grownBy w5 (some w4.heap.size) ∧ OwnB w5 w4.heap.size (.slice A5 (l0 + kv) c5) (f.data.take (l0 + kv)))
        case first =>
          go_region_law ((with_reducible refine step_app8 rfl (.tmp 71) (.tmp 82) rfl w4.heap.size (.slice (some ⟨w4.heap.size, 0, none⟩) 0 0) [] rfl HLI.out w4.heap.size Av (l0 + kv) cv (f.data.take (l0 + kv)) rfl HBA.out HLC.out HLA.out ?_); intro v5 w5 ho5 hg5 hv5; have HGR := Lib.hid hg5; have HO5 := Lib.hid ho5; obtain ⟨hS5, z0, z0f, _⟩ := HS5.out _ hg5 undef; obtain ⟨A5, c5, hv5'⟩ := ho5.form; rw [HTL.out.1, HTL.out.2] at hv5'; subst hv5'; clear ho5 hg5 hv5)
          all_goals
            go_wp2
            go_meet
            exact ⟨A5, c5, w5, rfl, HGR.out, by have := HO5.out; rw [HTL.out.1] at this; exact this⟩
        case rest =>
          obtain ⟨A5, c5, w5, rfl, hg5, ho5⟩ := hcut
          have HO5 := Lib.hid ho5
          obtain ⟨hd5, hk5, hz5⟩ := HD5.out w5 hg5
          have HDA := Lib.hid hd5; have HKA := Lib.hid hk5
          have hgt4 := HGT4.out
          obtain ⟨kp, hkp⟩ : ∃ kp : Nat, kp = l0 + kv := ⟨_, rfl⟩
          have HKP2 := Lib.hid (show (kp : Int) = f.kept (ks.getD k 0) from by have := HKV.out; omega)
          rw [← hkp] at ho5 HO5 ⊢
          have HDT := Lib.hid (show f.data.take kp = (f.crash (ks.getD k 0)).data from by
            show _ = f.data.take (f.kept (ks.getD k 0)).toNat
            rw [← HKP2.out]; rfl)
          have HGO := Lib.hid (show f.gone (ks.getD k 0) = (!f.stays && kp == 0) from by
            unfold Fl.gone
            have e : ((kp : Int) == 0) = (kp == 0) := by rw [Bool.eq_iff_iff]; simp
            rw [← HKP2.out, e])
          have HNX := Lib.hid (crs_next HO.out ks hkl HP0.out d4 u4 HD4.out (by have := HU4.out; have := HKV.out; have := HDL.out; rw [← HUS.out]; omega))
          have hbs5 : B1 s < w4.heap.size := HA4.out.1.lt _ (HA4.out.1.gB _ (getB_mem hgt4))
          have hneb : B1 s ≠ bd ∧ B1 s ≠ bm1 := HA4.out.1.nB _ (getB_mem hgt4)
          have HNE := Lib.hid hneb
          have hk45 : ∀ b, b < w4.heap.size → w5.heap[b]? = w4.heap[b]? := fun b hb => (Below.grown HBW.out hg5 HLA.out (fun k hk => by injection hk with hk; omega)).block b hb
          have HK45 := Lib.hid hk45
          have y5 : w5.heap[B1 s]? = some (flObj (V1 s) f) := hd5.fl _ (getB_mem hgt4)
          obtain ⟨v5, hv5⟩ : ∃ v5, v5 = Value.slice A5 kp c5 := ⟨_, rfl⟩
          rw [← hv5] at ho5 HO5
          have HV5 := Lib.hid hv5
          -- the file behind three stores
          have HST := Lib.hid (show ∀ (st : Bool) W, W.heap.size = w5.heap.size → (∀ b, b ≠ B1 s → W.heap[b]? = w5.heap[b]?) → W.heap[B1 s]? = some (flObj v5 ⟨f.data.take kp, kp, st⟩) → DkAt W (fun b => G1 b ∨ b = B1 s ∨ v5.ownBlock = some b) bd bm1 { d4 with files := putB s ⟨f.data.take kp, kp, st⟩ d4.files } (fun t => if t = s then B1 s else B1 t) (fun t => if t = s then v5 else V1 t) from fun st W hs hkW hb =>
            HA4.out.1.refile hgt4 ⟨f.data.take kp, kp, st⟩ v5 (by omega) (fun b hb hne => (hkW b hne).trans (hk45 b hb)) hb (ho5.keepB fun b hb' => hkW b (fun e => by have := ho5.lt b hb'; omega)))
          have HGG := Lib.hid (show ∀ b, (G1 b ∨ b = B1 s ∨ v5.ownBlock = some b) → G b ∨ w2.heap.size ≤ b from fun b hb => by
            rcases hb with hb | hb | hb
            · exact HG.out b hb
            · rw [hb]; exact HG.out _ (HA4.out.1.gB _ (getB_mem hgt4))
            · right
              have := ho5.lt b hb
              have := HA4.out.2.1.size
              omega)
          have HIN := Lib.hid (show ∀ b, b < w2.heap.size → G1 b → G b from fun b hb hg => (HG.out b hg).elim id (fun h => by omega))
          have hgb1 : G1 (B1 s) := HA4.out.1.gB _ (getB_mem hgt4)
          have hgm1 : G1 bm1 := HA4.out.1.gm
          have z0 : (w5.setCell ⟨B1 s, 0, none⟩ v5).cell? ⟨B1 s, 0, none⟩ = some v5 := (cell_of_row _ (B1 s) 0 _ _ (0, 0) (heap_set_row (o := 0) (u := v5) y5)).trans rfl
          have z1 : (w5.setCell ⟨B1 s, 0, none⟩ v5).cell? ⟨B1 s, 1, none⟩ = some (.int .i64 f.lasts) := (cell_of_row _ (B1 s) 1 _ _ (0, 0) (heap_set_row (o := 0) (u := v5) y5)).trans rfl
          have z1f : (w5.setCell ⟨B1 s, 0, none⟩ v5).frozen? ⟨B1 s, 1, none⟩ = false := frozen_of_row _ (B1 s) 1 _ _ (heap_set_row (o := 0) (u := v5) y5)
          -- behind the second store
          obtain ⟨w6, hw6⟩ : ∃ w6, w6 = (w5.setCell ⟨B1 s, 0, none⟩ v5).setCell ⟨B1 s, 1, none⟩ (.int .i64 (kp : Int)) := ⟨_, rfl⟩
          have y6 : w6.heap[B1 s]? = some (flObj v5 ⟨f.data.take kp, kp, f.stays⟩) := by rw [hw6, heap_set_row (heap_set_row y5)]; rfl
          have hk6 : ∀ b, b ≠ B1 s → w6.heap[b]? = w5.heap[b]? := fun b hb => by rw [hw6, Below.heap_setCell _ _ _ _ hb, Below.heap_setCell _ _ _ _ hb]
          have hs6 : w6.heap.size = w5.heap.size := by rw [hw6]; simp [World.setCell]
          have HK6 := Lib.hid (show Keep G w2 w6 from by rw [hw6]; exact (hk5.setCell (p := ⟨B1 s, 0, none⟩) (fun h => HIN.out _ h hgb1) _).setCell (p := ⟨B1 s, 1, none⟩) (fun h => HIN.out _ h hgb1) _)
          have HD6 := Lib.hid (HST.out f.stays w6 hs6 hk6 y6)
          have t60 : w6.cell? ⟨B1 s, 0, none⟩ = some v5 := (cell_of_row _ (B1 s) 0 _ _ (0, 0) y6).trans rfl
          have t61 : w6.cell? ⟨B1 s, 1, none⟩ = some (.int .i64 (kp : Int)) := (cell_of_row _ (B1 s) 1 _ _ (0, 0) y6).trans rfl
          have t62 : w6.cell? ⟨B1 s, 2, none⟩ = some (.bool f.stays) := (cell_of_row _ (B1 s) 2 _ _ (0, 0) y6).trans rfl
          have t62f : w6.frozen? ⟨B1 s, 2, none⟩ = false := frozen_of_row _ (B1 s) 2 _ _ y6
          have tm0 : w6.cell? ⟨bd, 0, none⟩ = some (.map (some bm1)) := HD6.out.cells.1
          have HMP := Lib.hid (show MapS w6 bm1 (({ d4 with files := putB s ⟨f.data.take kp, kp, f.stays⟩ d4.files } : Dk).files.map fun p => (p.1, .pointer (some ⟨if p.1 = s then B1 s else B1 p.1, 0, none⟩))) from HD6.out.map)
          have HS6 := Lib.hid hs6; have HK6' := Lib.hid hk6; have Y6 := Lib.hid y6
          -- kept
          have HKE := Lib.hid (show f.gone (ks.getD k 0) = false → CrRel w2 G bd d ks (.int .i64 ((k : Int) + 1)) (w6.setCell ⟨B1 s, 2, none⟩ (.bool true)) from fun hgo => by
            have hn := HNX.out
            rw [hgo] at hn
            have hdk := HST.out true (w6.setCell ⟨B1 s, 2, none⟩ (.bool true)) (by simp [World.setCell]; exact hs6) (fun b hb => by rw [Below.heap_setCell _ _ _ _ hb]; exact hk6 b hb) (by rw [heap_set_row y6]; rfl)
            have e : ({ d4 with files := putB s ⟨f.data.take kp, kp, true⟩ d4.files } : Dk) = d.crs ks (k + 1) := by
              rw [hn]
              have : f.crash (ks.getD k 0) = ⟨f.data.take kp, kp, true⟩ := by rw [HDT.out, HKP2.out]; rfl
              rw [this]; rfl
            rw [e] at hdk
            exact ⟨k + 1, _, _, _, _, rfl, by rw [← HM.out]; omega, hdk, HGG.out, HK6.out.setCell (p := ⟨B1 s, 2, none⟩) (fun h => HIN.out _ h hgb1) _⟩)
          -- gone
          have HGN := Lib.hid (show f.gone (ks.getD k 0) = true → ∀ w7, MapS w7 bm1 (delB s (({ d4 with files := putB s ⟨f.data.take kp, kp, f.stays⟩ d4.files } : Dk).files.map fun p => (p.1, .pointer (some ⟨if p.1 = s then B1 s else B1 p.1, 0, none⟩)))) → w6.grownBy w7 (some bm1) → CrRel w2 G bd d ks (.int .i64 ((k : Int) + 1)) (w7.setCell ⟨B1 s, 2, none⟩ (.bool true)) ∧ w7.cell? ⟨B1 s, 2, none⟩ = some (.bool f.stays) ∧ w7.frozen? ⟨B1 s, 2, none⟩ = false from fun hgo w7 hm7 hg7 => by
            have hn := HNX.out
            rw [hgo] at hn
            have hb6 : B1 s < w6.heap.size := by rw [hs6]; omega
            have h7b : ∀ b, b < w6.heap.size → b ≠ bm1 → w7.heap[b]? = w6.heap[b]? := fun b hb hne => hg7.block b hb (fun e => hne (Option.some.inj e))
            have y7 : w7.heap[B1 s]? = some (flObj v5 ⟨f.data.take kp, kp, f.stays⟩) := (h7b _ hb6 HNE.out.2).trans y6
            refine ⟨?_, (cell_of_row _ (B1 s) 2 _ _ (0, 0) y7).trans rfl, frozen_of_row _ (B1 s) 2 _ _ y7⟩
            have hmm : MapS (w7.setCell ⟨B1 s, 2, none⟩ (.bool true)) bm1 (delB s (({ d4 with files := putB s ⟨f.data.take kp, kp, f.stays⟩ d4.files } : Dk).files.map fun p => (p.1, .pointer (some ⟨if p.1 = s then B1 s else B1 p.1, 0, none⟩)))) := hm7.block (Below.heap_setCell _ _ _ _ (Ne.symm HNE.out.2))
            have hdk := HD6.out.del (w' := w7.setCell ⟨B1 s, 2, none⟩ (.bool true)) s { d4 with files := delB s d4.files } (by
                show delB s d4.files = delB s (putB s _ d4.files)
                have hup4 : RowUp d4.files := HA4.out.1.up
                refine rowUp_same (hup4.del s) ((putB_rising hup4 _ _).del s) fun p => ?_
                rw [delB_mem, delB_mem, putB_mem]
                exact ⟨fun ⟨h1, h2⟩ => ⟨.inr ⟨h1, h2⟩, h2⟩, fun ⟨h1, h2⟩ => ⟨h1.elim (fun e => absurd (by rw [e]) h2) (fun h => h.1), h2⟩⟩)
              (by rw [Below.heap_setCell _ _ _ _ (Ne.symm HNE.out.1), h7b bd (by rw [hs6]; have := HA4.out.1.lt _ HA4.out.1.gd; omega) HA4.out.1.nm]; exact HD6.out.blk)
              hmm (by rw [show (w7.setCell ⟨B1 s, 2, none⟩ (.bool true)).heap.size = w7.heap.size by simp [World.setCell]]; exact hg7.size)
              (fun b hb _ hne hnb => by
                have hnb' : b ≠ B1 s := by simpa using hnb
                rw [Below.heap_setCell _ _ _ _ hnb']
                exact h7b b (HD6.out.lt b hb) hne)
              (by show (getB (putB s _ d4.files) s).isSome = true; rw [getB_put_same]; rfl)
            rw [show ({ d4 with files := delB s d4.files } : Dk) = d.crs ks (k + 1) from by rw [hn]; rfl] at hdk
            refine ⟨k + 1, _, _, _, _, rfl, by rw [← HM.out]; omega, hdk, HGG.out, ?_⟩
            exact (HK6.out.trans (Keep.of_grown (F := fun b => b = bm1) hg7 (fun b e => by injection e with e; exact e.symm)) (fun b hb e => by subst e; exact HIN.out _ hb hgm1)).setCell (p := ⟨B1 s, 2, none⟩) (fun h => HIN.out _ h hgb1) _)
          clear hd5 hk5 hz5 hg5 ho5 hk45 y5 hk6 hs6 y6 hgb1 hgm1 hneb hgt4 hkp
          subst hv5
          go_upto_region 11 with fail
          rw [← hw6]
          clear z0 z1 z1f hw6
          cases hst : f.stays
          case true =>
            have hr := HKE.out (by rw [HGO.out, hst]; rfl)
            have HR := Lib.hid hr
            rw [hst] at t62
            clear hr hst HKE HGN
            go_wp2
            go_roundw
            case rel => exact HR.out
            case measure => simp [intOf]; omega
          rw [hst] at t62
          by_cases hz0 : kp = 0
          · have hgo : f.gone (ks.getD k 0) = true := by rw [HGO.out, hst, hz0]; rfl
            have HG7 := Lib.hid (HGN.out hgo)
            subst hz0
            have hnl' : s.length ≤ maxLen := by unfold maxLen; omega
            clear hgo hst HKE HGN
            go_wp2_with (at_delete; refine wpList_mapS_del rfl (.tmp 109) (.tmp 110) 98 rfl 114 Tryz.underlying98 bm1 _ rfl HMP.out s rfl hnl' ?_)
            intro w7 hm7 hg7
            obtain ⟨hr, q2, q2f⟩ := HG7.out w7 hm7 hg7
            have HR := Lib.hid hr
            clear hr hm7 hg7 HG7
            go_wp2
            go_roundw
            case rel => exact HR.out
            case measure => simp [intOf]; omega
          · have hr := HKE.out (by rw [HGO.out, hst]; simp [hz0])
            have HR := Lib.hid hr
            have hz1 : ¬ (kp : Int) = 0 := by omega
            clear hr hst HKE HGN
            go_wp2
            go_roundw
            case rel => exact HR.out
            case measure => simp [intOf]; omega
    · obtain rfl : k = m := by omega
      have HF := Lib.hid (HFI.out wr ⟨k, G1, bm1, B1, V1, rfl, by rw [← HM.out]; exact Nat.le_refl _, HDK.out, HG.out, HKP.out⟩)
      go_wp2
      go_end0
      exact HF.out
end Go.Proofs.YtejjfhhppjdcaaaGreatDoor
