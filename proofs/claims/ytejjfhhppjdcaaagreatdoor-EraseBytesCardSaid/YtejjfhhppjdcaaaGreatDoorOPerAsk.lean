/-
  Layer 5: Rewrite.
  Layer 5: closures that tell a person's events apart, as askers.
-/
import Derived.Test.YtejjfhhppjdcaaaGreatDoorOJlRw2
import Derived.Test.YtejjfhhppjdcaaaGreatDoorOJAsk
namespace Go.Proofs.YtejjfhhppjdcaaaGreatDoor
open Go.RowKit Go.Maps Go.Sort

theorem rdEv_append (a b : List (Option Ev)) : rdEv (a ++ b) = rdEv a ++ rdEv b := List.filterMap_append ..
theorem erSeg_drop (kb : Ev → Bool) (per k : Nat) (l : List (Option Ev)) (h : k * per ≤ l.length) : (erSeg kb per k l).drop ((k + 1) * per) = l.drop ((k + 1) * per) := by
  by_cases h4 : (k + 1) * per ≤ l.length
  · have h5 : (l.take (k * per) ++ (segL per k l).map (erE kb)).length = (k + 1) * per := by
      rw [List.length_append, List.length_take, List.length_map, segL_length]; rw [Nat.succ_mul] at *; omega
    unfold erSeg
    rw [List.drop_left' h5]
  · have := erSeg_length kb per k l
    rw [List.drop_eq_nil_of_le (by omega), List.drop_eq_nil_of_le (by omega)]
theorem Jl.rew1_drop (j : Jl) (kb : Ev → Bool) (k : Nat) (h : k * j.per ≤ j.es.length) : (j.rew1 kb k).es.drop ((k + 1) * j.per) = j.es.drop ((k + 1) * j.per) := by
  unfold Jl.rew1
  split
  · rfl
  · split
    · rfl
    · exact erSeg_drop _ _ _ _ h
/-- what a Rewrite leaves -/
def RwrPost (I : List Ev → (Nat → Prop) → World → Prop) (G F H : Nat → Prop) (bj bd : Nat) (j : Jl) (p : Jl × Nat × Int) (aq : List Ev) (w : World) (r : Ending) (w' : World) : Prop :=
  r = .returned (.tuple #[.int .i64 p.2.1, .int .i64 p.2.2]) ∧ ∃ G' F' H' aq', JlIn w' G' F' bj bd p.1 ∧ I aq' H' w' ∧ (p.2.2 = 0 → aq' = aq ++ rdEv j.es) ∧ (∀ b, H' b → ¬ (G' b ∨ F' b)) ∧
    (∀ b, G' b → G b ∨ w.heap.size ≤ b) ∧ (∀ b, F' b → F b ∨ w.heap.size ≤ b) ∧ (∀ b, H' b → H b ∨ w.heap.size ≤ b) ∧ Keep (fun b => G b ∨ F b ∨ H b) w w'
def RwrRel (I : List Ev → (Nat → Prop) → World → Prop) (fv : Value) (kb : Ev → Bool) (G F H : Nat → Prop) (bj bd bt : Nat) (j : Jl) (aq : List Ev) (w : World) (c i : Value) (wr : World) : Prop :=
  ∃ (q all : Nat) (jq : Jl) (G' F' H' : Nat → Prop) (v' : Value), i = .int .i64 q ∧ c = .int .i64 all ∧ q ≤ nseg j.es.length j.per ∧ all ≤ q * 99 ∧ Jl.rewF kb (nseg j.es.length j.per - q) jq q all = Jl.rewF kb (nseg j.es.length j.per) j 0 0 ∧
    jq.es.length = j.es.length ∧ jq.per = j.per ∧ jq.es.drop (q * j.per) = j.es.drop (q * j.per) ∧ jq.Ok ∧ Rw I fv G' F' H' bj bd bt v' jq (aq ++ rdEv (j.es.take (q * j.per))) wr ∧
    (∀ b, G' b → G b ∨ w.heap.size ≤ b) ∧ (∀ b, F' b → F b ∨ w.heap.size ≤ b) ∧ (∀ b, H' b → H b ∨ w.heap.size ≤ b) ∧ Keep (fun b => G b ∨ F b ∨ H b) w wr
section
variable {I : List Ev → (Nat → Prop) → World → Prop} {kb : Ev → Bool} {f : Nat} {caps : Array Value} {G F H : Nat → Prop} {bj bd : Nat} {j : Jl} {aq : List Ev} {w : World}
set_option maxRecDepth 100000 in
set_option maxHeartbeats 4000000 in
theorem jlrewr_any (hk : Asker f caps kb I) (h : JlIn w G F bj bd j) (hi : I aq H w) (hap : ∀ b, H b → ¬ (G b ∨ F b)) (hn : j.es.length ≤ 99) (haq : aq.length ≤ 600) (hmx : MaxAt w) (hml : ¬ (G 1 ∨ F 1 ∨ H 1)) :
    Calls Tryz.prog 39 #[.pointer (some ⟨bj, 0, none⟩), .func (.func f) #[] caps] w (RwrPost I G F H bj bd j (j.rewr kb) aq w) := by
  obtain ⟨ho, v, hj⟩ := h
  have HAQ := Lib.hid haq
  clear haq
  have hb1 : Below w.heap.size w (w.alloc (.cells #[.func (.func f) #[] caps] 70)) := (Below.refl _ _).alloc (Nat.le_refl _) _
  have hHl := hk.lt _ _ _ hi
  have hlt : ∀ b, G b ∨ F b ∨ H b → b < w.heap.size := fun b hb => by
    rcases hb with hb | hb | hb
    · exact hj.dk.lt b hb
    · exact hj.lt b hb
    · exact hHl b hb
  have hrw : Rw I (.func (.func f) #[] caps) G F H bj bd w.heap.size v j aq (w.alloc (.cells #[.func (.func f) #[] caps] 70)) :=
    ⟨hj.up hb1, hk.keep _ _ _ _ hi hb1.size fun b hb => hb1.block b (hHl b hb), cell_of_row _ w.heap.size 0 _ _ (0, 0) (heap_alloc_new w _), hmx.up hb1, hap, fun hb => by have := hlt _ hb; omega, hml⟩
  have HK := Lib.hid hk; have HO := Lib.hid ho; have HRW := Lib.hid hrw; have HB1 := Lib.hid hb1; have HLT := Lib.hid hlt
  clear hk ho hj hi hap hmx hml hrw hHl hlt hb1
  go_enter Tryz.func39, Tryz.ntmps39
  go_upto_region 1 with fail
  generalize hw1 : w.alloc (.cells #[.func (.func f) #[] caps] 70) = w1 at *
  clear hw1
  have c6 := HRW.out.jl.cells.2.2.2.2.2.2
  by_cases h0 : j.stuck = 0
  · rw [h0] at c6
    have H0 := Lib.hid (show j.rewr kb = Jl.rewF kb (nseg j.es.length j.per) j 0 0 by unfold Jl.rewr; rw [if_neg (by simp [h0])])
    have HST := Lib.hid (show RwrRel I (.func (.func f) #[] caps) kb G F H bj bd w.heap.size j aq w (.int .i64 ((0 : Nat) : Int)) (.int .i64 ((0 : Nat) : Int)) w1 from
      ⟨0, 0, j, G, F, H, v, rfl, rfl, Nat.zero_le _, Nat.zero_le _, by rw [Nat.sub_zero], rfl, rfl, rfl, HO.out, by simpa [rdEv] using HRW.out, fun _ h => .inl h, fun _ h => .inl h, fun _ h => .inl h, Keep.of_below HB1.out⟩)
    clear h0
    go_wp2
    go_loopw [7, 8] (fun c i wr => RwrRel I (.func (.func f) #[] caps) kb G F H bj bd w.heap.size j aq w c i wr) (fun _ i _ => nseg j.es.length j.per - (intOf i).toNat)
    case atStart => exact HST.out
    case round =>
      obtain ⟨q, all, jq, G', F', H', v', rfl, rfl, hq, hal, hrf, hle, hpe, hdr, hok, hrw, hG, hF, hH, hkp⟩ := hrel
      have HOK := Lib.hid hok; have HRQ := Lib.hid hrw; have HG := Lib.hid hG; have HF := Lib.hid hF; have HH := Lib.hid hH; have HKP := Lib.hid hkp; have HRF := Lib.hid hrf; have HDR := Lib.hid hdr; have HLE := Lib.hid hle; have HPE := Lib.hid hpe
      have c2 := hrw.jl.cells.2.2.1
      have c4 := hrw.jl.cells.2.2.2.2.1
      obtain ⟨A4, cp4, hv4⟩ := ownsRow_form hrw.jl.own
      rw [hv4, hle] at c4
      rw [hpe] at c2
      have hp1 := HO.out.per1
      have hp2 := HO.out.per2
      have hs0 := hkp.size
      have HNS := Lib.hid (And.intro (nseg_le (n := j.es.length) hp1) (nseg_lt (n := j.es.length) (per := j.per)))
      obtain ⟨lo, hlo⟩ : ∃ lo, lo = q * j.per := ⟨_, rfl⟩
      have HLO := Lib.hid hlo
      have hmul : ((q : Int) * (j.per : Int)) = (lo : Int) := by rw [hlo]; exact (Int.natCast_mul q j.per).symm
      have HSG := Lib.hid (show segL jq.per q jq.es = segL j.per q j.es from by unfold segL; rw [hpe, hdr])
      have hN : nseg j.es.length j.per ≤ 99 := by
        have h1 := (HNS.out).2
        rcases Nat.lt_or_ge 99 (nseg j.es.length j.per) with h2 | h2
        · have h3 : 100 * j.per ≤ nseg j.es.length j.per * j.per := Nat.mul_le_mul_right _ h2
          omega
        · exact h2
      clear hok hrw hG hF hH hkp hrf hdr hle hpe hv4
      by_cases hqn : q < nseg j.es.length j.per
      · have hlt : lo < j.es.length := by
          have h1 : (q + 1) * j.per ≤ nseg j.es.length j.per * j.per := Nat.mul_le_mul_right _ hqn
          have h2 := HNS.out.2
          rw [Nat.succ_mul, ← hlo] at h1; omega
        have hlw : wrap64 (lo : Int) = lo := by unfold wrap64; omega
        have t1 : (lo : Int) < j.es.length := by omega
        clear hlo
        go_wp2
        go_quiet (fail)
        go_wp2_with fail
        have hbq : Below wr.heap.size wr (wr.drewN nq) := below_drewN (Below.refl _ _) nq
        have HBQ := Lib.hid hbq
        with_reducible refine (jlrew1_any HK.out rfl (HRQ.out.up HK.out hbq) HOK.out q (by rw [HPE.out, HLE.out, ← HLO.out]; exact hlt) (by rw [HLE.out]; exact hn) (by
          have h1 := rdEv_le (j.es.take (q * j.per))
          have h2 := HAQ.out
          rw [List.length_take] at h1
          rw [List.length_append]; omega)).mono ?_
        rintro r w2 ⟨rfl, G2, F2, H2, v2, hrw2, hok2, hG2, hF2, hH2, hk2⟩
        have hsq := hbq.size
        have HRW2 := Lib.hid hrw2; have HOK2 := Lib.hid hok2
        have HG2 := Lib.hid (show ∀ b, G2 b → G b ∨ w.heap.size ≤ b from fun b hb => (hG2 b hb).elim (HG.out b) (fun h => by right; omega))
        have HF2 := Lib.hid (show ∀ b, F2 b → F b ∨ w.heap.size ≤ b from fun b hb => (hF2 b hb).elim (HF.out b) (fun h => by right; omega))
        have HH2 := Lib.hid (show ∀ b, H2 b → H b ∨ w.heap.size ≤ b from fun b hb => (hH2 b hb).elim (HH.out b) (fun h => by right; omega))
        have HK2 := Lib.hid (show Keep (fun b => G b ∨ F b ∨ H b) w w2 from (HKP.out.trans (Keep.of_below (F := fun _ => False) hbq) (fun _ _ h => h.elim)).trans hk2 (fun b hb h => by
          rcases h with h | h | h
          · exact (HG.out b h).elim .inl (fun h => by omega)
          · exact (HF.out b h).elim (fun h => .inr (.inl h)) (fun h => by omega)
          · exact (HH.out b h).elim (fun h => .inr (.inr h)) (fun h => by omega)))
        obtain ⟨fu, hfu⟩ : ∃ fu, nseg j.es.length j.per - q = fu + 1 := ⟨nseg j.es.length j.per - q - 1, by omega⟩
        have hrf := HRF.out
        rw [hfu] at hrf
        simp only [Jl.rewF] at hrf
        have HRF2 := Lib.hid hrf
        have hfu2 : nseg j.es.length j.per - (q + 1) = fu := by omega
        clear hrw2 hok2 hG2 hF2 hH2 hk2 hbq hrf c2 c4
        by_cases hE : jq.rew1E kb q = 0
        · have hcn : jq.rew1N kb q = cntE kb (segL j.per q j.es) := by unfold Jl.rew1N; rw [if_neg (by simp [hE]), HSG.out]
          have hcl : cntE kb (segL j.per q j.es) ≤ 99 := by
            unfold cntE
            have h1 := List.length_filter_le (goesB kb) (segL j.per q j.es)
            rw [segL_length] at h1; omega
          have HRL := Lib.hid (show RwrRel I (.func (.func f) #[] caps) kb G F H bj bd w.heap.size j aq w (.int .i64 ((all + cntE kb (segL j.per q j.es) : Nat) : Int)) (.int .i64 ((q + 1 : Nat) : Int)) w2 from by
            have hsame := jq.rew1_same kb q
            refine ⟨q + 1, all + cntE kb (segL j.per q j.es), jq.rew1 kb q, G2, F2, H2, v2, rfl, rfl, by omega, by omega, ?_, hsame.2.2.2.trans HLE.out, hsame.2.1.trans HPE.out, ?_, HOK2.out, ?_, HG2.out, HF2.out, HH2.out, HK2.out⟩
            · have := HRF2.out
              rw [if_neg (by simp [hE]), HSG.out] at this
              rw [hfu2]; exact this
            · have h1 := jq.rew1_drop kb q (by rw [HPE.out, HLE.out, ← HLO.out]; omega)
              rw [HPE.out] at h1
              rw [h1, show (q + 1) * j.per = q * j.per + j.per by rw [Nat.succ_mul], ← List.drop_drop, HDR.out, List.drop_drop]
            · have h1 := HRW2.out
              rw [HSG.out, List.append_assoc, ← rdEv_append] at h1
              rw [show (q + 1) * j.per = q * j.per + j.per by rw [Nat.succ_mul], List.take_add]
              exact h1)
          have haw : wrap64 ((all : Int) + (cntE kb (segL j.per q j.es) : Nat)) = ((all + cntE kb (segL j.per q j.es) : Nat) : Int) := by
            have : all ≤ 99 * 99 := by omega
            unfold wrap64; omega
          rw [hE, hcn]
          clear hE hcn
          generalize cntE kb (segL j.per q j.es) = cn at *
          go_wp2
          go_roundw
          case rel => first | exact HRL.out | (rw [haw]; exact HRL.out)
          case measure => simp [intOf]; omega
        · have HRE := Lib.hid (show RwrPost I G F H bj bd j (j.rewr kb) aq w (.returned (.tuple #[.int .i64 all, .int .i64 (jq.rew1E kb q)])) w2 from by
            have h1 := HRF2.out
            rw [if_pos hE] at h1
            rw [H0.out, ← h1]
            exact ⟨rfl, G2, F2, H2, _, ⟨HOK2.out, v2, HRW2.out.jl⟩, HRW2.out.i, fun h => absurd h hE, HRW2.out.hg, HG2.out, HF2.out, HH2.out, HK2.out⟩)
          generalize jq.rew1E kb q = er at *
          generalize jq.rew1N kb q = nn at *
          go_wp2
          go_ret2
          exact HRE.out
      · have hqe : q = nseg j.es.length j.per := by omega
        have hge : ¬ lo < j.es.length := by
          have h1 := HNS.out.1
          rw [← hqe, ← hlo] at h1; omega
        have t1 : ¬ (lo : Int) < j.es.length := by omega
        have HRE := Lib.hid (show ∀ k, RwrPost I G F H bj bd j (j.rewr kb) aq w (.returned (.tuple #[.int .i64 all, .int .i64 0])) (wr.drewN k) from fun k => by
          have hb2 : Below wr.heap.size wr (wr.drewN k) := below_drewN (Below.refl _ _) k
          have h2 := HRQ.out.up HK.out hb2
          have h1 := HRF.out
          rw [hqe, Nat.sub_self] at h1
          simp only [Jl.rewF] at h1
          rw [H0.out, ← h1]
          refine ⟨rfl, G', F', H', _, ⟨HOK.out, v', h2.jl⟩, h2.i, fun _ => ?_, h2.hg, HG.out, HF.out, HH.out, HKP.out.trans (Keep.of_below (F := fun _ => False) hb2) (fun _ _ h => h.elim)⟩
          rw [List.take_of_length_le (by rw [← HLO.out]; omega)])
        have hlw : wrap64 (lo : Int) = lo := by
          have h1 : q * j.per ≤ 99 * j.per := Nat.mul_le_mul_right _ (by omega)
          unfold wrap64; omega
        clear hlo hqe
        go_wp2
        go_quiet (fail)
        go_wp2
        go_ret2
        exact HRE.out _
  · have HR2 := Lib.hid (show ∀ q, RwrPost I G F H bj bd j (j.rewr kb) aq w (.returned (.tuple #[.int .i64 0, .int .i64 j.stuck])) (w1.drewN q) from fun q => by
      have e : j.rewr kb = (j, 0, j.stuck) := by unfold Jl.rewr; rw [if_pos h0]
      rw [e]
      have hb2 : Below w1.heap.size w1 (w1.drewN q) := below_drewN (Below.refl _ _) q
      have h2 := HRW.out.up HK.out hb2
      exact ⟨rfl, G, F, H, aq, ⟨HO.out, v, h2.jl⟩, h2.i, fun h => absurd h h0, h2.hg, fun _ h => .inl h, fun _ h => .inl h, fun _ h => .inl h, Keep.of_below (HB1.out.trans (hb2.mono HB1.out.size))⟩)
    generalize j.stuck = er at *
    go_wp2
    go_quiet (fail)
    go_wp2
    go_ret2
    exact HR2.out _
end
end Go.Proofs.YtejjfhhppjdcaaaGreatDoor
namespace Go.Proofs.YtejjfhhppjdcaaaGreatDoor
open Go.RowKit Go.Maps Go.Sort

/-- the box of the person's name -/
structure PerI (bp : Nat) (p : List UInt8) (_aq : List Ev) (H : Nat → Prop) (W : World) : Prop where
  cell : W.cell? ⟨bp, 0, none⟩ = some (.string ⟨p.toArray⟩)
  own : ∀ b, H b ↔ b = bp
theorem PerI.lt {bp : Nat} {p : List UInt8} {aq : List Ev} {H : Nat → Prop} {W : World} (h : PerI bp p aq H W) : bp < W.heap.size := World.block_lt_of_cell? W ⟨bp, 0, none⟩ h.cell
theorem PerI.keep {bp : Nat} {p : List UInt8} {aq aq' : List Ev} {H : Nat → Prop} {W W' : World} (h : PerI bp p aq H W) (hk : W'.heap[bp]? = W.heap[bp]?) : PerI bp p aq' H W' :=
  ⟨(World.cell?_of_block (w := W) (a := ⟨bp, 0, none⟩) hk).trans h.cell, h.own⟩
def PerPost (bp : Nat) (p : List UInt8) (aq : List Ev) (H : Nat → Prop) (W : World) (b : Bool) (r : Ending) (W' : World) : Prop := r = .returned (.bool b) ∧ ∃ H', PerI bp p aq H' W' ∧ (∀ b, H' b → H b ∨ W.heap.size ≤ b) ∧ Keep H W W'
set_option maxRecDepth 100000 in
theorem per_erases (bp : Nat) (p : List UInt8) (aq : List Ev) (H : Nat → Prop) (W : World) (h : PerI bp p aq H W) (e : Ev) :
    Calls Tryz.prog 40 #[e.agg, .pointer (some ⟨bp, 0, none⟩)] W (PerPost bp p (aq ++ [e]) H W (stayP p e)) := by
  have hagg : e.agg = .agg #[.string ⟨e.src.toArray⟩, .int .i64 e.num, .int .i64 e.at_, .int .i64 e.kind, .string ⟨e.per.toArray⟩, .string ⟨e.item.toArray⟩, .int .i64 e.val, .string ⟨e.text.toArray⟩] := rfl
  have hb0 : RowKit.Below W.heap.size W (W.alloc (evObj e)) := (Below.refl _ _).alloc (Nat.le_refl _) _
  have c0 : (W.alloc (evObj e)).cell? ⟨bp, 0, none⟩ = some (.string ⟨p.toArray⟩) := (hb0.cell (p := ⟨bp, 0, none⟩) h.lt).trans h.cell
  obtain ⟨f0, f1, f2, f3, f4, f5, f6, f7⟩ := EvIn.new W e
  have HR := Lib.hid (show ∀ q, PerPost bp p (aq ++ [e]) H W (stayP p e) (.returned (.bool (stayP p e))) ((W.alloc (evObj e)).drewN q) from fun q =>
    ⟨rfl, H, h.keep (hb0.block bp h.lt), fun _ hb => .inl hb, Keep.of_below (below_drewN hb0 q)⟩)
  have HS := Lib.hid (show stayP p e = (e.per != p) from rfl)
  rw [hagg]
  clear hagg hb0 h
  go_enter Tryz.func40, Tryz.ntmps40
  go_wp2
  go_ret
  first | exact HR.out 0 | exact HR.out 1
theorem per_erases_asker (bp : Nat) (p : List UInt8) : Asker 40 #[.pointer (some ⟨bp, 0, none⟩)] (stayP p) (PerI bp p) where
  enter := fun args w => by kernel_rfl
  ask := fun W aq H e _ hi _ => (per_erases bp p aq H W hi e).mono fun r W' ⟨h1, H', h2, h3, h4⟩ => ⟨h1, H', h2, h3, h4⟩
  keep := fun aq H W W' hi _ hk => hi.keep (hk bp ((hi.own bp).2 rfl))
  lt := fun aq H W hi b hb => by rw [(hi.own b).1 hb]; exact hi.lt
set_option maxRecDepth 100000 in
theorem per_cutsA (bp : Nat) (p : List UInt8) (aq : List Ev) (H : Nat → Prop) (W : World) (h : PerI bp p aq H W) (e : Ev) :
    Calls Tryz.prog 48 #[e.agg, .pointer (some ⟨bp, 0, none⟩)] W (PerPost bp p (aq ++ [e]) H W (stayP p e)) := by
  have hagg : e.agg = .agg #[.string ⟨e.src.toArray⟩, .int .i64 e.num, .int .i64 e.at_, .int .i64 e.kind, .string ⟨e.per.toArray⟩, .string ⟨e.item.toArray⟩, .int .i64 e.val, .string ⟨e.text.toArray⟩] := rfl
  have hb0 : RowKit.Below W.heap.size W (W.alloc (evObj e)) := (Below.refl _ _).alloc (Nat.le_refl _) _
  have c0 : (W.alloc (evObj e)).cell? ⟨bp, 0, none⟩ = some (.string ⟨p.toArray⟩) := (hb0.cell (p := ⟨bp, 0, none⟩) h.lt).trans h.cell
  obtain ⟨f0, f1, f2, f3, f4, f5, f6, f7⟩ := EvIn.new W e
  have HR := Lib.hid (show ∀ q, PerPost bp p (aq ++ [e]) H W (stayP p e) (.returned (.bool (stayP p e))) ((W.alloc (evObj e)).drewN q) from fun q =>
    ⟨rfl, H, h.keep (hb0.block bp h.lt), fun _ hb => .inl hb, Keep.of_below (below_drewN hb0 q)⟩)
  have HS := Lib.hid (show stayP p e = (e.per != p) from rfl)
  rw [hagg]
  clear hagg hb0 h
  go_enter Tryz.func48, Tryz.ntmps48
  go_wp2
  go_ret
  first | exact HR.out 0 | exact HR.out 1
theorem per_cutsA_asker (bp : Nat) (p : List UInt8) : Asker 48 #[.pointer (some ⟨bp, 0, none⟩)] (stayP p) (PerI bp p) where
  enter := fun args w => by kernel_rfl
  ask := fun W aq H e _ hi _ => (per_cutsA bp p aq H W hi e).mono fun r W' ⟨h1, H', h2, h3, h4⟩ => ⟨h1, H', h2, h3, h4⟩
  keep := fun aq H W W' hi _ hk => hi.keep (hk bp ((hi.own bp).2 rfl))
  lt := fun aq H W hi b hb => by rw [(hi.own b).1 hb]; exact hi.lt
set_option maxRecDepth 100000 in
theorem per_cutsB (bp : Nat) (p : List UInt8) (aq : List Ev) (H : Nat → Prop) (W : World) (h : PerI bp p aq H W) (e : Ev) :
    Calls Tryz.prog 49 #[e.agg, .pointer (some ⟨bp, 0, none⟩)] W (PerPost bp p (aq ++ [e]) H W (stayP p e)) := by
  have hagg : e.agg = .agg #[.string ⟨e.src.toArray⟩, .int .i64 e.num, .int .i64 e.at_, .int .i64 e.kind, .string ⟨e.per.toArray⟩, .string ⟨e.item.toArray⟩, .int .i64 e.val, .string ⟨e.text.toArray⟩] := rfl
  have hb0 : RowKit.Below W.heap.size W (W.alloc (evObj e)) := (Below.refl _ _).alloc (Nat.le_refl _) _
  have c0 : (W.alloc (evObj e)).cell? ⟨bp, 0, none⟩ = some (.string ⟨p.toArray⟩) := (hb0.cell (p := ⟨bp, 0, none⟩) h.lt).trans h.cell
  obtain ⟨f0, f1, f2, f3, f4, f5, f6, f7⟩ := EvIn.new W e
  have HR := Lib.hid (show ∀ q, PerPost bp p (aq ++ [e]) H W (stayP p e) (.returned (.bool (stayP p e))) ((W.alloc (evObj e)).drewN q) from fun q =>
    ⟨rfl, H, h.keep (hb0.block bp h.lt), fun _ hb => .inl hb, Keep.of_below (below_drewN hb0 q)⟩)
  have HS := Lib.hid (show stayP p e = (e.per != p) from rfl)
  rw [hagg]
  clear hagg hb0 h
  go_enter Tryz.func49, Tryz.ntmps49
  go_wp2
  go_ret
  first | exact HR.out 0 | exact HR.out 1
theorem per_cutsB_asker (bp : Nat) (p : List UInt8) : Asker 49 #[.pointer (some ⟨bp, 0, none⟩)] (stayP p) (PerI bp p) where
  enter := fun args w => by kernel_rfl
  ask := fun W aq H e _ hi _ => (per_cutsB bp p aq H W hi e).mono fun r W' ⟨h1, H', h2, h3, h4⟩ => ⟨h1, H', h2, h3, h4⟩
  keep := fun aq H W W' hi _ hk => hi.keep (hk bp ((hi.own bp).2 rfl))
  lt := fun aq H W hi b hb => by rw [(hi.own b).1 hb]; exact hi.lt
end Go.Proofs.YtejjfhhppjdcaaaGreatDoor
