/-
  Layer 5: Append, Len.
-/
import Derived.Test.YtgbagjpokpchpaaGreatDoorFJl4
namespace Go.Proofs.YtgbagjpokpchpaaGreatDoor
open Go.RowKit Go.Maps Go.Sort

def Jl.app (j : Jl) (es : List Ev) : Jl := if j.stuck ≠ 0 then j else if es.all mayB then j.puts es else j
def Jl.appN (j : Jl) (es : List Ev) : Int := if j.stuck ≠ 0 then 0 else if es.all mayB then j.es.length else 0
def Jl.appE (j : Jl) (es : List Ev) : Int := if j.stuck ≠ 0 then j.stuck else if es.all mayB then j.putsE es else 1
def Jl.syncA (j : Jl) : Jl := if j.stuck ≠ 0 then j else j.sync
def Jl.syncAE (j : Jl) : Int := if j.stuck ≠ 0 then j.stuck else j.syncE
theorem Jl.put_len (j : Jl) (x : Option Ev) : (j.put x).es.length ≤ j.es.length + 1 := by
  unfold Jl.put
  split
  · rw [j.pre_same.1]; omega
  · split
    · show j.pre.es.length ≤ _
      rw [j.pre_same.1]; omega
    · show (j.es ++ [x]).length ≤ _
      simp
theorem Jl.puts_len : ∀ (l : List Ev) (j : Jl), (j.puts l).es.length ≤ j.es.length + l.length
  | [], j => by simp [Jl.puts]
  | e :: l, j => by
    have h1 := j.put_len (some e)
    unfold Jl.puts
    split
    · simp only [List.length_cons]; omega
    · have := Jl.puts_len l (j.put (some e))
      simp only [List.length_cons]; omega
theorem Jl.puts_stop (j : Jl) (a b : List Ev) (e : Ev) (h : j.putsE a = 0) (h' : (j.puts a).putE (some e) ≠ 0) : j.puts (a ++ e :: b) = (j.puts a).put (some e) ∧ j.putsE (a ++ e :: b) = (j.puts a).putE (some e) := by
  have := Jl.puts_append (e :: b) a j h
  rw [this.1, this.2]
  simp only [Jl.puts, Jl.putsE, if_pos h']
  exact ⟨trivial, trivial⟩
theorem Cel.keepG {w w' : World} {G : Nat → Prop} {A : Option Addr} {size n c : Nat} {xs : List Value} (h : Cel w w.heap.size size A n c xs) (hA : ∀ b off, A = some ⟨b, off, none⟩ → ¬ G b) (hk : Keep G w w') : Cel w' w'.heap.size size A n c xs := by
  refine ⟨h.len, h.cap, h.max, fun hn => ?_⟩
  obtain ⟨b, off, e, hb, hc⟩ := h.cell hn
  have := hk.size
  exact ⟨b, off, e, by omega, fun i u hi => (hk.cell (p := ⟨b, off + i, none⟩) hb (hA b off e)).trans (hc i u hi)⟩
def AppPost (w : World) (G F : Nat → Prop) (bj bd : Nat) (j' : Jl) (n er : Int) (e : Ending) (w' : World) : Prop := e = .returned (.tuple #[.int .i64 n, .int .i64 er]) ∧ JlD w G F bj bd j' w'
theorem JlIn.cells {w : World} {G F : Nat → Prop} {bj bd : Nat} {j : Jl} (h : JlIn w G F bj bd j) : w.cell? ⟨bj, 5, none⟩ = some (.int .i64 j.lasts) ∧ w.cell? ⟨bj, 6, none⟩ = some (.int .i64 j.stuck) ∧ ∃ A c, w.cell? ⟨bj, 4, none⟩ = some (.slice A j.es.length c) := by
  obtain ⟨ho, v, h⟩ := h
  obtain ⟨A, c, hv⟩ := ownsRow_form h.own
  have := h.cells
  exact ⟨this.2.2.2.2.2.1, this.2.2.2.2.2.2, A, c, by rw [← hv]; exact this.2.2.2.2.1⟩
theorem jllen_any (w : World) (G F : Nat → Prop) (bj bd : Nat) (j : Jl) (h : JlIn w G F bj bd j) : Calls Tryz.prog 31 #[.pointer (some ⟨bj, 0, none⟩)] w fun e w' => e = .returned (.int .i64 j.es.length) ∧ w = w' := by
  obtain ⟨_, _, A, c, c4⟩ := h.cells
  clear h
  go_enter Tryz.func31, Tryz.ntmps31
  go_wp2
  go_ret
  exact ⟨rfl, rfl⟩
def ApRel1 (w : World) (es : List Ev) (i : Value) (wr : World) : Prop := ∃ k : Nat, i = .int .i64 k ∧ k ≤ es.length ∧ (∀ d ∈ es.take k, mayB d = true) ∧ Below w.heap.size w wr
def ApRel2 (w : World) (G F : Nat → Prop) (bj bd : Nat) (j : Jl) (es : List Ev) (i : Value) (wr : World) : Prop := ∃ k : Nat, i = .int .i64 k ∧ k ≤ es.length ∧ j.putsE (es.take k) = 0 ∧ JlD w G F bj bd (j.puts (es.take k)) wr
set_option maxRecDepth 100000 in
set_option maxHeartbeats 4000000 in
theorem jlapp_any (w : World) (G F : Nat → Prop) (bj bd : Nat) (j : Jl) (h : JlIn w G F bj bd j) (A : Option Addr) (n c : Nat) (es : List Ev) (he : Evs w w.heap.size A n c es) (hA : ∀ b off, A = some ⟨b, off, none⟩ → 0 < n → ¬ (G b ∨ F b)) (hs : ∀ e ∈ es, e.small) (hn : j.es.length + es.length ≤ 99) (hmx : MaxAt w) (hbl : ¬ G 0 ∧ ¬ F 0) :
    Calls Tryz.prog 18 #[.pointer (some ⟨bj, 0, none⟩), .slice A n c] w (AppPost w G F bj bd (j.app es) (j.appN es) (j.appE es)) := by
  have HI := Lib.hid h
  have HE := Lib.hid he; have HA := Lib.hid hA; have HS := Lib.hid hs; have HMX := Lib.hid hmx; have HBL := Lib.hid hbl
  have hl := he.len
  obtain ⟨_, c6, A4, cp4, c4⟩ := h.cells
  have HL := Lib.hid hl
  clear h he hA hs hmx hbl
  by_cases h0 : j.stuck = 0
  · rw [h0] at c6
    have H0 := Lib.hid h0
    rw [hl] at hn
    clear h0 hl
    go_enter Tryz.func18, Tryz.ntmps18
    go_wp2
    go_loopw [23] (fun i wr => ApRel1 w es i wr) (fun i _ => n - (intOf i).toNat)
    case atStart => exact ⟨0, rfl, Nat.zero_le _, fun d hd => by simp at hd, Below.refl _ _⟩
    case round =>
      obtain ⟨k, rfl, hk, hyes, hbel⟩ := hrel
      have HY := Lib.hid hyes; have HB := Lib.hid hbel
      clear hyes
      have hkL : k ≤ n := by rw [← HL.out]; exact hk
      by_cases hkn : k < n
      · have hkl : k < es.length := by rw [HL.out]; exact hkn
        obtain ⟨b, off, hAe, hb, hd⟩ := HE.out.ev k hkl
        obtain ⟨e0, e1, e2, e3, e4, e5, e6, e7⟩ := hd.below hbel hb
        have HT := Lib.hid (show mayB es[k] = true → ∀ d ∈ es.take (k + 1), mayB d = true from fun h d hd => by
          rw [List.take_add_one, List.getElem?_eq_getElem hkl, Option.toList_some] at hd
          rcases List.mem_append.1 hd with hd | hd
          · exact HY.out d hd
          · simp at hd; subst hd; exact h)
        have HN := Lib.hid (show mayB es[k] = false → es.all mayB = false from fun h => List.all_eq_false.2 ⟨_, List.getElem_mem hkl, by simp [h]⟩)
        have HSM := Lib.hid (HS.out _ (List.getElem_mem hkl))
        generalize es[k] = d at *
        subst hAe
        have t1 : (k : Int) < n := by omega
        clear hbel hd hb
        go_wp2_with fail
        have hbA : Below w.heap.size w (wr.alloc (evObj d)) := HB.out.alloc HB.out.size _
        refine (may_any (wr.alloc (evObj d)) d HSM.out (HMX.out.up hbA)).mono ?_
        rintro r w2 ⟨rfl, hb2⟩
        have HB2 := Lib.hid (hbA.trans (hb2.mono hbA.size))
        clear hb2 hbA e0 e1 e2 e3 e4 e5 e6 e7
        cases hm : mayB d
        · have HR := Lib.hid (show AppPost w G F bj bd (j.app es) (j.appN es) (j.appE es) (.returned (.tuple #[.int .i64 0, .int .i64 1])) w2 from by
            have := HN.out hm
            unfold Jl.app Jl.appN Jl.appE
            simp only [H0.out, ne_eq, not_true_eq_false, if_false, this]
            exact ⟨rfl, (JlD.refl (HI.out.up HB2.out)).from_ HB2.out⟩)
          clear hm
          go_wp2
          go_ret2
          exact HR.out
        · have HT' := Lib.hid (HT.out hm)
          clear hm
          go_wp2
          go_roundw
          case rel => exact ⟨k + 1, by go_num, by omega, HT'.out, HB2.out⟩
          case measure => simp [intOf]; omega
      · have t1 : ¬ (k : Int) < n := by omega
        have hall : es.all mayB = true := by
          rw [List.all_eq_true]
          intro d hd
          exact HY.out d (by rw [List.take_of_length_le (by rw [HL.out]; omega)]; exact hd)
        have HAL := Lib.hid hall
        have HIr := Lib.hid (HI.out.up hbel)
        have hc4 : wr.cell? ⟨bj, 4, none⟩ = some (.slice A4 j.es.length cp4) := (hbel.cell (p := ⟨bj, 4, none⟩) (World.block_lt_of_cell? w ⟨bj, 4, none⟩ c4)).trans c4
        have HST := Lib.hid (show ApRel2 w G F bj bd j es (.int .i64 ((0 : Nat) : Int)) wr from ⟨0, rfl, Nat.zero_le _, rfl, (JlD.refl HIr.out).from_ hbel⟩)
        have hw1 : wrap64 (1048576 - (j.es.length : Int)) = 1048576 - (j.es.length : Int) := by unfold wrap64; omega
        clear c4 c6 hall hbel
        have t2 : ¬ (1048576 - (j.es.length : Int)) < n := by omega
        go_wp2
        go_loopw [43] (fun i wr => ApRel2 w G F bj bd j es i wr) (fun i _ => n - (intOf i).toNat)
        case atStart => exact HST.out
        case round =>
          obtain ⟨q, rfl, hq, hz, hd⟩ := hrel
          have HZ := Lib.hid hz
          have hql : q ≤ n := by rw [← HL.out]; exact hq
          obtain ⟨G1, F1, hi1, hG1, hF1, hk1⟩ := hd
          have HI1 := Lib.hid hi1; have HG1 := Lib.hid hG1; have HF1 := Lib.hid hF1; have HK1 := Lib.hid hk1
          clear hz hi1 hG1 hF1
          by_cases hqn : q < n
          · have hqk : q < es.length := by rw [HL.out]; exact hqn
            obtain ⟨b, off, hAe, hb, hd⟩ := Evs.ev (Cel.keepG HE.out (fun b off e => HA.out b off e (by omega)) hk1) q hqk
            obtain ⟨e0, e1, e2, e3, e4, e5, e6, e7⟩ := hd
            have HTK := Lib.hid (show es.take (q + 1) = es.take q ++ [es[q]] by rw [List.take_add_one, List.getElem?_eq_getElem hqk, Option.toList_some])
            have HDR := Lib.hid (show es = es.take q ++ es[q] :: es.drop (q + 1) by rw [← List.drop_eq_getElem_cons hqk, List.take_append_drop])
            have hmd := HY.out es[q] (by rw [List.take_of_length_le (by rw [HL.out]; omega)]; exact List.getElem_mem hqk)
            have HMD := Lib.hid hmd
            generalize es[q] = d at *
            subst hAe
            have t3 : (q : Int) < n := by omega
            have hbA : Below wr.heap.size wr (wr.alloc (evObj d)) := (Below.refl _ _).alloc (Nat.le_refl _) _
            have hlen := Jl.puts_len (es.take q) j
            have HPC := Lib.hid (jlput_any (wr.alloc (evObj d)) G1 F1 bj bd (j.puts (es.take q)) (HI1.out.up hbA) (some d) (fun e h => by injection h with h; exact h ▸ HMD.out) (by rw [List.length_take] at hlen; omega)
              (by
                obtain ⟨m, hm⟩ := HMX.out
                have h1 := (hk1.cell (p := ⟨0, 0, none⟩) HMX.out.lt (fun h => h.elim HBL.out.1 HBL.out.2)).trans hm
                exact MaxAt.up ⟨m, h1⟩ hbA)
              ⟨fun h => (HG1.out _ h).elim HBL.out.1 (fun h => by have := HMX.out.lt; omega), fun h => (HF1.out _ h).elim HBL.out.2 (fun h => by have := HMX.out.lt; omega)⟩)
            have HAG := Lib.hid (show entAgg (some d) = .agg #[.string ⟨d.src.toArray⟩, .int .i64 d.num, .int .i64 d.at_, .int .i64 d.kind, .string ⟨d.per.toArray⟩, .string ⟨d.item.toArray⟩, .int .i64 d.val, .string ⟨d.text.toArray⟩, .bool false] from rfl)
            rw [HAG.out] at HPC
            have HCO := Lib.hid (show ∀ w2, JlD (wr.alloc (evObj d)) G1 F1 bj bd ((j.puts (es.take q)).put (some d)) w2 → JlD w G F bj bd ((j.puts (es.take q)).put (some d)) w2 from fun w2 h2 => by
              have h2' := h2.from_ hbA
              obtain ⟨G2, F2, hi2, hG2, hF2, hk2⟩ := h2'
              have hsz := HK1.out.size
              refine ⟨G2, F2, hi2, fun b hb => ?_, fun b hb => ?_, HK1.out.trans hk2 (fun b hb hg => ?_)⟩
              · rcases hG2 b hb with h | h
                · exact HG1.out b h
                · right; omega
              · rcases hF2 b hb with h | h
                · exact HF1.out b h
                · right; omega
              · rcases hg with h | h
                · rcases HG1.out b h with h | h
                  · exact .inl h
                  · omega
                · rcases HF1.out b h with h | h
                  · exact .inr h
                  · omega)
            clear hk1 hbA hmd hlen
            go_wp2_with fail
            with_reducible refine HPC.out.mono ?_
            rintro r w2 ⟨rfl, hd2⟩
            have HD2 := Lib.hid (HCO.out w2 hd2)
            clear hd2 HPC HCO e0 e1 e2 e3 e4 e5 e6 e7
            by_cases hE : (j.puts (es.take q)).putE (some d) = 0
            · have HRL := Lib.hid (show ApRel2 w G F bj bd j es (.int .i64 ((q + 1 : Nat) : Int)) w2 from by
                have := Jl.puts_snoc j (es.take q) d HZ.out
                rw [← HTK.out] at this
                exact ⟨q + 1, rfl, by omega, this.2.trans hE, by rw [this.1]; exact HD2.out⟩)
              rw [hE]
              clear hE
              go_wp2
              go_roundw
              case rel => exact HRL.out
              case measure => simp [intOf]; omega
            · have HR := Lib.hid (show AppPost w G F bj bd (j.app es) (j.appN es) (j.appE es) (.returned (.tuple #[.int .i64 j.es.length, .int .i64 ((j.puts (es.take q)).putE (some d))])) w2 from by
                have := Jl.puts_stop j (es.take q) (es.drop (q + 1)) d HZ.out hE
                rw [← HDR.out] at this
                unfold Jl.app Jl.appN Jl.appE
                simp only [H0.out, ne_eq, not_true_eq_false, if_false, HAL.out, if_true]
                rw [this.1, this.2]
                exact ⟨rfl, HD2.out⟩)
              generalize (j.puts (es.take q)).putE (some d) = er at *
              go_wp2
              go_ret2
              exact HR.out
          · have hqe : q = n := by omega
            have t3 : ¬ (q : Int) < n := by omega
            have HR := Lib.hid (show AppPost w G F bj bd (j.app es) (j.appN es) (j.appE es) (.returned (.tuple #[.int .i64 j.es.length, .int .i64 0])) wr from by
              have hz := HZ.out
              have hi := HI1.out
              rw [List.take_of_length_le (by rw [HL.out]; omega)] at hz hi
              unfold Jl.app Jl.appN Jl.appE
              simp only [H0.out, ne_eq, not_true_eq_false, if_false, HAL.out, if_true]
              rw [hz]
              exact ⟨rfl, G1, F1, hi, HG1.out, HF1.out, HK1.out⟩)
            clear hk1
            go_wp2
            go_ret2
            exact HR.out
  · have HR2 := Lib.hid (show ∀ q, AppPost w G F bj bd (j.app es) (j.appN es) (j.appE es) (.returned (.tuple #[.int .i64 0, .int .i64 j.stuck])) (w.drewN q) from fun q => by
      unfold Jl.app Jl.appN Jl.appE; rw [if_pos h0, if_pos h0, if_pos h0]; exact ⟨rfl, (JlD.refl (HI.out.up (below_drewN (Below.refl _ _) q))).from_ (below_drewN (Below.refl _ _) q)⟩)
    generalize j.stuck = er at *
    go_enter Tryz.func18, Tryz.ntmps18
    go_wp2
    go_quiet (fail)
    go_wp2
    go_ret2
    exact HR2.out _
end Go.Proofs.YtgbagjpokpchpaaGreatDoor
