/-
  Layer 3: the law FrameNew, walked.
-/
import Derived.Test.YtdnbejhaocpacaaFrmTurned
import Derived.Test.YtdnbejhaocpacaaFrmAll
namespace Go.Proofs.Ytdnbejhaocpacaa
open Go.RowKit

theorem allB_one (p : List UInt8) (hp : p.length ≤ 65536) : Frm.allB (Frm.sealB p) = ([p], 6 + p.length + 4, 0) := by
  have ho := Frm.openB_whole p [] hp
  rw [List.append_nil] at ho
  have hl := Frm.sealB_length p
  rw [Frm.allB_go _ (fun e => by rw [e] at hl; simp at hl) (by rw [ho]), ho]
  have : List.drop (6 + p.length + 4) (Frm.sealB p) = [] := List.drop_eq_nil_of_le (by omega)
  simp only [this, Frm.allB_nil, Nat.add_zero]

theorem OwnBs.one {w : World} {base : Nat} {vs : List Value} {p : List UInt8} (h : OwnBs w base vs [p]) : ∃ v, vs = [v] ∧ OwnB w base v p := by
  obtain ⟨h1, h2⟩ := h
  match vs, h1 with
  | [v], _ => exact ⟨v, rfl, h2 0 v p rfl rfl⟩

/-- a slice of bytes of the call's own, with so many of them -/
def SomeB (w : World) (base : Nat) (v : Value) (n : Nat) : Prop := ∃ l : List UInt8, l.length = n ∧ OwnB w base v l

/-- what holds of memory at every round's head -/
def NewRel (w2 : World) (base : Nat) (q lv e0 : Value) (n : Nat) (wr : World) : Prop :=
  Below w2.heap.size w2 wr ∧ SomeB wr w2.heap.size q n ∧ SomeB wr base e0 n ∧ wr.ownsRow base 22 1 lv 1 [e0] ∧ ∀ g, q.ownBlock = some g → g < base

/-- a byte goes into q -/
theorem NewRel.first {w2 wr : World} {base : Nat} {lv e0 : Value} {n g c : Nat} (h : NewRel w2 base (.slice (some ⟨g, 0, none⟩) n c) lv e0 n wr) (k : Nat) (y : UInt8) (_ : w2.heap.size ≤ base) :
    NewRel w2 base (.slice (some ⟨g, 0, none⟩) n c) lv e0 n (wr.setCell ⟨g, k, none⟩ (.int .u8 y.toNat)) := by
  obtain ⟨h1, ⟨l, hl, h2⟩, ⟨l', hl', h3⟩, h4, h5⟩ := h
  obtain ⟨s1, s2⟩ := h2.stored k y hl
  have hlt := h5 g rfl
  have hge := (World.ownsRow.lt h2 g rfl).1
  refine ⟨h1.setCell (p := ⟨g, k, none⟩) hge _, ⟨_, by simpa using hl, s1⟩, ⟨l', hl', h3.kept s2 ?_⟩, World.ownsRow.kept h4 s2 ?_, h5⟩
  · rcases he : e0.ownBlock with _ | g'
    · exact .inl rfl
    · right; intro e; have := (World.ownsRow.lt h3 g' he).1; injection e with e; omega
  · rcases he : lv.ownBlock with _ | g'
    · exact .inl rfl
    · right; intro e; have := (World.ownsRow.lt h4 g' he).1; injection e with e; omega

/-- a byte goes into the payload that All told -/
theorem NewRel.second {w2 wr : World} {base : Nat} {q lv : Value} {n g c : Nat} (h : NewRel w2 base q lv (.slice (some ⟨g, 0, none⟩) n c) n wr) (k : Nat) (y : UInt8) (hb : w2.heap.size ≤ base) :
    NewRel w2 base q lv (.slice (some ⟨g, 0, none⟩) n c) n (wr.setCell ⟨g, k, none⟩ (.int .u8 y.toNat)) := by
  obtain ⟨h1, ⟨l, hl, h2⟩, ⟨l', hl', h3⟩, h4, h5⟩ := h
  obtain ⟨s1, s2⟩ := h3.stored k y hl'
  have hge := (World.ownsRow.lt h3 g rfl).1
  refine ⟨h1.setCell (p := ⟨g, k, none⟩) (by show w2.heap.size ≤ g; omega) _, ⟨l, hl, h2.kept s2 ?_⟩, ⟨_, by simpa using hl', s1⟩, World.ownsRow.kept h4 s2 (ownsRow_apart h4 h3 (by decide)), h5⟩
  rcases he : q.ownBlock with _ | g'
  · exact .inl rfl
  · right; intro e; have := h5 g' he; injection e with e; omega

theorem NewRel.drewN {w2 wr : World} {base : Nat} {q lv e0 : Value} {n : Nat} (h : NewRel w2 base q lv e0 n wr) (k : Nat) : NewRel w2 base q lv e0 n (wr.drewN k) := by
  obtain ⟨h1, ⟨l, hl, h2⟩, ⟨l', hl', h3⟩, h4, h5⟩ := h
  exact ⟨below_drewN h1 k, ⟨l, hl, h2⟩, ⟨l', hl', h3⟩, h4, h5⟩

theorem inc_u8 (x : UInt8) : ((x.toNat : Int) + 1) % 256 = ((x + 1).toNat : Int) := by
  rw [UInt8.toNat_add]; have : (1 : UInt8).toNat = 1 := rfl; rw [this]; omega

set_option maxHeartbeats 2000000 in
set_option maxRecDepth 100000 in
theorem new_any (w : World) (A : Option Addr) (n c : Nat) (l : List UInt8) (h : Byt w w.heap.size A n c l) :
    Calls Try.prog 8 #[.slice A n c] w (Says true w) := by
  have hmax := h.max
  have hcap := h.cap
  unfold maxLen at hmax
  have HH := Lib.hid h; clear h
  go_enter Try.func8, Try.ntmps8
  go_wp2_with fail
  refine (awake_any w).mono ?_
  rintro e w1 ⟨rfl, hb1⟩
  by_cases hn : 3000 < n
  · go_wp2
    go_ret
    exact ⟨rfl, hb1⟩
  have HH1 := Lib.hid ((HH.out.below hb1).more hb1.size)
  have hst := HH1.out.str (P := Try.prog) 22 5 9 Try.underlying22 Try.underlying5 Try.underlying9
  go_wp2_with fail
  refine (seal_any w1 A n c l HH1.out (by omega)).mono ?_
  clear hst
  rintro e w2 ⟨v, rfl, hown, hb2⟩
  have hl10 : (Frm.sealB l).length = n + 10 := by rw [Frm.sealB_length, HH.out.len]
  obtain ⟨g, c2, hv, hg1, hg2⟩ := hown.head (by omega)
  rw [hl10] at hv
  subst hv
  have HL10 := Lib.hid hl10; clear hl10
  have hbt := hown.byt
  have hc2 := hbt.cap
  have hm2 := hbt.max
  unfold maxLen at hm2
  have HO := Lib.hid hown; clear hown
  have HB := Lib.hid hbt; clear hbt
  have hbw : Below w.heap.size w w2 := hb1.trans (hb2.mono hb1.size)
  have hs1 := hb1.size
  have hst2 := HB.out.str (P := Try.prog) 22 5 9 Try.underlying22 Try.underlying5 Try.underlying9
  go_wp2_with fail
  refine (open_any w2 _ _ _ _ HB.out (by omega)).mono ?_
  clear hst2
  rintro e w3 ⟨v3, rfl, hown3, hb3⟩
  have hop := Frm.openB_whole l [] (by rw [HH.out.len]; omega)
  rw [List.append_nil] at hop
  rw [hop] at hown3 ⊢
  obtain ⟨A3, c3, hv3⟩ := hown3.form
  rw [HH.out.len] at hv3
  subst hv3
  have HO3 := Lib.hid hown3; clear hown3 hop
  have hs3 := hb3.size
  go_wp2_with fail
  refine (all_any w3 _ _ _ _ ((HB.out.below hb3).more hs3) (by omega)).mono ?_
  rintro e w4 ⟨lv, vs, rfl, hrow, hbs, hb4⟩
  have hall := allB_one l (by rw [HH.out.len]; omega)
  rw [hall] at hbs ⊢
  obtain ⟨e0, rfl, hown4⟩ := hbs.one
  obtain ⟨A4, c4, hv4⟩ := hown4.form
  rw [HH.out.len] at hv4
  subst hv4
  obtain ⟨gl, cl, hvl, _, _⟩ : ∃ g c, lv = .slice (some ⟨g, 0, none⟩) 1 c ∧ w3.heap.size ≤ g ∧ g < w4.heap.size := by
    rcases hrow.2 with ⟨e, hl⟩ | ⟨g, cap, cur, e, hb, hg, _⟩
    · simp at hl
    · exact ⟨g, cap, e, hb, (Array.getElem?_eq_some_iff.1 hg).1⟩
  subst hvl
  have hrel0 : NewRel w2 w3.heap.size (.slice A3 n c3) (.slice (some ⟨gl, 0, none⟩) 1 cl) (.slice A4 n c4) n w4 :=
    ⟨hb3.trans (hb4.mono hs3), ⟨l, HH.out.len, HO3.out.below hb4 (Nat.le_refl _)⟩, ⟨l, HH.out.len, hown4⟩, hrow, fun g hg => (World.ownsRow.lt HO3.out g hg).2⟩
  have hcl : w4.cell? ⟨gl, 0, none⟩ = some (.slice A4 n c4) := World.ownsRow.cellAt hrow 0 (by simp)
  have HR := Lib.hid hrel0
  clear hrel0 hown4 hrow hbs hall
  have hnn : ((n : Int) != (n : Int)) = false := by simp
  go_wp2
  clear hcl hnn
  go_loopw [13] (fun i wr => ∃ k : Nat, i = .int .i64 k ∧ k ≤ n ∧ NewRel w2 w3.heap.size (.slice A3 n c3) (.slice (some ⟨gl, 0, none⟩) 1 cl) (.slice A4 n c4) n wr) (fun i _ => n - (intOf i).toNat)
  case atStart => exact ⟨0, rfl, Nat.zero_le _, HR.out⟩
  case round =>
    obtain ⟨k, rfl, hk, hnr⟩ := hrel
    by_cases hkn : k < n
    · obtain ⟨g3, c3', e3, _, _⟩ : ∃ g c, Value.slice A3 n c3 = .slice (some ⟨g, 0, none⟩) n c ∧ True ∧ True := by
        obtain ⟨_, ⟨l3, hl3, h3⟩, _⟩ := hnr
        obtain ⟨g, c, e, _⟩ := h3.head (by omega)
        exact ⟨g, c, by rw [e, hl3], trivial, trivial⟩
      injection e3 with e31 e32 e33
      subst e31
      clear e32 e33
      obtain ⟨g4, c4', e4, _, _⟩ : ∃ g c, Value.slice A4 n c4 = .slice (some ⟨g, 0, none⟩) n c ∧ True ∧ True := by
        obtain ⟨_, _, ⟨l3, hl3, h3⟩, _⟩ := hnr
        obtain ⟨g, c, e, _⟩ := h3.head (by omega)
        exact ⟨g, c, by rw [e, hl3], trivial, trivial⟩
      injection e4 with e41 e42 e43
      subst e41
      clear e42 e43
      obtain ⟨x, hx⟩ : ∃ x : UInt8, wr.cell? ⟨g3, k, none⟩ = some (.int .u8 x.toNat) := by
        obtain ⟨_, ⟨l3, hl3, h3⟩, _⟩ := hnr
        obtain ⟨b, off, e, _, hc⟩ := h3.byt.cell (by omega)
        simp only [Option.some.injEq, Addr.mk.injEq, and_true] at e
        obtain ⟨rfl, rfl⟩ := e
        exact ⟨_, by simpa using hc k (by omega)⟩
      have hfz : wr.frozen? ⟨g3, k, none⟩ = false := by
        obtain ⟨_, ⟨l3, hl3, h3⟩, _⟩ := hnr
        subst hl3
        exact World.ownsRow.frozenAt h3 k
      have hxb := x.toNat_lt
      have HNR := Lib.hid hnr; clear hnr
      have t1 : (k : Int) < n := by omega
      go_wp2
      rw [inc_u8 x]
      have hnx := HNR.out.first k (x + 1) hs3
      generalize wr.setCell ⟨g3, k, none⟩ (Value.int .u8 ((x + 1).toNat : Int)) = wx at *
      clear hx hfz HNR hxb
      obtain ⟨z, hz⟩ : ∃ x : UInt8, wx.cell? ⟨g4, k, none⟩ = some (.int .u8 x.toNat) := by
        obtain ⟨_, _, ⟨l3, hl3, h3⟩, _⟩ := hnx
        obtain ⟨b, off, e, _, hc⟩ := h3.byt.cell (by omega)
        simp only [Option.some.injEq, Addr.mk.injEq, and_true] at e
        obtain ⟨rfl, rfl⟩ := e
        exact ⟨_, by simpa using hc k (by omega)⟩
      have hfz : wx.frozen? ⟨g4, k, none⟩ = false := by
        obtain ⟨_, _, ⟨l3, hl3, h3⟩, _⟩ := hnx
        subst hl3
        exact World.ownsRow.frozenAt h3 k
      have hcl : wx.cell? ⟨gl, 0, none⟩ = some (.slice (some ⟨g4, 0, none⟩) n c4) := by
        obtain ⟨_, _, _, h3, _⟩ := hnx
        exact World.ownsRow.cellAt h3 0 (by simp)
      have hzb := z.toNat_lt
      have HNX := Lib.hid hnx; clear hnx
      go_region
      rw [inc_u8 z]
      have hny : NewRel w2 w3.heap.size (.slice (some ⟨g3, 0, none⟩) n c3) (.slice (some ⟨gl, 0, none⟩) 1 cl) (.slice (some ⟨g4, 0, none⟩) n c4) n (wx.setCell ⟨g4, k, none⟩ (Value.int .u8 ((z + 1).toNat : Int))).drew := (HNX.out.second k (z + 1) hs3).drewN 1
      generalize (wx.setCell ⟨g4, k, none⟩ (Value.int .u8 ((z + 1).toNat : Int))).drew = wy at *
      have HNY := Lib.hid hny; clear hny hz hfz hcl hzb HNX
      go_wp2
      go_roundw
      case rel => exact ⟨k + 1, by go_num, by omega, HNY.out⟩
      case measure => simp [intOf]; omega
    · have hb2r := hnr.1
      clear hnr
      have hst2 := (HB.out.below hb2r).str (P := Try.prog) 22 5 9 Try.underlying22 Try.underlying5 Try.underlying9
      have hbr : Below w.heap.size w wr := hbw.trans (hb2r.mono hbw.size)
      have hst1 := (HH.out.below hbr).str (P := Try.prog) 22 5 9 Try.underlying22 Try.underlying5 Try.underlying9
      have hor : OwnB wr w1.heap.size (.slice (some ⟨g, 0, none⟩) (n + 10) c2) (Frm.sealB l) := HO.out.below hb2r (Nat.le_refl _)
      obtain ⟨x, hx⟩ : ∃ x : UInt8, wr.cell? ⟨g, 0, none⟩ = some (.int .u8 x.toNat) := by
        obtain ⟨b, off, e, _, hc⟩ := hor.byt.cell (by omega)
        simp only [Option.some.injEq, Addr.mk.injEq, and_true] at e
        obtain ⟨rfl, rfl⟩ := e
        exact ⟨_, by simpa using hc 0 (by rw [HL10.out]; omega)⟩
      have hfz : wr.frozen? ⟨g, 0, none⟩ = false := by
        have h3 := hor
        unfold OwnB at h3
        rw [HL10.out] at h3
        exact World.ownsRow.frozenAt h3 0
      have hxb := x.toNat_lt
      have t1 : (0 : Int) < ((n + 10 : Nat) : Int) := by omega
      clear hor
      go_wp2_with fail
      have hbx := hbr.setCell (p := ⟨g, 0, none⟩) (by show w.heap.size ≤ g; omega) (Value.int IntKind.u8 ((↑x.toNat + 1) % 256))
      generalize (wr.setCell ⟨g, 0, none⟩ (Value.int IntKind.u8 ((↑x.toNat + 1) % 256))) = wx at *
      clear hst1 hst2 hx hfz hb2r hbr
      refine (seal_any wx A n c l ((HH.out.below hbx).more hbx.size) (by omega)).mono ?_
      rintro e wz ⟨vz, rfl, hownz, hbz⟩
      obtain ⟨Az, cz, hvz⟩ := hownz.form
      subst hvz
      have hbwz : Below w.heap.size w wz := hbx.trans (hbz.mono hbx.size)
      have hst2 := hownz.byt.str (P := Try.prog) 22 5 9 Try.underlying22 Try.underlying5 Try.underlying9
      have hst1 := (HH.out.below hbwz).str (P := Try.prog) 22 5 9 Try.underlying22 Try.underlying5 Try.underlying9
      clear hownz
      go_wp2
      go_ret
      exact ⟨rfl, hbwz⟩
end Go.Proofs.Ytdnbejhaocpacaa
