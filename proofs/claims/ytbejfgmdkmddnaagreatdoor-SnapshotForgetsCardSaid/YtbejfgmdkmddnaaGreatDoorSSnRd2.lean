/-
  Layer 30: any bytes, read: till, line, some.
  Layer 30: any bytes, read: events.
-/
import Derived.Test.YtbejfgmdkmddnaaGreatDoorSClkDec1
import Derived.Test.YtbejfgmdkmddnaaGreatDoorSClkEnc
import Derived.Test.YtbejfgmdkmddnaaGreatDoorSSnPlain
import Derived.Test.YtbejfgmdkmddnaaGreatDoorSHdNum
import Derived.Test.YtbejfgmdkmddnaaGreatDoorSRg3
import Derived.Test.YtbejfgmdkmddnaaGreatDoorSRef02
import Derived.Test.YtbejfgmdkmddnaaGreatDoorSParts
namespace Go.Proofs.YtbejfgmdkmddnaaGreatDoor
open Go.RowKit Go.Maps Go.Sort

def intsOf (l : List UInt8) : List Int := l.map fun u => (u.toNat : Int)
theorem bytesOf_ints (l : List UInt8) : Lib.bytesOf (intsOf l) = l := by
  unfold Lib.bytesOf intsOf
  rw [List.map_map]
  conv => rhs; rw [← List.map_id l]
  exact List.map_congr_left fun u _ => by simp
theorem ints_get (l : List UInt8) (i : Nat) (hi : i < l.length) : (intsOf l).getD i 0 = (l[i].toNat : Int) := by
  unfold intsOf
  rw [List.getD_eq_getElem?_getD, List.getElem?_map, List.getElem?_eq_getElem hi]; rfl
theorem Byt.bin {w : World} {B n c : Nat} {A : Option Addr} {l : List UInt8} (h : Byt w B A n c l) : Lib.BytesIn w A n (intsOf l) := fun hn => by
  obtain ⟨b, off, e, _, hc⟩ := h.cell hn
  exact ⟨b, off, e, fun i hi => by
    have hl := h.len
    rw [ints_get l i (by omega)]; exact hc i (by omega)⟩
theorem bidx_any (w : World) (B : Nat) (A : Option Addr) (n c : Nat) (l : List UInt8) (h : Byt w B A n c l) (hA : A = none → c = 0) (x : UInt8) :
    Calls Tryz.prog 99 #[.slice A n c, .int .u8 x.toNat] w fun e w' => e = .returned (.int .i64 (Lib.indexByte l x)) ∧ w' = w := by
  have hl := h.len
  have hcap := h.cap
  have hx : (x.toNat : Int).toNat.toUInt8 = x := by simp
  cases A with
  | none =>
    obtain rfl := hA rfl
    obtain rfl : n = 0 := by omega
    have : l = [] := List.eq_nil_of_length_eq_zero hl
    subst this
    exact Tryz.bytes_IndexByte_nil _ w
  | some a =>
    have h1 := Tryz.bytes_IndexByte_at a n c (intsOf l) x.toNat w (by unfold intsOf; rw [List.length_map]; exact hl) (fun i hi => by
      obtain ⟨b, off, e, _, hc⟩ := h.cell (by omega)
      injection e with e; subst e
      rw [ints_get l i (by omega)]
      have := hc i (by omega)
      rw [Go.WideShapes.add_plain]; exact this)
    rw [bytesOf_ints, hx] at h1
    exact h1
/-- read's boxes: the bytes that are left, and whether all was well -/
structure SnB (W : World) (B bb bo : Nat) (s : Sn) : Prop where
  b : ∃ A n c, W.heap[bb]? = some (byBox (.slice A n c)) ∧ Byt W B A n c s.b ∧ (A = none → c = 0)
  ok : W.heap[bo]? = some (okBox s.ok)
  hb : B ≤ bb
  ho : B ≤ bo
  ne : bb ≠ bo
  num : s.b.length ≤ 1000000000
def SbKeep (bb bo : Nat) (W W' : World) : Prop := Keep (fun q => q = bb ∨ q = bo) W W'
section
variable {W W' : World} {B bb bo : Nat} {s : Sn}
theorem SnB.lt (h : SnB W B bb bo s) : bb < W.heap.size ∧ bo < W.heap.size := by
  obtain ⟨A, n, c, h1, _⟩ := h.b
  exact ⟨(Array.getElem?_eq_some_iff.1 h1).1, (Array.getElem?_eq_some_iff.1 h.ok).1⟩
theorem SnB.up (h : SnB W B bb bo s) (hb : Below W.heap.size W W') : SnB W' B bb bo s := by
  obtain ⟨l1, l2⟩ := h.lt
  obtain ⟨A, n, c, h1, h2, h3⟩ := h.b
  have := h.hb
  exact ⟨⟨A, n, c, (hb.block _ l1).trans h1, h2.below (hb.mono (by omega)), h3⟩, (hb.block _ l2).trans h.ok, h.hb, h.ho, h.ne, h.num⟩
theorem SnB.set (h : SnB W B bb bo s) {A : Option Addr} {n c : Nat} {r : List UInt8} (hr : Byt W B A n c r) (hA : A = none → c = 0) (hn : r.length ≤ 1000000000) : SnB (W.setCell ⟨bb, 0, none⟩ (.slice A n c)) B bb bo ⟨r, s.ok⟩ := by
  obtain ⟨A', n', c', h1, h2, h3⟩ := h.b
  exact ⟨⟨A, n, c, heap_set_row h1, hr.setCell h.hb _, hA⟩, (Below.heap_setCell _ _ _ _ (fun e => h.ne e.symm)).trans h.ok, h.hb, h.ho, h.ne, hn⟩
theorem SnB.bad (h : SnB W B bb bo s) : SnB (W.setCell ⟨bo, 0, none⟩ (.bool false)) B bb bo ⟨s.b, false⟩ := by
  obtain ⟨A, n, c, h1, h2, h3⟩ := h.b
  exact ⟨⟨A, n, c, (Below.heap_setCell _ _ _ _ h.ne).trans h1, h2.setCell h.ho _, h3⟩, heap_set_row h.ok, h.hb, h.ho, h.ne, h.num⟩
theorem SbKeep.refl (W : World) : SbKeep bb bo W W := Keep.refl _ W
theorem SbKeep.trans {W1 W2 W3 : World} (h : SbKeep bb bo W1 W2) (h' : SbKeep bb bo W2 W3) : SbKeep bb bo W1 W3 := Keep.trans h h' (fun _ _ h => h)
theorem SbKeep.below (h : Below W.heap.size W W') : SbKeep bb bo W W' := Keep.of_below h
theorem SbKeep.b (h : SbKeep bb bo W W') (u : Value) : SbKeep bb bo W (W'.setCell ⟨bb, 0, none⟩ u) := Keep.setCell (p := ⟨bb, 0, none⟩) h (fun _ => .inl rfl) u
theorem SbKeep.o (h : SbKeep bb bo W W') (u : Value) : SbKeep bb bo W (W'.setCell ⟨bo, 0, none⟩ u) := Keep.setCell (p := ⟨bo, 0, none⟩) h (fun _ => .inr rfl) u
end
def TiPost (W : World) (B bb bo : Nat) (s : Sn) (e : Ending) (W' : World) : Prop := e = .returned (.string ⟨(tilV s).toArray⟩) ∧ SnB W' B bb bo (tilS s) ∧ SbKeep bb bo W W'
set_option maxRecDepth 100000 in
set_option maxHeartbeats 4000000 in
theorem till_any (W : World) (B bb bo : Nat) (s : Sn) (h : SnB W B bb bo s) : Calls Tryz.prog 98 #[.pointer (some ⟨bb, 0, none⟩), .pointer (some ⟨bo, 0, none⟩)] W (TiPost W B bb bo s) := by
  obtain ⟨A, n, c, h1, h2, h3⟩ := h.b
  have HIX := Lib.hid (show Calls Tryz.prog 99 #[.slice A n c, .int .u8 10] W (fun e w' => e = .returned (.int .i64 (Lib.indexByte s.b 10)) ∧ w' = W) from bidx_any W B A n c s.b h2 h3 10)
  have c0 : W.cell? ⟨bb, 0, none⟩ = some (.slice A n c) := (cell_of_row W bb 0 _ _ (0, 0) h1).trans rfl
  have f0 := frozen_of_row W bb 0 _ _ h1
  have c1 : W.cell? ⟨bo, 0, none⟩ = some (.bool s.ok) := (cell_of_row W bo 0 _ _ (0, 0) h.ok).trans rfl
  have f1 := frozen_of_row W bo 0 _ _ h.ok
  have HB := Lib.hid h2; have HS := Lib.hid h
  have hl := h2.len
  have hnum := h.num
  have hcap := h2.cap
  have hmax := h2.max
  rcases cut_cases 10 s.b with hm | ⟨x, y, hxy, hx⟩
  · have hv : Lib.indexByte s.b 10 = -1 := ib_miss 10 s.b hm
    rw [hv] at HIX
    have HF := Lib.hid (show TiPost W B bb bo s (.returned (.string ⟨#[]⟩)) (W.setCell ⟨bo, 0, none⟩ (.bool false)) from by
      unfold TiPost tilV tilS
      rw [cut_miss 10 s.b hm]
      exact ⟨rfl, HS.out.bad, (SbKeep.refl W).o _⟩)
    clear h h1 h2 hv hm h3
    go_enter Tryz.func98, Tryz.ntmps98
    go_wp2_with fail
    with_reducible refine HIX.out.mono ?_
    rintro r w1 ⟨rfl, rfl⟩
    go_wp2
    go_ret
    exact HF.out
  · have hv : Lib.indexByte s.b 10 = (x.length : Int) := by rw [hxy]; exact ib_hit 10 x y hx
    rw [hv] at HIX
    have hll : s.b.length = x.length + 1 + y.length := by rw [hxy]; simp; omega
    obtain ⟨d, off, rfl, hd, _⟩ := h2.cell (by omega)
    have HT := Lib.hid (h2.tail (x.length + 1) (by omega))
    have hdr : s.b.drop (x.length + 1) = y := by rw [hxy]; simp
    have htk : s.b.take x.length = x := by rw [hxy]; simp
    have HST := Lib.hid (h2.take x.length (by omega))
    rw [htk] at HST
    rw [hdr] at HT
    have hst := HST.out.str (P := Tryz.prog) 32 5 9 Tryz.underlying32 Tryz.underlying5 Tryz.underlying9
    have HF := Lib.hid (show ∀ A2 c2, Byt W B A2 (n - (x.length + 1)) c2 y → (A2 = none → c2 = 0) → TiPost W B bb bo s (.returned (.string ⟨x.toArray⟩)) (W.setCell ⟨bb, 0, none⟩ (.slice A2 (n - (x.length + 1)) c2)) from fun A2 c2 g1 g2 => by
      obtain ⟨t1, t2⟩ := til_hit x y s.ok hx
      have e : s = ⟨x ++ 10 :: y, s.ok⟩ := by rw [← hxy]
      rw [← e] at t1 t2
      unfold TiPost
      rw [t1, t2]
      exact ⟨rfl, HS.out.set g1 g2 (by omega), (SbKeep.refl W).b _⟩)
    have hzn : x.length + 1 ≤ n := by omega
    generalize hz : x.length = z at *
    clear h h1 h2 hv hx h3 hxy hdr htk HST hll
    go_enter Tryz.func98, Tryz.ntmps98
    go_wp2_with fail
    with_reducible refine HIX.out.mono ?_
    rintro r w1 ⟨rfl, rfl⟩
    have HF2 := Lib.hid (show TiPost w1 B bb bo s (.returned (.string ⟨x.toArray⟩)) (w1.setCell ⟨bb, 0, none⟩ (if c = z + 1 then .slice (some ⟨d, off, none⟩) (n - (z + 1)) (c - (z + 1)) else .slice (some ⟨d, off + (z + 1), none⟩) (n - (z + 1)) (c - (z + 1)))) from by
      have g := HT.out
      split <;> rename_i hc
      · rw [if_pos hc] at g; exact HF.out _ _ g (fun e => by cases e)
      · rw [if_neg hc] at g; exact HF.out _ _ g (fun e => by cases e))
    clear HF HT
    have t1 : (z : Int) + 1 ≤ n := by omega
    by_cases hcz : c = z + 1
    · rw [if_pos hcz] at HF2
      obtain rfl : n = z + 1 := by omega
      subst hcz
      simp only [Nat.sub_self] at HF2
      go_wp2
      go_ret
      exact HF2.out
    · rw [if_neg hcz] at HF2
      go_wp2
      go_ret
      exact HF2.out
theorem cvt_any (w : World) (l : List UInt8) (hl : l.length ≤ 1000000000) : ∃ c w', (convert 9 32 (.string ⟨l.toArray⟩)).run Tryz.prog w = .ok (.slice (some ⟨w.heap.size, 0, none⟩) l.length c) w' ∧ Byt w' w'.heap.size (some ⟨w.heap.size, 0, none⟩) l.length c l ∧ Below w.heap.size w w' := by
  have hz : (⟨l.toArray⟩ : ByteArray).size = l.length := by simp [ByteArray.size]
  have h1 := Lib.run_convert_string_bytes (P := Tryz.prog) w 9 32 5 ⟨l.toArray⟩ Tryz.underlying9 Tryz.underlying32 Tryz.underlying5
  rw [hz] at h1
  refine ⟨_, _, h1, ⟨rfl, grownCap_ge _ _ _ _, grownCap_le_maxLen _ _ _ _ (by unfold maxLen; omega), fun _ => ⟨w.heap.size, 0, rfl, by rw [Lib.bytesWorld_size]; omega, fun i hi => ?_⟩⟩, Lib.bytesWorld_below w _ _⟩
  have h2 := Lib.bytesWorld_cell w 5 ⟨l.toArray⟩ i (by rw [hz]; exact hi)
  rw [Nat.zero_add, h2]
  simp [List.getD, hi]
theorem cutp_any (w : World) (B1 B2 b o n c m d : Nat) (p2 : Option Addr) (l l2 : List UInt8) (h1 : Byt w B1 (some ⟨b, o, none⟩) n c l) (h2 : Byt w B2 p2 m d l2) (hne : l2 ≠ []) :
    Calls Tryz.prog 101 #[.slice (some ⟨b, o, none⟩) n c, .slice p2 m d] w fun e w' => ∃ A' n' c', e = .returned (.tuple #[.slice A' n' c', .bool (Lib.hasPrefix l l2)]) ∧ Byt w B1 A' n' c' (if Lib.hasPrefix l l2 then l.drop m else l) ∧ w' = w := by
  have hl2 := h2.len
  have h := Tryz.bytes_CutPrefix_all (some ⟨b, o, none⟩) p2 n c m d (intsOf l) (intsOf l2) w (by unfold intsOf; rw [List.length_map]; exact h1.len) (by unfold intsOf; rw [List.length_map]; exact hl2) h1.cap h1.bin h2.bin
  rw [bytesOf_ints, bytesOf_ints] at h
  refine h.mono ?_
  rintro e w' ⟨rfl, rfl⟩
  obtain ⟨y, ys, hy⟩ : ∃ y ys, intsOf l2 = y :: ys := by
    cases l2 with
    | nil => exact absurd rfl hne
    | cons y ys => exact ⟨_, _, rfl⟩
  have hv : Lib.trimPrefixV (some ⟨b, o, none⟩) n c (intsOf l) (intsOf l2) = Lib.bytesTrimPrefix b o n c (intsOf l) (intsOf l2) := by rw [hy]; rfl
  have hil : (intsOf l2).length = m := by unfold intsOf; rw [List.length_map]; exact hl2
  rw [hv]
  unfold Lib.bytesTrimPrefix
  rw [bytesOf_ints, bytesOf_ints, hil]
  cases hp : Lib.hasPrefix l l2
  · exact ⟨_, _, _, rfl, h1, rfl⟩
  · have hle := Lib.hasPrefix_le hp
    have ht := h1.tail m (by have := h1.len; omega)
    simp only [if_true]
    unfold Lib.sliceFrom
    split <;> rename_i hc
    · rw [if_pos hc] at ht; exact ⟨_, _, _, rfl, ht, by first | rfl | trivial⟩
    · rw [if_neg hc] at ht; exact ⟨_, _, _, rfl, ht, by first | rfl | trivial⟩
abbrev tiBox (bb bo : Nat) : Obj := .cells #[.func (Fn.func 98) #[] #[.pointer (some ⟨bb, 0, none⟩), .pointer (some ⟨bo, 0, none⟩)]] 64
def LiPost (W : World) (B bb bo : Nat) (ws : List UInt8) (s : Sn) (e : Ending) (W' : World) : Prop := e = .returned (.int .i64 (linV ws s)) ∧ SnB W' B bb bo (linS ws s) ∧ SbKeep bb bo W W'
set_option maxRecDepth 100000 in
set_option maxHeartbeats 4000000 in
theorem rdline_any (W : World) (B bb bo bt : Nat) (s : Sn) (h : SnB W B bb bo s) (ht : W.heap[bt]? = some (tiBox bb bo)) (ws : List UInt8) (hws : ws.length ≤ 1000) (hee : ∀ W', SbKeep bb bo W W' → ErrsAt W') : Calls Tryz.prog 100 #[.string ⟨ws.toArray⟩, .pointer (some ⟨bt, 0, none⟩), .pointer (some ⟨bo, 0, none⟩)] W (LiPost W B bb bo ws s) := by
  have HTI := Lib.hid (till_any W B bb bo s h)
  have c0 : W.cell? ⟨bt, 0, none⟩ = some (.func (Fn.func 98) #[] #[.pointer (some ⟨bb, 0, none⟩), .pointer (some ⟨bo, 0, none⟩)]) := (cell_of_row W bt 0 _ _ (0, 0) ht).trans rfl
  have htv : (tilV s).length ≤ 1000000000 := by
    have := h.num
    unfold tilV
    split
    · rcases cut_cases 10 s.b with h1 | ⟨x, y, hxy, h1⟩
      · rw [cut_miss 10 s.b h1]; exact this
      · rw [hxy, cut_hit 10 x y h1]
        have h2 := congrArg List.length hxy
        simp at h2 ⊢; omega
    · simp
  have HLI := Lib.hid (show linS ws s = (if lnOk ws (tilV s) then tilS s else ⟨(tilS s).b, false⟩) ∧ linV ws s = (if lnOk ws (tilV s) then atoiV (lnW ws (tilV s)) else 0) ∧ lnOk ws (tilV s) = (Lib.hasPrefix (tilV s) (ws ++ [32]) && atoiE (lnW ws (tilV s)) && !decide (atoiV (lnW ws (tilV s)) < 0)) ∧ lnW ws (tilV s) = (if Lib.hasPrefix (tilV s) (ws ++ [32]) then (tilV s).drop (ws.length + 1) else tilV s) from ⟨rfl, rfl, rfl, rfl⟩)
  have HEE := Lib.hid hee
  clear h ht hee
  go_enter Tryz.func100, Tryz.ntmps100
  go_wp2_with fail
  with_reducible refine HTI.out.mono ?_
  rintro r W1 ⟨rfl, h1, hk1⟩
  have HS1 := Lib.hid h1; have HK1 := Lib.hid hk1
  generalize tilV s = t at *
  generalize tilS s = T at *
  obtain ⟨ct, W2, hr2, hby2, hb2⟩ := cvt_any W1 t htv
  obtain ⟨cw, W3, hr3, hby3, hb3⟩ := cvt_any W2 (ws ++ [32]) (by simp; omega)
  have HB2 := Lib.hid (hby2.below hb3)
  have HB3 := Lib.hid hby3
  have HS3 := Lib.hid ((HS1.out.up hb2).up hb3)
  have HK3 := Lib.hid (HK1.out.trans (SbKeep.below (hb2.trans (hb3.mono hb2.size))))
  have hwl : (ws ++ [32]).length = ws.length + 1 := by simp
  have hstr : (⟨ws.toArray⟩ : ByteArray) ++ (⟨#[32]⟩ : ByteArray) = ⟨(ws ++ [32]).toArray⟩ := by
    apply ByteArray.ext
    simp
  have HCP := Lib.hid (cutp_any W3 _ _ _ _ _ _ _ _ _ t (ws ++ [32]) HB2.out HB3.out (by simp))
  rw [hwl] at HCP
  clear hby2 hby3 hb2 hb3 HTI h1 hk1 c0 HS1 HK1
  go_wp2_with fail
  with_reducible refine HCP.out.mono ?_
  rintro r w4 ⟨A', n', c', rfl, hby4, rfl⟩
  obtain ⟨e1, e2, e3, e4⟩ := HLI.out
  rw [← e4] at hby4
  have hxl : (lnW ws t).length ≤ 1000000000 := by
    rw [e4]; split
    · rw [List.length_drop]; omega
    · exact htv
  have HA := Lib.hid (atoi_any w4 (lnW ws t) hxl (HEE.out _ HK3.out))
  have hst := hby4.str (P := Tryz.prog) 32 5 9 Tryz.underlying32 Tryz.underlying5 Tryz.underlying9
  have HE1 := Lib.hid e1; have HE2 := Lib.hid e2; have HE3 := Lib.hid e3
  clear e1 e2 e3 e4 HLI hby4 HCP hr2 hr3 HB2 HB3 HEE
  generalize lnW ws t = x at *
  generalize Lib.hasPrefix t (ws ++ [32]) = fb at *
  generalize lnOk ws t = okb at *
  go_wp2_with fail
  with_reducible refine HA.out.mono ?_
  rintro r w5 ⟨ev, rfl, hev, hb5⟩
  have HS5 := Lib.hid (HS3.out.up hb5)
  have HK5 := Lib.hid (HK3.out.trans (SbKeep.below hb5))
  clear hst HA HS3 HK3 hb5
  have f1 := frozen_of_row w5 bo 0 _ _ HS5.out.ok
  have c1 : w5.cell? ⟨bo, 0, none⟩ = some (.bool T.ok) := (cell_of_row w5 bo 0 _ _ (0, 0) HS5.out.ok).trans rfl
  have HBAD := Lib.hid (show okb = false → LiPost W B bb bo ws s (.returned (.int .i64 0)) (w5.setCell ⟨bo, 0, none⟩ (.bool false)) from fun e => by
    unfold LiPost
    rw [HE1.out, HE2.out, e]
    exact ⟨rfl, HS5.out.bad, HK5.out.o _⟩)
  cases fb
  · have HF := Lib.hid (HBAD.out (by rw [HE3.out]; rfl))
    clear hev HBAD
    go_wp2
    go_ret
    exact HF.out
  cases hae : atoiE x
  · rw [hae] at hev HE3
    obtain ⟨tt, pp, rfl⟩ := hev
    have HF := Lib.hid (HBAD.out (by rw [HE3.out]; rfl))
    clear HBAD
    go_wp2
    go_ret
    exact HF.out
  rw [hae] at hev HE3
  obtain rfl : ev = .nilIface := hev
  by_cases hn : atoiV x < 0
  · have HF := Lib.hid (HBAD.out (by rw [HE3.out, decide_eq_true hn]; rfl))
    clear HBAD
    go_wp2
    go_ret
    exact HF.out
  · have HF := Lib.hid (show LiPost W B bb bo ws s (.returned (.int .i64 (atoiV x))) w5 from by
      unfold LiPost
      rw [HE1.out, HE2.out, show okb = true by rw [HE3.out, decide_eq_false hn]; rfl]
      exact ⟨rfl, HS5.out, HK5.out⟩)
    clear HBAD
    go_wp2
    go_ret
    exact HF.out
abbrev liBox (bt bo : Nat) : Obj := .cells #[.func (Fn.func 100) #[] #[.pointer (some ⟨bt, 0, none⟩), .pointer (some ⟨bo, 0, none⟩)]] 126
theorem linV_nn (ws : List UInt8) (s : Sn) : 0 ≤ linV ws s := by
  unfold linV
  split
  · rename_i h
    unfold lnOk at h
    simp only [Bool.and_eq_true, Bool.not_eq_true', decide_eq_false_iff_not] at h
    omega
  · exact Int.le_refl _
theorem atoi_le {l : List UInt8} {v : Int} (h : Lib.atoiAll l = .ok v) : v ≤ 9223372036854775807 := by
  cases l with
  | nil => cases h
  | cons c r =>
    unfold Lib.atoiAll at h
    simp only at h
    split at h
    · cases h
    · cases h
    · split at h
      · cases h
      · split at h
        · cases h
        · rename_i u _ h1 h2
          injection h with h
          rw [← h]
          split
          · omega
          · rename_i h3
            have : ¬ 9223372036854775808 ≤ u := fun h4 => h1 ⟨h3, h4⟩
            omega
theorem linV_le (ws : List UInt8) (s : Sn) : linV ws s ≤ 9223372036854775807 := by
  unfold linV
  split
  · rename_i h
    unfold lnOk atoiE at h
    unfold atoiV
    cases ha : Lib.atoiAll (lnW ws (tilV s)) with
    | ok v => exact atoi_le ha
    | range => simp [ha] at h
    | _ => simp [ha] at h
  · decide
def SoPost (W : World) (B bb bo : Nat) (ws : List UInt8) (s : Sn) (e : Ending) (W' : World) : Prop := ∃ A n c, e = .returned (.slice A n c) ∧ Byt W' B A n c (somV ws s) ∧ SnB W' B bb bo (somS ws s) ∧ SbKeep bb bo W W'
set_option maxRecDepth 100000 in
set_option maxHeartbeats 4000000 in
theorem rdsome_any (W : World) (B bb bo bt bl : Nat) (s : Sn) (h : SnB W B bb bo s) (ht : W.heap[bt]? = some (tiBox bb bo)) (hl : W.heap[bl]? = some (liBox bt bo)) (ws : List UInt8) (hws : ws.length ≤ 1000) (hee : ∀ W', SbKeep bb bo W W' → ErrsAt W') : Calls Tryz.prog 103 #[.string ⟨ws.toArray⟩, .pointer (some ⟨bl, 0, none⟩), .pointer (some ⟨bb, 0, none⟩), .pointer (some ⟨bo, 0, none⟩)] W (SoPost W B bb bo ws s) := by
  have HLN := Lib.hid (rdline_any W B bb bo bt s h ht ws hws hee)
  have c0 : W.cell? ⟨bl, 0, none⟩ = some (.func (Fn.func 100) #[] #[.pointer (some ⟨bt, 0, none⟩), .pointer (some ⟨bo, 0, none⟩)]) := (cell_of_row W bl 0 _ _ (0, 0) hl).trans rfl
  have HSO := Lib.hid (show somS ws s = (if ((linS ws s).b.length : Int) < linV ws s then ⟨(linS ws s).b, false⟩ else ⟨(linS ws s).b.drop (linV ws s).toNat, (linS ws s).ok⟩) ∧ somV ws s = (if ((linS ws s).b.length : Int) < linV ws s then [] else (linS ws s).b.take (linV ws s).toNat) from ⟨rfl, rfl⟩)
  have hnn := linV_nn ws s
  clear h ht hl hee
  go_enter Tryz.func103, Tryz.ntmps103
  go_wp2_with fail
  with_reducible refine HLN.out.mono ?_
  rintro r W1 ⟨rfl, h1, hk1⟩
  have HS := Lib.hid h1; have HK := Lib.hid hk1
  clear HLN c0 hk1
  obtain ⟨k, hk⟩ : ∃ k : Nat, linV ws s = k := ⟨(linV ws s).toNat, by omega⟩
  rw [hk] at HSO
  rw [hk]
  clear hnn hk
  generalize linS ws s = T at *
  obtain ⟨A, n, c, g1, g2, g3⟩ := h1.b
  have hlen := g2.len
  have hcap := g2.cap
  have hmax := g2.max
  unfold maxLen at hmax
  have hnum := h1.num
  have c0 : W1.cell? ⟨bb, 0, none⟩ = some (.slice A n c) := (cell_of_row W1 bb 0 _ _ (0, 0) g1).trans rfl
  have f0 := frozen_of_row W1 bb 0 _ _ g1
  have c1 : W1.cell? ⟨bo, 0, none⟩ = some (.bool T.ok) := (cell_of_row W1 bo 0 _ _ (0, 0) h1.ok).trans rfl
  have f1 := frozen_of_row W1 bo 0 _ _ h1.ok
  have HG := Lib.hid g2
  clear h1 g1
  by_cases hkn : n < k
  · have HF := Lib.hid (show SoPost W B bb bo ws s (.returned (.slice none 0 0)) (W1.setCell ⟨bo, 0, none⟩ (.bool false)) from by
      have e : ((T.b.length : Nat) : Int) < (k : Int) := by omega
      unfold SoPost
      rw [HSO.out.1, HSO.out.2, if_pos e, if_pos e]
      exact ⟨none, 0, 0, rfl, Byt.nil _ _ _ _ (Nat.zero_le _), HS.out.bad, HK.out.o _⟩)
    have t1 : (n : Int) < k := by omega
    clear HSO g2 hlen
    go_wp2
    go_ret
    exact HF.out
  · have HF0 := Lib.hid (show ∀ A2 n2 c2, Byt W1 B A2 n2 c2 (T.b.drop k) → (A2 = none → c2 = 0) → SoPost W B bb bo ws s (.returned (.slice A k c)) (W1.setCell ⟨bb, 0, none⟩ (.slice A2 n2 c2)) from fun A2 n2 c2 q1 q2 => by
      have e : ¬ ((T.b.length : Nat) : Int) < (k : Int) := by omega
      unfold SoPost
      rw [HSO.out.1, HSO.out.2, if_neg e, if_neg e, Int.toNat_natCast]
      exact ⟨A, k, c, rfl, (HG.out.take k (by omega)).setCell HS.out.hb _, HS.out.set q1 q2 (by rw [List.length_drop]; omega), HK.out.b _⟩)
    have t1 : ¬ (n : Int) < k := by omega
    cases A with
    | none =>
      obtain rfl := g3 rfl
      obtain rfl : n = 0 := by omega
      obtain rfl : k = 0 := by omega
      have HF := Lib.hid (HF0.out none 0 0 (by rw [List.drop_zero]; exact HG.out) (fun _ => rfl))
      clear HSO g2 hlen HF0
      go_wp2
      go_ret
      exact HF.out
    | some a =>
      by_cases hn0 : n = 0
      · subst hn0
        obtain rfl : k = 0 := by omega
        have HF1 := Lib.hid (HF0.out (some a) 0 c (by rw [List.drop_zero]; exact HG.out) (fun e => by cases e))
        clear HSO g2 hlen HF0
        go_wp2
        go_ret
        exact HF1.out
      obtain ⟨d, off, e, hd, _⟩ := g2.cell (by omega)
      injection e with e
      subst e
      have ht := g2.tail k (by omega)
      by_cases hck : c = k
      · rw [if_pos hck] at ht
        obtain rfl : n = k := by omega
        have HF := Lib.hid (HF0.out _ _ _ ht (fun e => by cases e))
        subst hck
        simp only [Nat.sub_self] at HF
        clear HSO g2 hlen HF0 ht
        go_wp2
        go_ret
        exact HF.out
      · rw [if_neg hck] at ht
        have HF := Lib.hid (HF0.out _ _ _ ht (fun e => by cases e))
        clear HSO g2 hlen HF0 ht
        go_wp2
        go_ret
        exact HF.out
end Go.Proofs.YtbejfgmdkmddnaaGreatDoor
namespace Go.Proofs.YtbejfgmdkmddnaaGreatDoor
open Go.RowKit Go.Maps Go.Sort

theorem SnB.upB {W W' : World} {B bb bo b0 : Nat} {s : Sn} (h : SnB W B bb bo s) (hb : Below b0 W W') (h1 : bb < b0) (h2 : bo < b0) : SnB W' B bb bo s := by
  obtain ⟨A, n, c, g1, g2, g3⟩ := h.b
  have := h.hb
  exact ⟨⟨A, n, c, (hb.block _ h1).trans g1, g2.below (hb.mono (by omega)), g3⟩, (hb.block _ h2).trans h.ok, h.hb, h.ho, h.ne, h.num⟩
def SEPost (W : World) (B bb bo : Nat) (ws : List UInt8) (s : Sn) (e : Ending) (W' : World) : Prop := ∃ v, e = .returned v ∧ OwnE W' W.heap.size v (evV ws s) ∧ SnB W' B bb bo (evS ws s) ∧ SbKeep bb bo W W'
def SERel (W : World) (B bb bo N : Nat) (T : Sn) (lv i : Value) (wr : World) : Prop :=
  ∃ (k : Nat) (cur : Sn) (L : List Ev), i = .int .i64 k ∧ k ≤ N ∧ SnB wr B bb bo cur ∧ OwnE wr W.heap.size lv L ∧ L.length + cur.b.length ≤ T.b.length ∧ evsR (N - k) cur L = evsR N T [] ∧ SbKeep bb bo W wr
theorem SbKeep.size {W W' : World} {bb bo : Nat} (h : SbKeep bb bo W W') : W.heap.size ≤ W'.heap.size := Keep.size h
theorem SbKeep.lo {W w2 w4 : World} {bb bo : Nat} (h : SbKeep bb bo W w2) (hb : Below W.heap.size w2 w4) : SbKeep bb bo W w4 :=
  ⟨hb.os.trans h.os, hb.tape.trans h.tape, hb.output.trans h.output, Nat.le_trans h.size hb.size, fun k hk hn => (hb.block k hk).trans (Keep.block h k hk hn)⟩
theorem own_set {W : World} {base n size : Nat} {e : TypeId} {v : Value} {xs : List Value} (h : W.ownsRow base e size v n xs) {p : Addr} (hp : p.block < base) (u : Value) : (W.setCell p u).ownsRow base e size v n xs :=
  ownsRow_keep h fun b hb => Below.heap_setCell _ _ _ _ (by have := (World.ownsRow.lt h b hb).1; omega)
set_option maxRecDepth 100000 in
set_option maxHeartbeats 4000000 in
theorem rdevs_any (W : World) (B bb bo bt bl : Nat) (s : Sn) (h : SnB W B bb bo s) (ht : W.heap[bt]? = some (tiBox bb bo)) (hl : W.heap[bl]? = some (liBox bt bo)) (ws : List UInt8) (hws : ws.length ≤ 1000) (hee : ∀ W', SbKeep bb bo W W' → ErrsAt W') (hmx : ∀ W', SbKeep bb bo W W' → MaxAt W') : Calls Tryz.prog 104 #[.string ⟨ws.toArray⟩, .pointer (some ⟨bl, 0, none⟩), .pointer (some ⟨bb, 0, none⟩), .pointer (some ⟨bo, 0, none⟩)] W (SEPost W B bb bo ws s) := by
  have HLN := Lib.hid (rdline_any W B bb bo bt s h ht ws hws hee)
  have c0 : W.cell? ⟨bl, 0, none⟩ = some (.func (Fn.func 100) #[] #[.pointer (some ⟨bt, 0, none⟩), .pointer (some ⟨bo, 0, none⟩)]) := (cell_of_row W bl 0 _ _ (0, 0) hl).trans rfl
  have HEV := Lib.hid (show evS ws s = (evsR (linV ws s).toNat (linS ws s) []).2 ∧ evV ws s = (evsR (linV ws s).toNat (linS ws s) []).1 from ⟨rfl, rfl⟩)
  have hnn := linV_nn ws s
  have hnx := linV_le ws s
  have HMX := Lib.hid hmx
  obtain ⟨hlb, hlo⟩ := h.lt
  clear h ht hl hee hmx
  obtain ⟨i0, hi0, hz0, hz1, hz2⟩ := info_parts ev_info
  have HIF := Lib.hid hi0; have HZ0 := Lib.hid hz0; have HZ1 := Lib.hid hz1; have HZ2 := Lib.hid hz2
  clear hi0 hz0 hz1 hz2
  go_enter Tryz.func104, Tryz.ntmps104
  go_wp2_with fail
  with_reducible refine HLN.out.mono ?_
  rintro r W1 ⟨rfl, h1, hk1⟩
  obtain ⟨N, hN⟩ : ∃ N : Nat, linV ws s = N := ⟨(linV ws s).toNat, by omega⟩
  rw [hN, Int.toNat_natCast] at HEV
  rw [hN]
  have HN1 := Lib.hid h1.num
  have HR0 := Lib.hid (show SERel W B bb bo N (linS ws s) (.slice none 0 0) (.int .i64 ((0 : Nat) : Int)) W1 from ⟨0, linS ws s, [], rfl, Nat.zero_le _, h1, World.ownsRow_nil _ _ _ _, by simp, rfl, hk1⟩)
  have hNx : N ≤ 9223372036854775807 := by omega
  clear hnn hnx hN HLN c0 h1 hk1
  generalize linS ws s = T at *
  go_wp2
  go_loopw [6, 13] (fun lv i wr => SERel W B bb bo N T lv i wr) (fun _ i _ => N - (intOf i).toNat)
  case atStart => exact HR0.out
  case round =>
    obtain ⟨k, cur, L, rfl, hk, hsb, hown, hlen, hev, hkp⟩ := hrel
    have HS := Lib.hid hsb; have HO := Lib.hid hown; have HK := Lib.hid hkp; have HE := Lib.hid hev
    obtain ⟨Al, kl, rfl⟩ := ownsRow_form hown
    obtain ⟨A, n, c, g1, g2, g3⟩ := hsb.b
    have hnum := hsb.num
    have hsz := hkp.size
    have c0 : wr.cell? ⟨bb, 0, none⟩ = some (.slice A n c) := (cell_of_row wr bb 0 _ _ (0, 0) g1).trans rfl
    have hln := g2.len
    have HG := Lib.hid g2; have HG3 := Lib.hid g3; have HBX0 := Lib.hid g1; have hblt := (Array.getElem?_eq_some_iff.1 g1).1
    have hB := hsb.hb
    clear hsb hown hkp hev HR0 g1 g2 g3
    by_cases hkN : k < N
    · have t1 : (k : Int) < N := by omega
      have HDE := Lib.hid (evdecg_any wr A n c cur.b (HG.out.more (by omega)) (by omega) (HMX.out _ HK.out))
      go_wp2_with fail
      with_reducible refine HDE.out.mono ?_
      rintro r w2 ⟨hd, hb2⟩
      have HS2 := Lib.hid (HS.out.up hb2)
      have HO2 := Lib.hid (ownsRow_below HO.out hb2 (Nat.le_refl _))
      have HK2 := Lib.hid (HK.out.trans (SbKeep.below hb2))
      have hs2 := hb2.size
      have c02 := (hb2.cell (p := ⟨bb, 0, none⟩) (by show bb < _; omega)).trans c0
      have HG2 := Lib.hid (HG.out.below (hb2.mono (by omega)))
      have HBX := Lib.hid ((hb2.block bb hblt).trans HBX0.out)
      clear HDE c0 hb2
      obtain ⟨q, hq⟩ : ∃ q, N - k = q + 1 := ⟨N - k - 1, by omega⟩
      have hev := HE.out
      rw [hq] at hev
      simp only [evsR] at hev
      cases hde : decE cur.b with
      | ok e rest =>
        rw [hde] at hd hev
        unfold Ev.agg at hd
        obtain ⟨k', rfl, hk', hdr⟩ := hd
        obtain ⟨hme, j, hj1, hj2, hj3⟩ := decE_ok hde
        simp only at hev
        have hrl : rest.length = n - j := by rw [hj3, List.length_drop, hln]
        have hkj : k' = j := by
          have h9 := congrArg List.length hdr
          rw [List.length_drop, hln, hrl] at h9
          omega
        subst hkj
        obtain ⟨d, off, hA, hd, _⟩ := HG2.out.cell (by omega)
        subst hA
        have HTL := Lib.hid (HG2.out.tail k' (by omega))
        rw [hdr] at HTL
        have HEV2 := Lib.hid hev
        have HI2 := Lib.hid (EvIn.new w2 e)
        have hbA : Below w2.heap.size w2 (w2.alloc (evObj e)) := (Below.refl _ _).alloc (Nat.le_refl _) _
        have HBA := Lib.hid hbA
        have hsA := hbA.size
        have hsA2 : w2.heap.size < (w2.alloc (evObj e)).heap.size := by simp
        have hn1 : k' ≤ n := by omega
        have hk1 : 1 ≤ k' := by omega
        clear hde hdr hj3 hev hbA HE
        go_upto_region 8 with fail
        generalize w2.alloc (evObj e) = w3 at *
        obtain ⟨e0, e1, e2, e3, e4, e5, e6, e7⟩ := HI2.out
        have HO3 := Lib.hid (ownsRow_below HO2.out HBA.out (Nat.le_refl _))
        go_wp2_with (at_builtin; refine wpList_app (P := Tryz.prog) rfl (.tmp 23) (.tmp 25) 22 rfl 31 i0 _ 8 96 Tryz.underlying22 HIF.out HZ0.out HZ1.out HZ2.out rfl (by decide) W.heap.size _ L.length (evCells L) rfl ?c1 (w3.heap.size + 1) _ _ _ e.cells rfl ?c2 (cells_one e) ?c4 ?c5 ?c6 ?_)
        case c1 => exact World.ownsRow.alloc HO3.out _
        case c2 => exact Cel.new w3 _ _ (by unfold maxLen; omega) rfl
        case c4 => unfold maxLen; have := HN1.out; omega
        case c5 => have := HN1.out; omega
        case c6 => first | omega | (simp; omega)
        intro v4 w4 ho4 hg4 hv4
        have ho5 : OwnE w4 W.heap.size v4 (L ++ [e]) := by unfold OwnE; rw [evCells_one, List.length_append]; exact ho4
        have hb4 : Below W.heap.size w2 w4 := ((HBA.out.mono (by omega)).alloc (by omega) _).grown hg4 (by simp; omega) (fun b hb => (World.ownsRow.lt HO3.out b hb).1)
        have HS4 := Lib.hid (HS2.out.upB hb4 hlb hlo)
        have HT4 := Lib.hid (HTL.out.below (hb4.mono (by have := HS2.out.hb; omega)))
        have HK4 := Lib.hid (HK2.out.lo hb4)
        obtain ⟨A4, k4, hv4x⟩ : ∃ A k, v4 = .slice A (L.length + 1) k := by obtain ⟨A, k, h⟩ := ownsRow_form ho5; exact ⟨A, k, by simpa using h⟩
        subst hv4x
        have HO5 := Lib.hid ho5
        have g1 : w4.heap[bb]? = some (byBox (.slice (some ⟨d, off, none⟩) n c)) := (hb4.block bb hlb).trans HBX.out
        have c04 : w4.cell? ⟨bb, 0, none⟩ = some (.slice (some ⟨d, off, none⟩) n c) := (cell_of_row w4 bb 0 _ _ (0, 0) g1).trans rfl
        have f04 := frozen_of_row w4 bb 0 _ _ g1
        have HRR := Lib.hid (show ∀ A2 c2, Byt w4 B A2 (n - k') c2 rest → (A2 = none → c2 = 0) → SERel W B bb bo N T (.slice A4 (L.length + 1) k4) (.int .i64 ((k + 1 : Nat) : Int)) (w4.setCell ⟨bb, 0, none⟩ (.slice A2 (n - k') c2)) from fun A2 c2 q1 q2 =>
          ⟨k + 1, ⟨rest, cur.ok⟩, L ++ [e], rfl, hkN, HS4.out.set q1 q2 (by omega), own_set HO5.out (p := ⟨bb, 0, none⟩) hlb _, by rw [List.length_append, List.length_singleton]; simp only; omega, by rw [show N - (k + 1) = q by omega]; exact HEV2.out, HK4.out.b _⟩)
        clear ho4 ho5 hg4 hv4 e0 e1 e2 e3 e4 e5 e6 e7 g1 hb4 HO3 HO2 c02
        by_cases hck : c = k'
        · have h9 := HT4.out
          rw [if_pos hck] at h9
          obtain rfl : n = k' := by have := h9.len; have := HG2.out.cap; omega
          have HF := Lib.hid (HRR.out _ _ h9 (fun e => by cases e))
          subst hck
          simp only [Nat.sub_self] at HF
          clear HRR h9 HT4
          go_wp2
          go_roundw
          case rel => exact HF.out
          case measure => simp [intOf]; omega
        · have h9 := HT4.out
          rw [if_neg hck] at h9
          have HF := Lib.hid (HRR.out _ _ h9 (fun e => by cases e))
          clear HRR h9 HT4
          go_wp2
          go_roundw
          case rel => exact HF.out
          case measure => simp [intOf]; omega
      | torn =>
        rw [hde] at hd hev
        simp only at hev
        unfold evZV at hd
        subst hd
        have HF := Lib.hid (show SEPost W B bb bo ws s (.returned (.slice none 0 0)) ((w2.alloc (evObj ⟨[], 0, 0, 0, [], [], 0, []⟩)).setCell ⟨bo, 0, none⟩ (.bool false)) from by
          have hbA : Below w2.heap.size w2 (w2.alloc (evObj ⟨[], 0, 0, 0, [], [], 0, []⟩)) := (Below.refl _ _).alloc (Nat.le_refl _) _
          unfold SEPost
          rw [HEV.out.1, HEV.out.2, ← hev]
          exact ⟨_, rfl, World.ownsRow_nil _ _ _ _, (HS2.out.up hbA).bad, (HK2.out.trans (SbKeep.below hbA)).o _⟩)
        have hbA : Below w2.heap.size w2 (w2.alloc (evObj ⟨[], 0, 0, 0, [], [], 0, []⟩)) := (Below.refl _ _).alloc (Nat.le_refl _) _
        have g1 := (HS2.out.up hbA).ok
        have c1 : (w2.alloc (evObj ⟨[], 0, 0, 0, [], [], 0, []⟩)).cell? ⟨bo, 0, none⟩ = some (.bool cur.ok) := (cell_of_row (w2.alloc (evObj ⟨[], 0, 0, 0, [], [], 0, []⟩)) bo 0 _ _ (0, 0) g1).trans rfl
        have f1 := frozen_of_row (w2.alloc (evObj ⟨[], 0, 0, 0, [], [], 0, []⟩)) bo 0 _ _ g1
        clear hev hde hbA g1
        go_upto_region 5 with fail
        change Code.wp _ _ _ _ (w2.alloc (evObj ⟨[], 0, 0, 0, [], [], 0, []⟩))
        generalize w2.alloc (evObj ⟨[], 0, 0, 0, [], [], 0, []⟩) = w3 at *
        go_wp2
        go_ret
        exact HF.out
      | form =>
        rw [hde] at hd hev
        simp only at hev
        unfold evZV at hd
        subst hd
        have HF := Lib.hid (show SEPost W B bb bo ws s (.returned (.slice none 0 0)) ((w2.alloc (evObj ⟨[], 0, 0, 0, [], [], 0, []⟩)).setCell ⟨bo, 0, none⟩ (.bool false)) from by
          have hbA : Below w2.heap.size w2 (w2.alloc (evObj ⟨[], 0, 0, 0, [], [], 0, []⟩)) := (Below.refl _ _).alloc (Nat.le_refl _) _
          unfold SEPost
          rw [HEV.out.1, HEV.out.2, ← hev]
          exact ⟨_, rfl, World.ownsRow_nil _ _ _ _, (HS2.out.up hbA).bad, (HK2.out.trans (SbKeep.below hbA)).o _⟩)
        have hbA : Below w2.heap.size w2 (w2.alloc (evObj ⟨[], 0, 0, 0, [], [], 0, []⟩)) := (Below.refl _ _).alloc (Nat.le_refl _) _
        have g1 := (HS2.out.up hbA).ok
        have c1 : (w2.alloc (evObj ⟨[], 0, 0, 0, [], [], 0, []⟩)).cell? ⟨bo, 0, none⟩ = some (.bool cur.ok) := (cell_of_row (w2.alloc (evObj ⟨[], 0, 0, 0, [], [], 0, []⟩)) bo 0 _ _ (0, 0) g1).trans rfl
        have f1 := frozen_of_row (w2.alloc (evObj ⟨[], 0, 0, 0, [], [], 0, []⟩)) bo 0 _ _ g1
        clear hev hde hbA g1
        go_upto_region 5 with fail
        change Code.wp _ _ _ _ (w2.alloc (evObj ⟨[], 0, 0, 0, [], [], 0, []⟩))
        generalize w2.alloc (evObj ⟨[], 0, 0, 0, [], [], 0, []⟩) = w3 at *
        go_wp2
        go_ret
        exact HF.out
    · have t1 : ¬ (k : Int) < N := by omega
      have HF := Lib.hid (show SEPost W B bb bo ws s (.returned (.slice Al L.length kl)) wr from by
        have hev := HE.out
        rw [show N - k = 0 by omega] at hev
        simp only [evsR] at hev
        unfold SEPost
        rw [HEV.out.1, HEV.out.2, ← hev]
        exact ⟨_, rfl, HO.out, HS.out, HK.out⟩)
      go_wp2
      go_ret
      exact HF.out
end Go.Proofs.YtbejfgmdkmddnaaGreatDoor
