/-
  Layer 3: what frame.Seal gives.
  Layer 5: a journal's file, fail, sync; an entry's seal.
-/
import Derived.Test.YtejjfhhppjdcaaaGreatDoorBFrmWalk
import Derived.Test.YtejjfhhppjdcaaaGreatDoorBBytes
import Derived.Test.YtejjfhhppjdcaaaGreatDoorBJl
import Derived.Test.YtejjfhhppjdcaaaGreatDoorBEvEnc2
import Derived.Deep.DeepCutAuto
import Derived.StillTailTactics
namespace Go.Proofs.YtejjfhhppjdcaaaGreatDoor
open Go.RowKit

theorem seal_long (w : World) (A : Option Addr) (n c : Nat) (hn : 65536 < n) (hm : n ≤ maxLen) :
    Calls Tryz.prog 134 #[.slice A n c] w fun e w' => e = .returned (.tuple #[.slice none 0 0, .int .i64 9]) ∧ w = w' := by
  unfold maxLen at hm
  go_enter Tryz.func134, Tryz.ntmps134
  go_wp2
  go_ret2
  exact ⟨rfl, rfl⟩

def SealPost (w : World) (l : List UInt8) (e : Ending) (w' : World) : Prop :=
  ∃ v, e = .returned (.tuple #[v, .int .i64 0]) ∧ OwnB w' w.heap.size v (Frm.sealB l) ∧ Below w.heap.size w w'

set_option maxRecDepth 100000 in
set_option maxHeartbeats 1000000 in
theorem seal_any (w : World) (A : Option Addr) (n c : Nat) (l : List UInt8) (h : Byt w w.heap.size A n c l) (hn : n ≤ 65536) :
    Calls Tryz.prog 134 #[.slice A n c] w (SealPost w l) := by
  have HH := Lib.hid h; clear h
  obtain ⟨i0, hi, hz0, hz1, hz2⟩ := info_parts u8_info
  go_enter Tryz.func134, Tryz.ntmps134
  go_wp2_with (at_make; refine wpList_make_own _ rfl _ _ 41 rfl w.heap.size 5 i0 (.int .u8 0) 1 Tryz.underlying41 hi hz0 hz1 _ _ _ (6 + n + 4) rfl rfl ?c1 ?c2 ?c3 (Nat.le_refl _) ?_)
  case c1 => omega
  case c2 => rw [hz2]; omega
  case c3 => unfold maxLen; omega
  intro w1 hown1 hg1
  have hsz : w.heap.size + 1 ≤ w1.heap.size := (hown1.lt _ rfl).2
  have HO1 := Lib.hid hown1; clear hown1
  have HG1 := Lib.hid hg1; clear hg1
  clear hi hz0 hz1 hz2
  go_wp2_with (at_builtin; refine wpList_app8 rfl (.tmp 26) (.tmp 36) rfl w.heap.size _ [] rfl ?c1 (w1.heap.size + 1) _ _ _ (Frm.be3 n ++ (Frm.be3 n).map (255 - ·)) rfl ?c2 ?c3 ?c4 ?_)
  case c1 => exact OwnB.alloc (l := []) HO1.out _
  case c2 => exact Byt.new w1 _ _ _ (by simp [Frm.be3, Frm.u8_toNat, Frm.sub255]; omega) 6 rfl (by unfold maxLen; omega)
  case c3 => simp
  case c4 => simp; omega
  intro v2 w2 hown2 hg2 _
  have hb1 : Below w.heap.size w w1 := Below.grown (Below.refl _ _) HG1.out (Nat.le_refl _) (by simp)
  have hb2 : Below w.heap.size w w2 := Below.grown (hb1.alloc (by omega) _) hg2 (by simp; omega) (by intro k hk; simp [Value.ownBlock] at hk; omega)
  have HO2 := Lib.hid hown2; clear hown2 hg2
  have hs2 := hb2.size
  go_wp2_with (at_builtin; refine wpList_app8 rfl (.tmp 38) (.tmp 39) rfl w.heap.size _ _ rfl HO2.out w.heap.size _ _ _ l rfl (HH.out.below hb2) ?c3 hs2 ?_)
  case c3 => simp [Frm.be3]; omega
  intro v3 w3 hown3 hg3 _
  have hb3 : Below w.heap.size w w3 := Below.grown hb2 hg3 hs2 HO2.out.lt
  have hs3 := hb3.size
  have hf : Frm.be3 n ++ ((Frm.be3 n).map (255 - ·) ++ l) = Frm.front l := by unfold Frm.front; rw [HH.out.len, List.append_assoc]
  rw [hf] at hown3
  obtain ⟨A3, c3, hv3⟩ := hown3.form
  have hl3 : (Frm.front l).length = n + 6 := by rw [Frm.front_length, HH.out.len]
  rw [hl3] at hv3
  rw [hv3] at hown3 ⊢
  have HO3 := Lib.hid hown3
  clear hown3 hg3 hf hl3 hv3 HO2 hs2
  have hlt := Frm.asum_lt (Frm.front l)
  have hfl := Frm.front_length l
  have hll := HH.out.len
  have HFL := Lib.hid hfl
  have HLL := Lib.hid hll
  clear hfl hll
  go_wp2_with fail
  refine (sum_any w3 _ A3 (n + 6) c3 (Frm.front l) HO3.out.byt (by omega)).mono ?_
  rintro e w' ⟨rfl, rfl⟩
  generalize hs : Frm.asum (Frm.front l) = s at *
  have HS := Lib.hid hs; clear hs
  go_wp2_with (at_builtin; refine wpList_app8 rfl (.tmp 43) (.tmp 55) rfl w.heap.size _ (Frm.front l) rfl ?c1 (w3.heap.size + 1) _ _ _ (Frm.be4 s) rfl ?c2 ?c3 ?c4 ?_)
  case c1 => exact OwnB.alloc HO3.out _
  case c2 => exact Byt.new w3 _ _ _ (by simp [Frm.be4, Frm.u8_toNat]; omega) 4 rfl (by unfold maxLen; omega)
  case c3 => rw [HFL.out, HLL.out]; omega
  case c4 => simp; omega
  intro v4 w4 hown4 hg4 _
  have hb4 : Below w.heap.size w w4 := Below.grown (hb3.alloc hs3 _) hg4 (by simp; omega) HO3.out.lt
  clear hg4
  go_wp2
  go_ret2
  refine ⟨v4, rfl, ?_, hb4⟩
  unfold Frm.sealB
  rw [HS.out]
  exact hown4
end Go.Proofs.YtejjfhhppjdcaaaGreatDoor
namespace Go.Proofs.YtejjfhhppjdcaaaGreatDoor
open Go.RowKit Go.Maps Go.Sort

theorem OwnB.up {w w' : World} {base : Nat} {v : Value} {l : List UInt8} (h : OwnB w base v l) (hb : Below w.heap.size w w') : OwnB w' base v l := h.below hb (Nat.le_refl _)
def FilePostJ (w : World) (s : List UInt8) (e : Ending) (w' : World) : Prop := e = .returned (.string ⟨s.toArray⟩) ∧ ∃ q, w' = w.drewN q
set_option maxRecDepth 100000 in
theorem jlfile_any (w : World) (bj : Nat) (s : List UInt8) (hc : w.cell? ⟨bj, 1, none⟩ = some (.string ⟨s.toArray⟩)) (hs : s.length ≤ 1000000) (k : Nat) (hk : k < 100) :
    Calls Tryz.prog 64 #[.pointer (some ⟨bj, 0, none⟩), .int .i64 k] w (FilePostJ w (segF s k)) := by
  have HS := Lib.hid (show (⟨s.toArray⟩ : ByteArray) ++ ⟨#[46]⟩ ++ ⟨(Lib.decDigits k).toArray⟩ = ⟨(segF s k).toArray⟩ by
    have e : (⟨#[46]⟩ : ByteArray) = ⟨[(46 : UInt8)].toArray⟩ := rfl
    rw [e, str_app, str_app]; simp [segF])
  have t1 : ¬ 9223372036854775807 < s.length + 1 := by omega
  have hd2 := (digits_two hk).2
  have t2 : ¬ 9223372036854775807 < s.length + 1 + (Lib.decDigits k).length := by omega
  go_enter Tryz.func64, Tryz.ntmps64
  go_wp2
  go_still_tail 8, (by kernel_rfl)
  still_call (Tryz.strconv_Itoa_small k hk _)
  repeat still_step
  refine wpStill_nil ?_
  change wpList _ _ _ _ _ (w.drewN 1)
  go_wp2
  go_ret
  exact ⟨congrArg (fun b => Ending.returned (.string b)) HS.out, 1, rfl⟩
abbrev entObj (x : Option Ev) : Obj := .cells #[.string ⟨(entE x).src.toArray⟩, .int .i64 (entE x).num, .int .i64 (entE x).at_, .int .i64 (entE x).kind, .string ⟨(entE x).per.toArray⟩, .string ⟨(entE x).item.toArray⟩, .int .i64 (entE x).val, .string ⟨(entE x).text.toArray⟩, .bool x.isNone] 109
/-- an entry lies at a block's head -/
def EntIn (w : World) (b : Nat) (x : Option Ev) : Prop :=
  w.cell? ⟨b, 0, none⟩ = some (.string ⟨(entE x).src.toArray⟩) ∧ w.cell? ⟨b, 1, none⟩ = some (.int .i64 (entE x).num) ∧ w.cell? ⟨b, 2, none⟩ = some (.int .i64 (entE x).at_) ∧ w.cell? ⟨b, 3, none⟩ = some (.int .i64 (entE x).kind) ∧
  w.cell? ⟨b, 4, none⟩ = some (.string ⟨(entE x).per.toArray⟩) ∧ w.cell? ⟨b, 5, none⟩ = some (.string ⟨(entE x).item.toArray⟩) ∧ w.cell? ⟨b, 6, none⟩ = some (.int .i64 (entE x).val) ∧ w.cell? ⟨b, 7, none⟩ = some (.string ⟨(entE x).text.toArray⟩) ∧ w.cell? ⟨b, 8, none⟩ = some (.bool x.isNone)
theorem EntIn.new (w : World) (x : Option Ev) : EntIn (w.alloc (entObj x)) w.heap.size x := by
  have key : ∀ o, (w.alloc (entObj x)).cell? ⟨w.heap.size, o, none⟩ = _ := fun o => cell_of_row _ w.heap.size o _ _ (0, 0) (heap_alloc_new w (entObj x))
  exact ⟨(key 0).trans rfl, (key 1).trans rfl, (key 2).trans rfl, (key 3).trans rfl, (key 4).trans rfl, (key 5).trans rfl, (key 6).trans rfl, (key 7).trans rfl, (key 8).trans rfl⟩
theorem EntIn.keepB {w w' : World} {b : Nat} {x : Option Ev} (h : EntIn w b x) (hb : w'.heap[b]? = w.heap[b]?) : EntIn w' b x := by
  obtain ⟨h0, h1, h2, h3, h4, h5, h6, h7, h8⟩ := h
  have key : ∀ (o : Nat) u, w.cell? ⟨b, o, none⟩ = some u → w'.cell? ⟨b, o, none⟩ = some u := fun o u hu => (World.cell?_of_block (w := w) (a := ⟨b, o, none⟩) hb).trans hu
  exact ⟨key _ _ h0, key _ _ h1, key _ _ h2, key _ _ h3, key _ _ h4, key _ _ h5, key _ _ h6, key _ _ h7, key _ _ h8⟩
def SealP (w : World) (l : List UInt8) (e : Ending) (w' : World) : Prop := ∃ v, e = .returned v ∧ OwnB w' w.heap.size v l ∧ Below w.heap.size w w'
set_option maxRecDepth 100000 in
set_option maxHeartbeats 2000000 in
theorem jseal_any (w : World) (x : Option Ev) (hx : ∀ e, x = some e → mayB e = true) (hmx : MaxAt w) : Calls Tryz.prog 104 #[entAgg x] w (SealP w (sealE x)) := by
  have HMX := Lib.hid hmx; clear hmx
  have hb0 : Below w.heap.size w (w.alloc (entObj x)) := (Below.refl _ _).alloc (Nat.le_refl _) _
  obtain ⟨f0, f1, f2, f3, f4, f5, f6, f7, f8⟩ := EntIn.new w x
  have HX := Lib.hid hx
  have HB0 := Lib.hid hb0
  clear hx hb0
  cases hxn : x.isNone
  · obtain ⟨e, rfl⟩ : ∃ e, x = some e := by cases x with
      | none => simp at hxn
      | some e => exact ⟨e, rfl⟩
    have hm := HX.out e rfl
    have HE := Lib.hid (show Frm.sealB (encE e) = sealE (some e) from rfl)
    have hel := (mayB_fit hm).len
    have HEN := Lib.hid (evenc_any (w.alloc (entObj (some e))) e hm (HMX.out.up HB0.out))
    have hagg : e.agg = .agg #[.string ⟨e.src.toArray⟩, .int .i64 e.num, .int .i64 e.at_, .int .i64 e.kind, .string ⟨e.per.toArray⟩, .string ⟨e.item.toArray⟩, .int .i64 e.val, .string ⟨e.text.toArray⟩] := rfl
    rw [hagg] at HEN
    simp only [entE, Option.getD_some] at *
    rw [hxn] at f8
    clear hagg hm HX
    go_enter Tryz.func104, Tryz.ntmps104
    go_wp2_with fail
    refine HEN.out.mono ?_
    rintro r w1 ⟨v1, rfl, ho1, hb1⟩
    have hbw1 : Below w.heap.size w w1 := HB0.out.trans (hb1.mono HB0.out.size)
    obtain ⟨A1, c1, hv1⟩ := ho1.form
    subst hv1
    have hby := ho1.byt
    have HBY := Lib.hid hby
    clear f0 f1 f2 f3 f4 f5 f6 f7 f8 hby ho1 hb1 HEN
    go_wp2_with fail
    with_reducible refine (seal_any w1 A1 _ c1 (encE e) HBY.out (by omega)).mono ?_
    rintro r w2 ⟨v2, rfl, ho2, hb2⟩
    have HR := Lib.hid (show SealP w (sealE (some e)) (.returned v2) w2 from ⟨v2, rfl, by rw [← HE.out]; exact ho2.base_le hbw1.size, hbw1.trans (hb2.mono hbw1.size)⟩)
    clear ho2 hb2
    go_wp2
    go_ret
    exact HR.out
  · obtain rfl : x = none := by cases x with
      | none => rfl
      | some e => simp at hxn
    have HE := Lib.hid (show Frm.sealB [] = sealE none from rfl)
    rw [hxn] at f8
    go_enter Tryz.func104, Tryz.ntmps104
    clear f0 f1 f2 f3 f4 f5 f6 f7
    go_wp2_with fail
    refine (seal_any (w.alloc (entObj none)) none 0 0 [] (Byt.nil _ _ _ _ (by unfold maxLen; omega)) (by omega)).mono ?_
    rintro r w2 ⟨v2, rfl, ho2, hb2⟩
    have HR := Lib.hid (show SealP w (sealE none) (.returned v2) w2 from ⟨v2, rfl, by rw [← HE.out]; exact ho2.base_le HB0.out.size, HB0.out.trans (hb2.mono HB0.out.size)⟩)
    clear ho2 hb2
    go_wp2
    go_ret
    exact HR.out
end Go.Proofs.YtejjfhhppjdcaaaGreatDoor
