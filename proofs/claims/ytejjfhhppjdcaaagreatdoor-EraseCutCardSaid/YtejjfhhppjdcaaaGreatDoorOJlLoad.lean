/-
  Layer 5: the entries of a file's bytes are taken.
-/
import Derived.Test.YtejjfhhppjdcaaaGreatDoorOJlFind
import Derived.Test.YtejjfhhppjdcaaaGreatDoorORd3
import Derived.Test.YtejjfhhppjdcaaaGreatDoorOFrmAll
import Derived.Test.YtejjfhhppjdcaaaGreatDoorOStepApp
import Derived.Test.YtejjfhhppjdcaaaGreatDoorOJlLd0
import Derived.ScopeJumps
import Derived.WalkMore
namespace Go.Proofs.YtejjfhhppjdcaaaGreatDoor
open Go.RowKit Go.Maps Go.Sort Go.Shelf

def LdRel (w1 : World) (G F : Nat → Prop) (bj bd : Nat) (j : Jl) (xs : List (Option Ev)) (i : Value) (W : World) : Prop :=
  ∃ (k : Nat) (v' : Value) (F' : Nat → Prop), i = .int .i64 k ∧ k ≤ xs.length ∧ LdS w1 G F F' bj bd v' { j with es := j.es ++ xs.take k } W
/-- what frame.All has left: the payloads, wherever the journal goes on -/
structure LdF (w w1 : World) (F : Nat → Prop) (A9 : Option Addr) (z c9 : Nat) (xs : List (Option Ev)) : Prop where
  be : RowKit.Below w.heap.size w w1
  zl : z = xs.length
  pay : ∀ W, Keep F w1 W → ∀ (k : Nat) (hk : k < xs.length), ∃ b off Ap np cp, A9 = some ⟨b, off, none⟩ ∧ W.cell? ⟨b, off + k, none⟩ = some (.slice Ap np cp) ∧ Byt W W.heap.size Ap np cp (bytesE xs[k]) ∧ np ≤ 1000000
def LdJ (w : World) (G F : Nat → Prop) (bj bd : Nat) (j : Jl) (xs : List (Option Ev)) (A : Option Addr) (n c : Nat) (last : Bool) (en : Int) (st : Nat) (a : Act) (W : World) : Prop :=
  ∃ (w1 : World) (A9 : Option Addr) (z c9 : Nat) (u3 u4 u5 u13 u14 u15 u16 u17 u18 u19 u20 u21 u22 u23 u24 u25 u26 u27 u28 u29 u30 u31 u32 u33 u34 u35 u36 u37 u38 u39 u40 u41 u42 u43 u44 u45 u46 u47 u48 u49 u50 u51 u52 u53 u54 u55 u56 u57 u58 u59 u60 u61 u62 u63 u64 u65 u66 u67 u68 u69 u70 u71 u72 u73 u74 u75 u76 u77 u78 u79 u80 u81 u82 u83 u84 u85 u86 u87 u88 u89 u90 u91 u92 u93 u94 i : Value), LdF w w1 F A9 z c9 xs ∧ a = { tmps := List.toArray ((.pointer (some ⟨bj, 0, none⟩)) :: (.slice A n c) :: (.bool last) :: u3 :: u4 :: u5 :: (.int .i64 0) :: (.int .i64 0) :: (.int .i64 0) :: (.slice A9 z c9) :: (.int .i64 en) :: (.int .i64 (st : Int)) :: (i) :: u13 :: u14 :: u15 :: u16 :: u17 :: u18 :: u19 :: u20 :: u21 :: u22 :: u23 :: u24 :: u25 :: u26 :: u27 :: u28 :: u29 :: u30 :: u31 :: u32 :: u33 :: u34 :: u35 :: u36 :: u37 :: u38 :: u39 :: u40 :: u41 :: u42 :: u43 :: u44 :: u45 :: u46 :: u47 :: u48 :: u49 :: u50 :: u51 :: u52 :: u53 :: u54 :: u55 :: u56 :: u57 :: u58 :: u59 :: u60 :: u61 :: u62 :: u63 :: u64 :: u65 :: u66 :: u67 :: u68 :: u69 :: u70 :: u71 :: u72 :: u73 :: u74 :: u75 :: u76 :: u77 :: u78 :: u79 :: u80 :: u81 :: u82 :: u83 :: u84 :: u85 :: u86 :: u87 :: u88 :: u89 :: u90 :: u91 :: u92 :: u93 :: u94 :: []), defers := [] } ∧ LdRel w1 G F bj bd j xs i W
def LdPost (w : World) (G F : Nat → Prop) (bj bd : Nat) (j : Jl) (xs : List (Option Ev)) (en : Int) (st : Nat) (r : Ending) (w' : World) : Prop :=
  r = .returned (.tuple #[.int .i64 en, .int .i64 st, .int .i64 0]) ∧ ∃ v' F', JlAt w' G F' bj bd v' { j with es := j.es ++ xs } ∧ (∀ b, F' b → F b ∨ w.heap.size ≤ b) ∧ Keep F w w'
set_option maxRecDepth 100000 in
set_option maxHeartbeats 8000000 in
theorem jlload_any (w : World) (G F : Nat → Prop) (bj bd : Nat) (v : Value) (j : Jl) (h : JlAt w G F bj bd v j) (A : Option Addr) (n c : Nat) (l : List UInt8) (hb : Byt w w.heap.size A n c l) (hn : n ≤ 1000000) (last : Bool) (xs : List (Option Ev)) (st : Nat)
    (hp : (Frm.allB l).1 = xs.map bytesE) (hst : (Frm.allB l).2.2 = st) (hs2 : st ≠ 2) (hmay : ∀ e, some e ∈ xs → mayB e = true) (hper : xs.length ≤ j.per) (hlast : last = true ∨ (st ≠ 1 ∧ j.per ≤ xs.length)) (hpb : j.per ≤ 4096) (hes : j.es.length ≤ 1000) (hmx : MaxAt w) (hml : ¬ F 1) :
    Calls Tryz.prog 65 #[.pointer (some ⟨bj, 0, none⟩), .slice A n c, .bool last] w (LdPost w G F bj bd j xs (Frm.allB l).2.1 st) := by
  obtain ⟨c0, c1, c2, c3, c4, c5, c6⟩ := h.cells
  have HJ := Lib.hid h; have HMX := Lib.hid hmx; have HMY := Lib.hid hmay; have HML := Lib.hid hml
  have hall := all_any w A n c l hb hn
  unfold AllPost at hall
  rw [hst, hp] at hall
  have HAL := Lib.hid hall
  obtain ⟨en, hen⟩ : ∃ en : Int, en = (Frm.allB l).2.1 := ⟨_, rfl⟩
  rw [← hen] at HAL ⊢
  have HLT := Lib.hid h.lt
  have hbj := h.lt _ h.fj
  clear hall hp hst hen hmay hmx hml h
  go_enter Tryz.func65, Tryz.ntmps65
  go_wp2

  refine wp_scope_jumps 0 (fun a W => LdJ w G F bj bd j xs A n c last en st a W) (fun a _ => (xs.length - (intOf (a.tmps.getD 12 undef)).toNat)) rfl ?first ?pass
  case first =>
    have hs2i : ((st : Int) == 2) = false := by simp; omega
    go_wp2_with fail
    refine HAL.out.mono ?_
    rintro r w1 ⟨v9, vs, rfl, hrow, hbs, hb1⟩
    obtain ⟨A9, c9, h9⟩ := ownsRow_form hrow
    subst h9
    have hvl : vs.length = xs.length := by have := hbs.1; rw [List.length_map] at this; exact this
    have HLF := Lib.hid (show LdF w w1 F A9 vs.length c9 xs from ⟨hb1, hvl, fun W hW k hk => by
      have hkv : k < vs.length := by omega
      have hlo : ∀ b, F b → b < w.heap.size := HLT.out
      have hA : ∀ b off, A9 = some ⟨b, off, none⟩ → ¬ F b := fun b off e hf => by
        rcases hrow.2 with ⟨e', _⟩ | ⟨g, cap, cur, e', hbg, _⟩
        · injection e' with e1 e2; omega
        · injection e' with e1 e2
          rw [e] at e1; injection e1 with e1; injection e1 with e1
          have := hlo b hf; omega
      obtain ⟨b, off, e, hb, hc⟩ := Cel.cell (Cel.keepG (Cel.of_own hrow) hA hW) (show 0 < vs.length by omega)
      have hov : OwnB w1 w.heap.size vs[k] (bytesE xs[k]) := hbs.2 k vs[k] (bytesE xs[k]) (List.getElem?_eq_getElem hkv) (by rw [List.getElem?_map, List.getElem?_eq_getElem hk]; rfl)
      obtain ⟨Ap, cp, hvp⟩ := hov.form
      have hcell := hc k vs[k] (List.getElem?_eq_getElem hkv)
      rw [hvp] at hcell hov
      refine ⟨b, off, Ap, (bytesE xs[k]).length, cp, e, hcell, Byt.keepG hov.byt (fun b off e hf => ?_) hW, ?_⟩
      · rcases hov.2 with ⟨e', _⟩ | ⟨g, cap, cur, e', hbg, _⟩
        · injection e' with e1 e2; rw [e1] at e; cases e
        · injection e' with e1 e2
          rw [e] at e1; injection e1 with e1; injection e1 with e1
          have := hlo b hf; omega
      · cases hxk : xs[k] with
        | none => simp [bytesE]
        | some e0 => have := (mayB_fit (HMY.out e0 (hxk ▸ List.getElem_mem hk))).len; show (encE e0).length ≤ 1000000; omega⟩)
    have HR0 := Lib.hid (show LdRel w1 G F bj bd j xs (.int .i64 0) w1 from ⟨0, v, F, rfl, Nat.zero_le _, by
      have := HJ.out.up hb1
      exact ⟨by simpa using this, fun b hb => .inl hb, Keep.refl _ _⟩⟩)
    rw [hvl] at HLF ⊢
    have e2 : w1.cell? ⟨bj, 2, none⟩ = some (.int .i64 j.per) := (hb1.cell (p := ⟨bj, 2, none⟩) hbj).trans c2
    have t1 : ¬ (j.per : Int) < xs.length := by omega
    clear hrow hbs c0 c1 c2 c3 c4 c5 c6
    go_upto_region 4 with fail
    go_cut [50] (fun v wc => v = .bool false ∧ w1 = wc)
    case first =>
      have t2 : last = true ∨ (last = false ∧ ((st : Int) == 1) = false ∧ ¬ (xs.length : Int) < j.per) := by
        cases last
        · rcases hlast with h | ⟨h3, h4⟩
          · cases h
          · exact .inr ⟨rfl, by simp; omega, by omega⟩
        · exact .inl rfl
      rcases t2 with rfl | ⟨rfl, t3, t4⟩
      all_goals
        go_wp2_with fail
        go_meet
        exact ⟨rfl, rfl⟩
    case rest =>
      obtain ⟨rfl, rfl⟩ := hcut
      go_upto_region 6 with fail
      go_wp2_with fail
      go_step3
      simp only [Exit.then]
      apply_assumption
      refine (fun (key : ∀ a W, LdJ w G F bj bd j xs A n c last en st a W → Code.wp Tryz.prog _ (Exit.jump 0 (fun a' W' => LdJ w G F bj bd j xs A n c last en st a' W' ∧ (xs.length - (intOf (a'.tmps.getD 12 undef)).toNat) < (xs.length - (intOf (a.tmps.getD 12 undef)).toNat)) (bodyPost Tryz.prog Tryz.f65 (LdPost w G F bj bd j xs en st))) a W) => Code.wp_mono (fun e a' W' h => ?mono) (key _ _ ?hj)) ?key
      case hj => exact ⟨w1, A9, xs.length, c9, _, _, _, _, _, _, _, _, _, _, _, _, _, _, _, _, _, _, _, _, _, _, _, _, _, _, _, _, _, _, _, _, _, _, _, _, _, _, _, _, _, _, _, _, _, _, _, _, _, _, _, _, _, _, _, _, _, _, _, _, _, _, _, _, _, _, _, _, _, _, _, _, _, _, _, _, _, _, _, _, _, _, _, _, _, _, HLF.out, rfl, HR0.out⟩
      case mono =>
        cases e with
        | goto l' => exact ⟨h.1, h.2.1⟩
        | _ => exact h
      case key =>
        clear HLF HR0 hvl e2 t1 hb1 hs2i
        rintro a W ⟨w1, A9, z, c9, u3, u4, u5, u13, u14, u15, u16, u17, u18, u19, u20, u21, u22, u23, u24, u25, u26, u27, u28, u29, u30, u31, u32, u33, u34, u35, u36, u37, u38, u39, u40, u41, u42, u43, u44, u45, u46, u47, u48, u49, u50, u51, u52, u53, u54, u55, u56, u57, u58, u59, u60, u61, u62, u63, u64, u65, u66, u67, u68, u69, u70, u71, u72, u73, u74, u75, u76, u77, u78, u79, u80, u81, u82, u83, u84, u85, u86, u87, u88, u89, u90, u91, u92, u93, u94, i, hlf, rfl, hrel⟩
        obtain ⟨k, v', F', rfl, hk, hs⟩ := hrel
        have HLF := Lib.hid hlf
        have HS := Lib.hid hs
        have hzl := hlf.zl
        subst hzl
        obtain ⟨c0, c1, c2, c3, c4, c5, c6⟩ := hs.jl.cells
        have hsz := hs.kp.size
        clear hlf hs
        by_cases hkx : k < xs.length
        · have t1 : (k : Int) < xs.length := by omega
          obtain ⟨b, off, Ap, np, cp, hA9, hpc, hpb2, hnp⟩ := HLF.out.pay W HS.out.kp k hkx
          subst hA9
          have HPB := Lib.hid hpb2
          have HT := Lib.hid (show xs.take (k + 1) = xs.take k ++ [xs[k]] by rw [List.take_add_one, List.getElem?_eq_getElem hkx, Option.toList_some])
          have HMX1 := Lib.hid (fun e (he : xs[k] = some e) => HMY.out e (he ▸ List.getElem_mem hkx))
          have hmm : xs[k] ∈ xs := List.getElem_mem hkx
          generalize xs[k] = x at *
          have hb2 : RowKit.Below W.heap.size W (W.alloc (entObj none)) := (Below.refl _ _).alloc (Nat.le_refl _) _
          have HX2 := Lib.hid (HS.out.up hb2)
          have HE2 := Lib.hid (heap_alloc_new W (entObj none))
          have HS2 := Lib.hid (show (W.alloc (entObj none)).heap.size = W.heap.size + 1 by simp)
          have hpl := World.block_lt_of_cell? W ⟨b, off + k, none⟩ hpc
          have q2 : (W.alloc (entObj none)).cell? ⟨b, off + k, none⟩ = some (.slice Ap np cp) := (hb2.cell (p := ⟨b, off + k, none⟩) hpl).trans hpc
          have HPB2 := Lib.hid (show Byt (W.alloc (entObj none)) (W.alloc (entObj none)).heap.size Ap np cp (bytesE x) from (HPB.out.below hb2).more hb2.size)
          have HMX2 := Lib.hid (show MaxAt (W.alloc (entObj none)) from by
            have h1 : Keep F w W := (Keep.of_below (F := F) HLF.out.be).trans HS.out.kp (fun _ _ h => h)
            obtain ⟨mm, hmm2⟩ := HMX.out
            exact MaxAt.up ⟨mm, (h1.cell (p := ⟨1, 0, none⟩) (MaxAt.lt ⟨mm, hmm2⟩) HML.out).trans hmm2⟩ hb2)
          have HNB := Lib.hid (show ¬ G W.heap.size ∧ ¬ F' W.heap.size from ⟨fun h => by have := HS.out.jl.dk.lt _ h; omega, fun h => by have := HS.out.jl.lt _ h; omega⟩)
          go_upto_region 9 with fail
          obtain ⟨w2, hw2⟩ : ∃ w2, w2 = W.alloc (entObj none) := ⟨_, rfl⟩
          rw [← hw2] at HX2 HE2 HS2 q2 HPB2 HMX2
          rw [show W.alloc (.cells #[.string ⟨#[]⟩, .int .i64 0, .int .i64 0, .int .i64 0, .string ⟨#[]⟩, .string ⟨#[]⟩, .int .i64 0, .string ⟨#[]⟩, .bool true] 109) = w2 from hw2.symm]
          obtain ⟨tb, htb⟩ : ∃ tb, tb = W.heap.size := ⟨_, rfl⟩
          rw [← htb] at HE2 HS2 HNB
          have htb1 : w1.heap.size ≤ tb := by omega
          clear hb2 hpc hpb2 hpl hw2 c0 c1 c2 c3 c4 c5 c6
          have hag : ∀ e : Ev, e.agg = .agg #[.string ⟨e.src.toArray⟩, .int .i64 e.num, .int .i64 e.at_, .int .i64 e.kind, .string ⟨e.per.toArray⟩, .string ⟨e.item.toArray⟩, .int .i64 e.val, .string ⟨e.text.toArray⟩] := fun _ => rfl
          have hnl := HPB.out.len
          subst htb
          cases x with
          | none =>
            have hnp0 : np = 0 := by simpa [bytesE] using hnl.symm
            subst hnp0
            go_upto_region 15 with fail
            obtain ⟨w5, hw5⟩ : ∃ w5, w5 = w2 := ⟨_, rfl⟩
            obtain ⟨y, hy⟩ : ∃ y, y = (none : Option Ev) := ⟨_, rfl⟩
            have HX5 := Lib.hid (show LdS w1 G F F' bj bd v' { j with es := j.es ++ xs.take k } w5 from by rw [hw5]; exact HX2.out)
            have HE5 := Lib.hid (show w5.heap[W.heap.size]? = some (entObj y) from by rw [hw5, hy]; exact HE2.out)
            have HL5 := Lib.hid (show W.heap.size < w5.heap.size from (Array.getElem?_eq_some_iff.1 HE5.out).1)
            rw [← hw5]
            clear hw5
            obtain ⟨es2, hes2⟩ : ∃ es2, es2 = j.es ++ xs.take k := ⟨_, rfl⟩
            have HJ2 := Lib.hid (show ({ j with es := es2 ++ [y] } : Jl) = { j with es := j.es ++ xs.take (k + 1) } by rw [hes2, HT.out, List.append_assoc, hy])
            have hl2 : es2.length ≤ 100000 := by rw [hes2, List.length_append, List.length_take]; omega
            rw [← hes2] at HX5
            clear hes2 hy
            obtain ⟨A2, c2, hv2⟩ := ownsRow_form HX5.out.jl.own
            obtain ⟨i0, hi, hz0, hz1, hz2⟩ := info_parts ent_info
            have HI := Lib.hid hi; have HZ0 := Lib.hid hz0; have HZ1 := Lib.hid hz1; have HZ2 := Lib.hid hz2
            have HOZ := Lib.hid (show (w5.alloc (entObj y)).drew.ownsRow 0 109 9 v' es2.length (entCells es2) from World.ownsRow.alloc HX5.out.jl.own (entObj y))
            have HCZ := Lib.hid (show Cel (w5.alloc (entObj y)).drew (w5.heap.size + 1) 9 (some ⟨w5.heap.size, 0, none⟩) 1 1 (entC y) from by
              have := Cel.new (size := 9) (n := 1) w5 #[.string ⟨(entE y).src.toArray⟩, .int .i64 (entE y).num, .int .i64 (entE y).at_, .int .i64 (entE y).kind, .string ⟨(entE y).per.toArray⟩, .string ⟨(entE y).item.toArray⟩, .int .i64 (entE y).val, .string ⟨(entE y).text.toArray⟩, .bool y.isNone] 109 (by unfold maxLen; omega) rfl
              rw [entC_eq]; exact Cel.drewN this 1)
            have HGR := Lib.hid (show ∀ v9 w9, World.ownsRow w9 0 109 9 v9 (es2.length + 1) (entCells es2 ++ entC y) → (w5.alloc (entObj y)).drew.grownBy w9 v'.ownBlock → (v9.ownBlock = v'.ownBlock ∨ v9.ownBlock = some (w5.heap.size + 1)) → LdRel w1 G F bj bd j xs (.int .i64 ((k : Int) + 1)) (w9.setCell ⟨bj, 4, none⟩ v9) ∧ w9.cell? ⟨bj, 4, none⟩ = some v' ∧ w9.frozen? ⟨bj, 4, none⟩ = false from fun v9 w9 h9 hg9 hv9 => by
              obtain ⟨a1, a2, a3⟩ := (HX5.out.up (W' := w5.drewN 1) (below_drewN (Below.refl _ _) 1)).grow (x := y) (entObj y) hg9 (by show OwnJ w9 0 v9 (es2 ++ [y]); unfold OwnJ; rw [entCells_one, List.length_append]; exact h9) hv9
              refine ⟨⟨k + 1, v9, (fun b => F' b ∨ v9.ownBlock = some b), rfl, by omega, ?_⟩, a2, a3⟩
              rw [← HJ2.out]; exact a1)
            have e4 := HX5.out.jl.cells.2.2.2.2.1
            have hS : EntS W.heap.size y w5.drew := EntIn.of_heap HE5.out
            have hSA : EntS W.heap.size y (w5.alloc (entObj y)).drew := EntIn.of_heap ((heap_alloc_old _ _ HL5.out).trans HE5.out)
            have e4A : (w5.alloc (entObj y)).drew.cell? ⟨bj, 4, none⟩ = some v' := (World.cell?_alloc_lt w5 (entObj y) ⟨bj, 4, none⟩ (HX5.out.jl.lt _ HX5.out.jl.fj)).trans e4
            have e4D : w5.drew.cell? ⟨bj, 4, none⟩ = some v' := e4
            have HSW := Lib.hid (show ∀ w9, (w5.alloc (entObj y)).drew.grownBy w9 v'.ownBlock → EntS W.heap.size y w9 from fun w9 hg9 => EntIn.of_heap ((hg9.block _ (by have := HL5.out; simp; omega) (fun e => HNB.out.2 ((HX5.out.jl.fv _ e.symm).1))).trans ((heap_alloc_old _ _ HL5.out).trans HE5.out)))
            have hv3 : v' = .slice A2 es2.length c2 := hv2
            clear hv2
            subst hv3
            clear hi hz0 hz1 hz2
            go_region_law ((with_reducible refine step_app rfl (.tmp 85) (.tmp 87) 101 rfl 109 i0 _ 9 104 Tryz.underlying101 HI.out HZ0.out HZ1.out HZ2.out rfl (by decide) 0 (.slice A2 es2.length c2) es2.length (entCells es2) rfl HOZ.out (w5.heap.size + 1) _ _ _ (entC y) rfl HCZ.out (entC_one y) (by unfold maxLen; omega) (by omega) (Nat.zero_le _) ?_); intro v9 w9 ho9 hg9 hv9; obtain ⟨A0, c0, hvf⟩ := ownsRow_form ho9; subst hvf; obtain ⟨hR9, f4, f4f⟩ := HGR.out _ w9 ho9 hg9 (by simpa using hv9); have hS9 := HSW.out w9 hg9; have HR9 := Lib.hid hR9; clear ho9 hg9 hv9 hR9)
            all_goals
              go_wp2
              go_step3
              exact ⟨rfl, ⟨w1, _, xs.length, c9, _, _, _, _, _, _, _, _, _, _, _, _, _, _, _, _, _, _, _, _, _, _, _, _, _, _, _, _, _, _, _, _, _, _, _, _, _, _, _, _, _, _, _, _, _, _, _, _, _, _, _, _, _, _, _, _, _, _, _, _, _, _, _, _, _, _, _, _, _, _, _, _, _, _, _, _, _, _, _, _, _, _, _, _, _, _, HLF.out, rfl, HR9.out⟩, by show xs.length - ((k : Int) + 1).toNat < xs.length - (k : Int).toNat; omega⟩
          | some e =>
            have hme := HMX1.out e rfl
            have hnl2 : (encE e).length = np := hnl
            have hnp0 : 0 < np := by rw [← hnl2]; unfold encE; simp
            have HDC := Lib.hid (evdec_any w2 Ap np cp e HPB2.out hme HMX2.out)
            unfold DecPost at HDC
            rw [hag] at HDC
            clear hnl hnl2 hag
            go_wp2_with fail
            refine HDC.out.mono ?_
            rintro r w3 ⟨rfl, hb3⟩
            have hb34 : RowKit.Below w3.heap.size w3 (w3.alloc (evObj e)) := (Below.refl _ _).alloc (Nat.le_refl _) _
            have HX4 := Lib.hid ((HX2.out.up hb3).up hb34)
            have HE4 := Lib.hid (show (w3.alloc (evObj e)).heap[W.heap.size]? = some (entObj none) from (hb34.block _ (by have := hb3.size; have := HS2.out; omega)).trans ((hb3.block _ (by have := HS2.out; omega)).trans HE2.out))
            obtain ⟨f0, f1, f2, f3, f4, f5, f6, f7⟩ := EvIn.new w3 e
            have y0 := frozen_of_row _ W.heap.size 0 _ _ HE4.out
            have y1 := frozen_of_row _ W.heap.size 1 _ _ HE4.out
            have y2 := frozen_of_row _ W.heap.size 2 _ _ HE4.out
            have y3 := frozen_of_row _ W.heap.size 3 _ _ HE4.out
            have y4 := frozen_of_row _ W.heap.size 4 _ _ HE4.out
            have y5 := frozen_of_row _ W.heap.size 5 _ _ HE4.out
            have y6 := frozen_of_row _ W.heap.size 6 _ _ HE4.out
            have y7 := frozen_of_row _ W.heap.size 7 _ _ HE4.out
            have y8 := frozen_of_row _ W.heap.size 8 _ _ HE4.out
            obtain ⟨k0, k1, k2, k3, k4, k5, k6, k7, k8⟩ := EntIn.of_heap HE4.out
            go_upto_region 15 with fail
            clear y0 y1 y2 y3 y4 y5 y6 y7 y8 k0 k1 k2 k3 k4 k5 k6 k7 k8 f0 f1 f2 f3 f4 f5 f6 f7
            obtain ⟨w5, hw5⟩ : ∃ w5, w5 = ((((((((((w3.alloc (evObj e))).setCell ⟨W.heap.size, 0, none⟩ (.string ⟨e.src.toArray⟩)).setCell ⟨W.heap.size, 1, none⟩ (.int .i64 e.num)).setCell ⟨W.heap.size, 2, none⟩ (.int .i64 e.at_)).setCell ⟨W.heap.size, 3, none⟩ (.int .i64 e.kind)).setCell ⟨W.heap.size, 4, none⟩ (.string ⟨e.per.toArray⟩)).setCell ⟨W.heap.size, 5, none⟩ (.string ⟨e.item.toArray⟩)).setCell ⟨W.heap.size, 6, none⟩ (.int .i64 e.val)).setCell ⟨W.heap.size, 7, none⟩ (.string ⟨e.text.toArray⟩)).setCell ⟨W.heap.size, 8, none⟩ (.bool false) := ⟨_, rfl⟩
            obtain ⟨y, hy⟩ : ∃ y, y = ((some e) : Option Ev) := ⟨_, rfl⟩
            have HX5 := Lib.hid (show LdS w1 G F F' bj bd v' { j with es := j.es ++ xs.take k } w5 from by rw [hw5]; exact HX4.out.store e htb1 HNB.out.1 HNB.out.2)
            have HE5 := Lib.hid (show w5.heap[W.heap.size]? = some (entObj y) from by rw [hw5, hy]; exact ent_store e HE4.out)
            have HL5 := Lib.hid (show W.heap.size < w5.heap.size from (Array.getElem?_eq_some_iff.1 HE5.out).1)
            rw [← hw5]
            clear hw5
            obtain ⟨es2, hes2⟩ : ∃ es2, es2 = j.es ++ xs.take k := ⟨_, rfl⟩
            have HJ2 := Lib.hid (show ({ j with es := es2 ++ [y] } : Jl) = { j with es := j.es ++ xs.take (k + 1) } by rw [hes2, HT.out, List.append_assoc, hy])
            have hl2 : es2.length ≤ 100000 := by rw [hes2, List.length_append, List.length_take]; omega
            rw [← hes2] at HX5
            clear hes2 hy
            obtain ⟨A2, c2, hv2⟩ := ownsRow_form HX5.out.jl.own
            obtain ⟨i0, hi, hz0, hz1, hz2⟩ := info_parts ent_info
            have HI := Lib.hid hi; have HZ0 := Lib.hid hz0; have HZ1 := Lib.hid hz1; have HZ2 := Lib.hid hz2
            have HOZ := Lib.hid (show (w5.alloc (entObj y)).drew.ownsRow 0 109 9 v' es2.length (entCells es2) from World.ownsRow.alloc HX5.out.jl.own (entObj y))
            have HCZ := Lib.hid (show Cel (w5.alloc (entObj y)).drew (w5.heap.size + 1) 9 (some ⟨w5.heap.size, 0, none⟩) 1 1 (entC y) from by
              have := Cel.new (size := 9) (n := 1) w5 #[.string ⟨(entE y).src.toArray⟩, .int .i64 (entE y).num, .int .i64 (entE y).at_, .int .i64 (entE y).kind, .string ⟨(entE y).per.toArray⟩, .string ⟨(entE y).item.toArray⟩, .int .i64 (entE y).val, .string ⟨(entE y).text.toArray⟩, .bool y.isNone] 109 (by unfold maxLen; omega) rfl
              rw [entC_eq]; exact Cel.drewN this 1)
            have HGR := Lib.hid (show ∀ v9 w9, World.ownsRow w9 0 109 9 v9 (es2.length + 1) (entCells es2 ++ entC y) → (w5.alloc (entObj y)).drew.grownBy w9 v'.ownBlock → (v9.ownBlock = v'.ownBlock ∨ v9.ownBlock = some (w5.heap.size + 1)) → LdRel w1 G F bj bd j xs (.int .i64 ((k : Int) + 1)) (w9.setCell ⟨bj, 4, none⟩ v9) ∧ w9.cell? ⟨bj, 4, none⟩ = some v' ∧ w9.frozen? ⟨bj, 4, none⟩ = false from fun v9 w9 h9 hg9 hv9 => by
              obtain ⟨a1, a2, a3⟩ := (HX5.out.up (W' := w5.drewN 1) (below_drewN (Below.refl _ _) 1)).grow (x := y) (entObj y) hg9 (by show OwnJ w9 0 v9 (es2 ++ [y]); unfold OwnJ; rw [entCells_one, List.length_append]; exact h9) hv9
              refine ⟨⟨k + 1, v9, (fun b => F' b ∨ v9.ownBlock = some b), rfl, by omega, ?_⟩, a2, a3⟩
              rw [← HJ2.out]; exact a1)
            have e4 := HX5.out.jl.cells.2.2.2.2.1
            have hS : EntS W.heap.size y w5.drew := EntIn.of_heap HE5.out
            have hSA : EntS W.heap.size y (w5.alloc (entObj y)).drew := EntIn.of_heap ((heap_alloc_old _ _ HL5.out).trans HE5.out)
            have e4A : (w5.alloc (entObj y)).drew.cell? ⟨bj, 4, none⟩ = some v' := (World.cell?_alloc_lt w5 (entObj y) ⟨bj, 4, none⟩ (HX5.out.jl.lt _ HX5.out.jl.fj)).trans e4
            have e4D : w5.drew.cell? ⟨bj, 4, none⟩ = some v' := e4
            have HSW := Lib.hid (show ∀ w9, (w5.alloc (entObj y)).drew.grownBy w9 v'.ownBlock → EntS W.heap.size y w9 from fun w9 hg9 => EntIn.of_heap ((hg9.block _ (by have := HL5.out; simp; omega) (fun e => HNB.out.2 ((HX5.out.jl.fv _ e.symm).1))).trans ((heap_alloc_old _ _ HL5.out).trans HE5.out)))
            have hv3 : v' = .slice A2 es2.length c2 := hv2
            clear hv2
            subst hv3
            clear hi hz0 hz1 hz2
            go_region_law ((with_reducible refine step_app rfl (.tmp 85) (.tmp 87) 101 rfl 109 i0 _ 9 104 Tryz.underlying101 HI.out HZ0.out HZ1.out HZ2.out rfl (by decide) 0 (.slice A2 es2.length c2) es2.length (entCells es2) rfl HOZ.out (w5.heap.size + 1) _ _ _ (entC y) rfl HCZ.out (entC_one y) (by unfold maxLen; omega) (by omega) (Nat.zero_le _) ?_); intro v9 w9 ho9 hg9 hv9; obtain ⟨A0, c0, hvf⟩ := ownsRow_form ho9; subst hvf; obtain ⟨hR9, f4, f4f⟩ := HGR.out _ w9 ho9 hg9 (by simpa using hv9); have hS9 := HSW.out w9 hg9; have HR9 := Lib.hid hR9; clear ho9 hg9 hv9 hR9)
            all_goals
              go_wp2
              go_step3
              exact ⟨rfl, ⟨w1, _, xs.length, c9, _, _, _, _, _, _, _, _, _, _, _, _, _, _, _, _, _, _, _, _, _, _, _, _, _, _, _, _, _, _, _, _, _, _, _, _, _, _, _, _, _, _, _, _, _, _, _, _, _, _, _, _, _, _, _, _, _, _, _, _, _, _, _, _, _, _, _, _, _, _, _, _, _, _, _, _, _, _, _, _, _, _, _, _, _, _, HLF.out, rfl, HR9.out⟩, by show xs.length - ((k : Int) + 1).toNat < xs.length - (k : Int).toNat; omega⟩
        · obtain rfl : k = xs.length := by omega
          have t1 : ¬ (xs.length : Int) < xs.length := by omega
          have HR := Lib.hid (show LdPost w G F bj bd j xs en st (.returned (.tuple #[.int .i64 en, .int .i64 st, .int .i64 0])) W from by
            have h1 := HS.out.jl
            rw [List.take_length] at h1
            refine ⟨rfl, v', F', h1, fun b hb => ?_, ?_⟩
            · exact (HS.out.new b hb).imp id (fun h => Nat.le_trans HLF.out.be.size h)
            · exact (Keep.of_below (F := F) HLF.out.be).trans HS.out.kp (fun _ _ h => h))
          go_wp2
          go_ret3
          exact HR.out
  case pass =>
    rintro a W ⟨w1, A9, z, c9, u3, u4, u5, u13, u14, u15, u16, u17, u18, u19, u20, u21, u22, u23, u24, u25, u26, u27, u28, u29, u30, u31, u32, u33, u34, u35, u36, u37, u38, u39, u40, u41, u42, u43, u44, u45, u46, u47, u48, u49, u50, u51, u52, u53, u54, u55, u56, u57, u58, u59, u60, u61, u62, u63, u64, u65, u66, u67, u68, u69, u70, u71, u72, u73, u74, u75, u76, u77, u78, u79, u80, u81, u82, u83, u84, u85, u86, u87, u88, u89, u90, u91, u92, u93, u94, i, hlf, rfl, hrel⟩
    obtain ⟨k, v', F', rfl, hk, hs⟩ := hrel
    have HLF := Lib.hid hlf
    have HS := Lib.hid hs
    have hzl := hlf.zl
    subst hzl
    obtain ⟨c0, c1, c2, c3, c4, c5, c6⟩ := hs.jl.cells
    have hsz := hs.kp.size
    clear hlf hs
    by_cases hkx : k < xs.length
    · have t1 : (k : Int) < xs.length := by omega
      obtain ⟨b, off, Ap, np, cp, hA9, hpc, hpb2, hnp⟩ := HLF.out.pay W HS.out.kp k hkx
      subst hA9
      have HPB := Lib.hid hpb2
      have HT := Lib.hid (show xs.take (k + 1) = xs.take k ++ [xs[k]] by rw [List.take_add_one, List.getElem?_eq_getElem hkx, Option.toList_some])
      have HMX1 := Lib.hid (fun e (he : xs[k] = some e) => HMY.out e (he ▸ List.getElem_mem hkx))
      have hmm : xs[k] ∈ xs := List.getElem_mem hkx
      generalize xs[k] = x at *
      have hb2 : RowKit.Below W.heap.size W (W.alloc (entObj none)) := (Below.refl _ _).alloc (Nat.le_refl _) _
      have HX2 := Lib.hid (HS.out.up hb2)
      have HE2 := Lib.hid (heap_alloc_new W (entObj none))
      have HS2 := Lib.hid (show (W.alloc (entObj none)).heap.size = W.heap.size + 1 by simp)
      have hpl := World.block_lt_of_cell? W ⟨b, off + k, none⟩ hpc
      have q2 : (W.alloc (entObj none)).cell? ⟨b, off + k, none⟩ = some (.slice Ap np cp) := (hb2.cell (p := ⟨b, off + k, none⟩) hpl).trans hpc
      have HPB2 := Lib.hid (show Byt (W.alloc (entObj none)) (W.alloc (entObj none)).heap.size Ap np cp (bytesE x) from (HPB.out.below hb2).more hb2.size)
      have HMX2 := Lib.hid (show MaxAt (W.alloc (entObj none)) from by
        have h1 : Keep F w W := (Keep.of_below (F := F) HLF.out.be).trans HS.out.kp (fun _ _ h => h)
        obtain ⟨mm, hmm2⟩ := HMX.out
        exact MaxAt.up ⟨mm, (h1.cell (p := ⟨1, 0, none⟩) (MaxAt.lt ⟨mm, hmm2⟩) HML.out).trans hmm2⟩ hb2)
      have HNB := Lib.hid (show ¬ G W.heap.size ∧ ¬ F' W.heap.size from ⟨fun h => by have := HS.out.jl.dk.lt _ h; omega, fun h => by have := HS.out.jl.lt _ h; omega⟩)
      go_upto_region 9 with fail
      obtain ⟨w2, hw2⟩ : ∃ w2, w2 = W.alloc (entObj none) := ⟨_, rfl⟩
      rw [← hw2] at HX2 HE2 HS2 q2 HPB2 HMX2
      rw [show W.alloc (.cells #[.string ⟨#[]⟩, .int .i64 0, .int .i64 0, .int .i64 0, .string ⟨#[]⟩, .string ⟨#[]⟩, .int .i64 0, .string ⟨#[]⟩, .bool true] 109) = w2 from hw2.symm]
      obtain ⟨tb, htb⟩ : ∃ tb, tb = W.heap.size := ⟨_, rfl⟩
      rw [← htb] at HE2 HS2 HNB
      have htb1 : w1.heap.size ≤ tb := by omega
      clear hb2 hpc hpb2 hpl hw2 c0 c1 c2 c3 c4 c5 c6
      have hag : ∀ e : Ev, e.agg = .agg #[.string ⟨e.src.toArray⟩, .int .i64 e.num, .int .i64 e.at_, .int .i64 e.kind, .string ⟨e.per.toArray⟩, .string ⟨e.item.toArray⟩, .int .i64 e.val, .string ⟨e.text.toArray⟩] := fun _ => rfl
      have hnl := HPB.out.len
      subst htb
      cases x with
      | none =>
        have hnp0 : np = 0 := by simpa [bytesE] using hnl.symm
        subst hnp0
        go_upto_region 15 with fail
        obtain ⟨w5, hw5⟩ : ∃ w5, w5 = w2 := ⟨_, rfl⟩
        obtain ⟨y, hy⟩ : ∃ y, y = (none : Option Ev) := ⟨_, rfl⟩
        have HX5 := Lib.hid (show LdS w1 G F F' bj bd v' { j with es := j.es ++ xs.take k } w5 from by rw [hw5]; exact HX2.out)
        have HE5 := Lib.hid (show w5.heap[W.heap.size]? = some (entObj y) from by rw [hw5, hy]; exact HE2.out)
        have HL5 := Lib.hid (show W.heap.size < w5.heap.size from (Array.getElem?_eq_some_iff.1 HE5.out).1)
        rw [← hw5]
        clear hw5
        obtain ⟨es2, hes2⟩ : ∃ es2, es2 = j.es ++ xs.take k := ⟨_, rfl⟩
        have HJ2 := Lib.hid (show ({ j with es := es2 ++ [y] } : Jl) = { j with es := j.es ++ xs.take (k + 1) } by rw [hes2, HT.out, List.append_assoc, hy])
        have hl2 : es2.length ≤ 100000 := by rw [hes2, List.length_append, List.length_take]; omega
        rw [← hes2] at HX5
        clear hes2 hy
        obtain ⟨A2, c2, hv2⟩ := ownsRow_form HX5.out.jl.own
        obtain ⟨i0, hi, hz0, hz1, hz2⟩ := info_parts ent_info
        have HI := Lib.hid hi; have HZ0 := Lib.hid hz0; have HZ1 := Lib.hid hz1; have HZ2 := Lib.hid hz2
        have HOZ := Lib.hid (show (w5.alloc (entObj y)).drew.ownsRow 0 109 9 v' es2.length (entCells es2) from World.ownsRow.alloc HX5.out.jl.own (entObj y))
        have HCZ := Lib.hid (show Cel (w5.alloc (entObj y)).drew (w5.heap.size + 1) 9 (some ⟨w5.heap.size, 0, none⟩) 1 1 (entC y) from by
          have := Cel.new (size := 9) (n := 1) w5 #[.string ⟨(entE y).src.toArray⟩, .int .i64 (entE y).num, .int .i64 (entE y).at_, .int .i64 (entE y).kind, .string ⟨(entE y).per.toArray⟩, .string ⟨(entE y).item.toArray⟩, .int .i64 (entE y).val, .string ⟨(entE y).text.toArray⟩, .bool y.isNone] 109 (by unfold maxLen; omega) rfl
          rw [entC_eq]; exact Cel.drewN this 1)
        have HGR := Lib.hid (show ∀ v9 w9, World.ownsRow w9 0 109 9 v9 (es2.length + 1) (entCells es2 ++ entC y) → (w5.alloc (entObj y)).drew.grownBy w9 v'.ownBlock → (v9.ownBlock = v'.ownBlock ∨ v9.ownBlock = some (w5.heap.size + 1)) → LdRel w1 G F bj bd j xs (.int .i64 ((k : Int) + 1)) (w9.setCell ⟨bj, 4, none⟩ v9) ∧ w9.cell? ⟨bj, 4, none⟩ = some v' ∧ w9.frozen? ⟨bj, 4, none⟩ = false from fun v9 w9 h9 hg9 hv9 => by
          obtain ⟨a1, a2, a3⟩ := (HX5.out.up (W' := w5.drewN 1) (below_drewN (Below.refl _ _) 1)).grow (x := y) (entObj y) hg9 (by show OwnJ w9 0 v9 (es2 ++ [y]); unfold OwnJ; rw [entCells_one, List.length_append]; exact h9) hv9
          refine ⟨⟨k + 1, v9, (fun b => F' b ∨ v9.ownBlock = some b), rfl, by omega, ?_⟩, a2, a3⟩
          rw [← HJ2.out]; exact a1)
        have e4 := HX5.out.jl.cells.2.2.2.2.1
        have hS : EntS W.heap.size y w5.drew := EntIn.of_heap HE5.out
        have hSA : EntS W.heap.size y (w5.alloc (entObj y)).drew := EntIn.of_heap ((heap_alloc_old _ _ HL5.out).trans HE5.out)
        have e4A : (w5.alloc (entObj y)).drew.cell? ⟨bj, 4, none⟩ = some v' := (World.cell?_alloc_lt w5 (entObj y) ⟨bj, 4, none⟩ (HX5.out.jl.lt _ HX5.out.jl.fj)).trans e4
        have e4D : w5.drew.cell? ⟨bj, 4, none⟩ = some v' := e4
        have HSW := Lib.hid (show ∀ w9, (w5.alloc (entObj y)).drew.grownBy w9 v'.ownBlock → EntS W.heap.size y w9 from fun w9 hg9 => EntIn.of_heap ((hg9.block _ (by have := HL5.out; simp; omega) (fun e => HNB.out.2 ((HX5.out.jl.fv _ e.symm).1))).trans ((heap_alloc_old _ _ HL5.out).trans HE5.out)))
        have hv3 : v' = .slice A2 es2.length c2 := hv2
        clear hv2
        subst hv3
        clear hi hz0 hz1 hz2
        go_region_law ((with_reducible refine step_app rfl (.tmp 85) (.tmp 87) 101 rfl 109 i0 _ 9 104 Tryz.underlying101 HI.out HZ0.out HZ1.out HZ2.out rfl (by decide) 0 (.slice A2 es2.length c2) es2.length (entCells es2) rfl HOZ.out (w5.heap.size + 1) _ _ _ (entC y) rfl HCZ.out (entC_one y) (by unfold maxLen; omega) (by omega) (Nat.zero_le _) ?_); intro v9 w9 ho9 hg9 hv9; obtain ⟨A0, c0, hvf⟩ := ownsRow_form ho9; subst hvf; obtain ⟨hR9, f4, f4f⟩ := HGR.out _ w9 ho9 hg9 (by simpa using hv9); have hS9 := HSW.out w9 hg9; have HR9 := Lib.hid hR9; clear ho9 hg9 hv9 hR9)
        all_goals
          go_wp2
          go_step3
          exact ⟨rfl, ⟨w1, _, xs.length, c9, _, _, _, _, _, _, _, _, _, _, _, _, _, _, _, _, _, _, _, _, _, _, _, _, _, _, _, _, _, _, _, _, _, _, _, _, _, _, _, _, _, _, _, _, _, _, _, _, _, _, _, _, _, _, _, _, _, _, _, _, _, _, _, _, _, _, _, _, _, _, _, _, _, _, _, _, _, _, _, _, _, _, _, _, _, _, HLF.out, rfl, HR9.out⟩, by show xs.length - ((k : Int) + 1).toNat < xs.length - (k : Int).toNat; omega⟩
      | some e =>
        have hme := HMX1.out e rfl
        have hnl2 : (encE e).length = np := hnl
        have hnp0 : 0 < np := by rw [← hnl2]; unfold encE; simp
        have HDC := Lib.hid (evdec_any w2 Ap np cp e HPB2.out hme HMX2.out)
        unfold DecPost at HDC
        rw [hag] at HDC
        clear hnl hnl2 hag
        go_wp2_with fail
        refine HDC.out.mono ?_
        rintro r w3 ⟨rfl, hb3⟩
        have hb34 : RowKit.Below w3.heap.size w3 (w3.alloc (evObj e)) := (Below.refl _ _).alloc (Nat.le_refl _) _
        have HX4 := Lib.hid ((HX2.out.up hb3).up hb34)
        have HE4 := Lib.hid (show (w3.alloc (evObj e)).heap[W.heap.size]? = some (entObj none) from (hb34.block _ (by have := hb3.size; have := HS2.out; omega)).trans ((hb3.block _ (by have := HS2.out; omega)).trans HE2.out))
        obtain ⟨f0, f1, f2, f3, f4, f5, f6, f7⟩ := EvIn.new w3 e
        have y0 := frozen_of_row _ W.heap.size 0 _ _ HE4.out
        have y1 := frozen_of_row _ W.heap.size 1 _ _ HE4.out
        have y2 := frozen_of_row _ W.heap.size 2 _ _ HE4.out
        have y3 := frozen_of_row _ W.heap.size 3 _ _ HE4.out
        have y4 := frozen_of_row _ W.heap.size 4 _ _ HE4.out
        have y5 := frozen_of_row _ W.heap.size 5 _ _ HE4.out
        have y6 := frozen_of_row _ W.heap.size 6 _ _ HE4.out
        have y7 := frozen_of_row _ W.heap.size 7 _ _ HE4.out
        have y8 := frozen_of_row _ W.heap.size 8 _ _ HE4.out
        obtain ⟨k0, k1, k2, k3, k4, k5, k6, k7, k8⟩ := EntIn.of_heap HE4.out
        go_upto_region 15 with fail
        clear y0 y1 y2 y3 y4 y5 y6 y7 y8 k0 k1 k2 k3 k4 k5 k6 k7 k8 f0 f1 f2 f3 f4 f5 f6 f7
        obtain ⟨w5, hw5⟩ : ∃ w5, w5 = ((((((((((w3.alloc (evObj e))).setCell ⟨W.heap.size, 0, none⟩ (.string ⟨e.src.toArray⟩)).setCell ⟨W.heap.size, 1, none⟩ (.int .i64 e.num)).setCell ⟨W.heap.size, 2, none⟩ (.int .i64 e.at_)).setCell ⟨W.heap.size, 3, none⟩ (.int .i64 e.kind)).setCell ⟨W.heap.size, 4, none⟩ (.string ⟨e.per.toArray⟩)).setCell ⟨W.heap.size, 5, none⟩ (.string ⟨e.item.toArray⟩)).setCell ⟨W.heap.size, 6, none⟩ (.int .i64 e.val)).setCell ⟨W.heap.size, 7, none⟩ (.string ⟨e.text.toArray⟩)).setCell ⟨W.heap.size, 8, none⟩ (.bool false) := ⟨_, rfl⟩
        obtain ⟨y, hy⟩ : ∃ y, y = ((some e) : Option Ev) := ⟨_, rfl⟩
        have HX5 := Lib.hid (show LdS w1 G F F' bj bd v' { j with es := j.es ++ xs.take k } w5 from by rw [hw5]; exact HX4.out.store e htb1 HNB.out.1 HNB.out.2)
        have HE5 := Lib.hid (show w5.heap[W.heap.size]? = some (entObj y) from by rw [hw5, hy]; exact ent_store e HE4.out)
        have HL5 := Lib.hid (show W.heap.size < w5.heap.size from (Array.getElem?_eq_some_iff.1 HE5.out).1)
        rw [← hw5]
        clear hw5
        obtain ⟨es2, hes2⟩ : ∃ es2, es2 = j.es ++ xs.take k := ⟨_, rfl⟩
        have HJ2 := Lib.hid (show ({ j with es := es2 ++ [y] } : Jl) = { j with es := j.es ++ xs.take (k + 1) } by rw [hes2, HT.out, List.append_assoc, hy])
        have hl2 : es2.length ≤ 100000 := by rw [hes2, List.length_append, List.length_take]; omega
        rw [← hes2] at HX5
        clear hes2 hy
        obtain ⟨A2, c2, hv2⟩ := ownsRow_form HX5.out.jl.own
        obtain ⟨i0, hi, hz0, hz1, hz2⟩ := info_parts ent_info
        have HI := Lib.hid hi; have HZ0 := Lib.hid hz0; have HZ1 := Lib.hid hz1; have HZ2 := Lib.hid hz2
        have HOZ := Lib.hid (show (w5.alloc (entObj y)).drew.ownsRow 0 109 9 v' es2.length (entCells es2) from World.ownsRow.alloc HX5.out.jl.own (entObj y))
        have HCZ := Lib.hid (show Cel (w5.alloc (entObj y)).drew (w5.heap.size + 1) 9 (some ⟨w5.heap.size, 0, none⟩) 1 1 (entC y) from by
          have := Cel.new (size := 9) (n := 1) w5 #[.string ⟨(entE y).src.toArray⟩, .int .i64 (entE y).num, .int .i64 (entE y).at_, .int .i64 (entE y).kind, .string ⟨(entE y).per.toArray⟩, .string ⟨(entE y).item.toArray⟩, .int .i64 (entE y).val, .string ⟨(entE y).text.toArray⟩, .bool y.isNone] 109 (by unfold maxLen; omega) rfl
          rw [entC_eq]; exact Cel.drewN this 1)
        have HGR := Lib.hid (show ∀ v9 w9, World.ownsRow w9 0 109 9 v9 (es2.length + 1) (entCells es2 ++ entC y) → (w5.alloc (entObj y)).drew.grownBy w9 v'.ownBlock → (v9.ownBlock = v'.ownBlock ∨ v9.ownBlock = some (w5.heap.size + 1)) → LdRel w1 G F bj bd j xs (.int .i64 ((k : Int) + 1)) (w9.setCell ⟨bj, 4, none⟩ v9) ∧ w9.cell? ⟨bj, 4, none⟩ = some v' ∧ w9.frozen? ⟨bj, 4, none⟩ = false from fun v9 w9 h9 hg9 hv9 => by
          obtain ⟨a1, a2, a3⟩ := (HX5.out.up (W' := w5.drewN 1) (below_drewN (Below.refl _ _) 1)).grow (x := y) (entObj y) hg9 (by show OwnJ w9 0 v9 (es2 ++ [y]); unfold OwnJ; rw [entCells_one, List.length_append]; exact h9) hv9
          refine ⟨⟨k + 1, v9, (fun b => F' b ∨ v9.ownBlock = some b), rfl, by omega, ?_⟩, a2, a3⟩
          rw [← HJ2.out]; exact a1)
        have e4 := HX5.out.jl.cells.2.2.2.2.1
        have hS : EntS W.heap.size y w5.drew := EntIn.of_heap HE5.out
        have hSA : EntS W.heap.size y (w5.alloc (entObj y)).drew := EntIn.of_heap ((heap_alloc_old _ _ HL5.out).trans HE5.out)
        have e4A : (w5.alloc (entObj y)).drew.cell? ⟨bj, 4, none⟩ = some v' := (World.cell?_alloc_lt w5 (entObj y) ⟨bj, 4, none⟩ (HX5.out.jl.lt _ HX5.out.jl.fj)).trans e4
        have e4D : w5.drew.cell? ⟨bj, 4, none⟩ = some v' := e4
        have HSW := Lib.hid (show ∀ w9, (w5.alloc (entObj y)).drew.grownBy w9 v'.ownBlock → EntS W.heap.size y w9 from fun w9 hg9 => EntIn.of_heap ((hg9.block _ (by have := HL5.out; simp; omega) (fun e => HNB.out.2 ((HX5.out.jl.fv _ e.symm).1))).trans ((heap_alloc_old _ _ HL5.out).trans HE5.out)))
        have hv3 : v' = .slice A2 es2.length c2 := hv2
        clear hv2
        subst hv3
        clear hi hz0 hz1 hz2
        go_region_law ((with_reducible refine step_app rfl (.tmp 85) (.tmp 87) 101 rfl 109 i0 _ 9 104 Tryz.underlying101 HI.out HZ0.out HZ1.out HZ2.out rfl (by decide) 0 (.slice A2 es2.length c2) es2.length (entCells es2) rfl HOZ.out (w5.heap.size + 1) _ _ _ (entC y) rfl HCZ.out (entC_one y) (by unfold maxLen; omega) (by omega) (Nat.zero_le _) ?_); intro v9 w9 ho9 hg9 hv9; obtain ⟨A0, c0, hvf⟩ := ownsRow_form ho9; subst hvf; obtain ⟨hR9, f4, f4f⟩ := HGR.out _ w9 ho9 hg9 (by simpa using hv9); have hS9 := HSW.out w9 hg9; have HR9 := Lib.hid hR9; clear ho9 hg9 hv9 hR9)
        all_goals
          go_wp2
          go_step3
          exact ⟨rfl, ⟨w1, _, xs.length, c9, _, _, _, _, _, _, _, _, _, _, _, _, _, _, _, _, _, _, _, _, _, _, _, _, _, _, _, _, _, _, _, _, _, _, _, _, _, _, _, _, _, _, _, _, _, _, _, _, _, _, _, _, _, _, _, _, _, _, _, _, _, _, _, _, _, _, _, _, _, _, _, _, _, _, _, _, _, _, _, _, _, _, _, _, _, _, HLF.out, rfl, HR9.out⟩, by show xs.length - ((k : Int) + 1).toNat < xs.length - (k : Int).toNat; omega⟩
    · obtain rfl : k = xs.length := by omega
      have t1 : ¬ (xs.length : Int) < xs.length := by omega
      have HR := Lib.hid (show LdPost w G F bj bd j xs en st (.returned (.tuple #[.int .i64 en, .int .i64 st, .int .i64 0])) W from by
        have h1 := HS.out.jl
        rw [List.take_length] at h1
        refine ⟨rfl, v', F', h1, fun b hb => ?_, ?_⟩
        · exact (HS.out.new b hb).imp id (fun h => Nat.le_trans HLF.out.be.size h)
        · exact (Keep.of_below (F := F) HLF.out.be).trans HS.out.kp (fun _ _ h => h))
      go_wp2
      go_ret3
      exact HR.out
end Go.Proofs.YtejjfhhppjdcaaaGreatDoor
