/-
  Layer 7, plain: the ranges of two rows; a set is told by what it has.
  Layer 7: slices.Grow of nothing, slices.Concat of two rows of ranges.
  slices.SortFunc at this dump, laid by the kit's programs, in plain declarations.
  Layer 7: a row of ranges is sorted.
-/
import Derived.Test.YtgbagjpokpchpaaGreatDoorRPnM
import Derived.Test.YtgbagjpokpchpaaGreatDoorRHad
import Derived.Test.YtgbagjpokpchpaaGreatDoorRIns
import Derived.Shelf.SlGeneric
import Derived.Shelf.SlSortCmp.WholeK
import Derived.Ground.SlsfProg
import Derived.Test.YtgbagjpokpchpaaGreatDoorProg
import Derived.Sort.OwnSorted
namespace Go.Proofs.YtgbagjpokpchpaaGreatDoor
open Go.RowKit Go.Maps Go.Sort

def joinU (out : Rg) (r : Int × Int) : Rg := match out.getLast? with | some l => if r.1 ≤ l.2 then out.dropLast ++ [(l.1, max l.2 r.2)] else out ++ [r] | none => [r]
def RgEach (l : Rg) : Prop := ∀ r ∈ l, 1 ≤ r.1 ∧ r.1 < r.2 ∧ r.2 ≤ 1099511627777
theorem hasR_append (a b : Rg) (n : Int) : hasR (a ++ b) n = (hasR a n || hasR b n) := by unfold hasR; rw [List.any_append]
theorem hasR_one (r : Int × Int) (n : Int) : hasR [r] n = (decide (r.1 ≤ n) && decide (n < r.2)) := by simp [hasR]
theorem joinU_nil (r : Int × Int) : joinU [] r = [r] := rfl
theorem joinU_snoc (i : Rg) (l r : Int × Int) : joinU (i ++ [l]) r = if r.1 ≤ l.2 then i ++ [(l.1, max l.2 r.2)] else i ++ [l] ++ [r] := by
  unfold joinU
  rw [List.getLast?_append, List.getLast?_singleton, Option.some_or]
  simp
theorem joinU_ok {out : Rg} {r : Int × Int} (h : RgOk out) (hr : 1 ≤ r.1 ∧ r.1 < r.2 ∧ r.2 ≤ 1099511627777) (hl : ∀ l, out.getLast? = some l → l.1 ≤ r.1) :
    RgOk (joinU out r) ∧ (∀ n, hasR (joinU out r) n = (hasR out n || hasR [r] n)) ∧ ∀ l, (joinU out r).getLast? = some l → l.1 ≤ r.1 := by
  rcases List.eq_nil_or_concat out with rfl | ⟨i, l, rfl⟩
  · rw [joinU_nil]
    refine ⟨⟨by simp, fun q hq => by rw [List.mem_singleton] at hq; rw [hq]; exact hr⟩, fun n => by simp [hasR], fun l hl => ?_⟩
    simp at hl; rw [← hl]; omega
  · rw [List.concat_eq_append] at *
    have h1 := hl l (by simp)
    obtain ⟨u1, u2, u3⟩ := List.pairwise_append.1 h.up
    have hle := h.each l (by simp)
    rw [joinU_snoc]
    by_cases hc : r.1 ≤ l.2
    · rw [if_pos hc]
      refine ⟨⟨List.pairwise_append.2 ⟨u1, by simp, fun a ha b hb => ?_⟩, fun q hq => ?_⟩, fun n => ?_, fun q hq => ?_⟩
      · rw [List.mem_singleton] at hb; rw [hb]; exact u3 a ha l (by simp)
      · rcases List.mem_append.1 hq with hq | hq
        · exact h.each q (by simp [hq])
        · rw [List.mem_singleton] at hq; rw [hq]; simp only; omega
      · rw [hasR_append, hasR_append, hasR_one, hasR_one, hasR_one, Bool.or_assoc]
        congr 1
        rw [Bool.eq_iff_iff]
        simp only [Bool.and_eq_true, Bool.or_eq_true, decide_eq_true_eq]
        omega
      · simp at hq; rw [← hq]; exact h1
    · rw [if_neg hc]
      refine ⟨⟨List.pairwise_append.2 ⟨h.up, by simp, fun a ha b hb => ?_⟩, fun q hq => ?_⟩, fun n => hasR_append _ _ _, fun q hq => ?_⟩
      · rw [List.mem_singleton] at hb; rw [hb]
        rcases List.mem_append.1 ha with ha | ha
        · have := u3 a ha l (by simp); omega
        · rw [List.mem_singleton] at ha; rw [ha]; omega
      · rcases List.mem_append.1 hq with hq | hq
        · exact h.each q hq
        · rw [List.mem_singleton] at hq; rw [hq]; exact hr
      · simp at hq; rw [← hq]; omega
theorem joinL_ok : ∀ (l : Rg), l.Pairwise (fun a b => a.1 ≤ b.1) → RgEach l → ∀ out, RgOk out → (∀ q, out.getLast? = some q → ∀ r ∈ l, q.1 ≤ r.1) →
    RgOk (l.foldl joinU out) ∧ ∀ n, hasR (l.foldl joinU out) n = (hasR out n || hasR l n)
  | [], _, _, out, ho, _ => ⟨ho, fun n => by simp [hasR]⟩
  | r :: l, hp, he, out, ho, hq => by
    obtain ⟨p1, p2⟩ := List.pairwise_cons.1 hp
    obtain ⟨h1, h2, h3⟩ := joinU_ok ho (he r (by simp)) (fun q hq' => hq q hq' r (by simp))
    obtain ⟨k1, k2⟩ := joinL_ok l p2 (fun q hq' => he q (by simp [hq'])) (joinU out r) h1 (fun q hq' a ha => by have := h3 q hq'; have := p1 a ha; omega)
    refine ⟨k1, fun n => ?_⟩
    rw [List.foldl_cons, k2, h2, show r :: l = [r] ++ l from rfl, hasR_append, Bool.or_assoc]
theorem joinU_len (out : Rg) (r : Int × Int) : (joinU out r).length ≤ out.length + 1 := by
  rcases List.eq_nil_or_concat out with rfl | ⟨i, l, rfl⟩
  · simp [joinU_nil]
  · rw [List.concat_eq_append, joinU_snoc]; split <;> simp
theorem joinL_len (l : Rg) : ∀ out : Rg, (l.foldl joinU out).length ≤ out.length + l.length := by
  induction l with
  | nil => intro out; simp
  | cons r l ih => intro out; have := ih (joinU out r); have := joinU_len out r; simp only [List.foldl_cons, List.length_cons]; omega
theorem joinL_snoc (l : Rg) (r : Int × Int) : (l ++ [r]).foldl joinU [] = joinU (l.foldl joinU []) r := by rw [List.foldl_append]; rfl
theorem hasR_unique {a b : Rg} (ha : RgOk a) (hb : RgOk b) (h : ∀ n, hasR a n = hasR b n) : a = b := by
  have : nums a = nums b := up_unique (nums_up ha) (nums_up hb) (fun n => by rw [nums_mem ha, nums_mem hb, h])
  rw [← rgs_eq ha, ← rgs_eq hb, this]
theorem rowUp_ext {α : Type} {a b : Row α} (ha : RowUp a) (hb : RowUp b) (h : ∀ p, p ∈ a ↔ p ∈ b) : a = b := by
  have key : ∀ m : Row α, RowUp m → m.Nodup := fun m hm => hm.imp fun {x y} hxy e => by rw [e, bb_irrefl] at hxy; cases hxy
  refine List.Perm.eq_of_pairwise (le := fun (x y : List UInt8 × α) => bytesBefore x.1 y.1 = true) (fun x y _ _ h1 h2 => ?_) ha hb ((List.perm_ext_iff_of_nodup (key a ha) (key b hb)).2 h)
  have := bb_trans h1 h2
  rw [bb_irrefl] at this; cases this
theorem rg_some {rs : Rg} (h : RgOk rs) (hne : rs ≠ []) : ∃ n, hasR rs n = true := by
  cases rs with
  | nil => exact absurd rfl hne
  | cons r rs => have := h.each r (by simp); exact ⟨r.1, by unfold hasR; simp; left; omega⟩
theorem had_unique {a b : Had} (ha : HadOk a) (hb : HadOk b) (h : ∀ s n, hadB a s n = hadB b s n) : a = b := by
  have half : ∀ {a b : Had}, HadOk a → HadOk b → (∀ s n, hadB a s n = hadB b s n) → ∀ p ∈ a, p ∈ b := fun {a b} ha hb h p hp => by
    have hr : hadRow a p.1 = p.2 := by unfold hadRow; rw [getB_of_mem ha.up (v := p.2) hp]; rfl
    have hE : hadRow a p.1 = hadRow b p.1 := hasR_unique (ha.row _) (hb.row _) (fun n => h p.1 n)
    have hne := (ha.each p hp).2.2
    rw [hr] at hE
    unfold hadRow at hE
    cases hg : getB b p.1 with
    | none => rw [hg] at hE; exact absurd hE hne
    | some rs => rw [hg] at hE; have := getB_mem hg; rw [show p = (p.1, rs) by rw [← show p.2 = rs from hE]]; exact this
  exact rowUp_ext ha.up hb.up fun p => ⟨half ha hb h p, half hb ha (fun s n => (h s n).symm) p⟩
end Go.Proofs.YtgbagjpokpchpaaGreatDoor
namespace Go.Proofs.YtgbagjpokpchpaaGreatDoor
open Go.RowKit Go.Maps Go.Sort

def OwnRB (w : World) (base : Nat) (v : Value) (rs : Rg) : Prop := w.ownsRow base 129 2 v rs.length (rgCells rs)
def GrowPost (w : World) (e : Ending) (w' : World) : Prop := ∃ cp, e = .returned (.slice (some ⟨w.heap.size, 0, none⟩) 0 cp) ∧ OwnRB w' w.heap.size (.slice (some ⟨w.heap.size, 0, none⟩) 0 cp) [] ∧ Below w.heap.size w w'
set_option maxRecDepth 100000 in
set_option maxHeartbeats 2000000 in
theorem grow_nil (w : World) (n : Nat) (h0 : 0 < n) (hn : n ≤ 1000000) : Calls Tryz.prog 205 #[.slice none 0 0, .int .i64 n] w (GrowPost w) := by
  obtain ⟨i0, hi0, hz0, hzs, hzb⟩ := info_parts rg_info
  have hrz : ∃ G row w1, (∀ ty, (Builtin.append_ #[127, 3] ty #[.slice none 0 0, .int .i64 (n : Int)]).run Tryz.prog w = .ok (.slice (some ⟨w.heap.size, 0, none⟩) n G) w1) ∧
      w1.heap[w.heap.size]? = some (.cells row 129 (0, 0)) ∧ Below w.heap.size w w1 ∧ n ≤ G ∧ G ≤ maxLen ∧ row.size = G * 2 := by
    have h := fun ty => Lib.run_append_nil_zeros w 127 3 ty 129 i0 _ .i64 .i64 Tryz.underlying127 Tryz.underlying3 hi0 hz0 n h0 (by omega) (by omega) (by rw [hzb]; omega)
    refine ⟨_, _, _, h, heap_alloc_new w.drew _, (Below.refl _ _).drew.alloc (Nat.le_refl _) _, grownCap_ge w _ _ _, grownCap_le_maxLen w _ _ _ (by unfold maxLen; omega), ?_⟩
    have hge := grownCap_ge w n 0 129
    simp only [Array.size_append, size_zeroCells]
    simp only [Value.cells, List.size_toArray, List.length_cons, List.length_nil]
    omega
  obtain ⟨G, row, w1, hr, hrow, hb1, hG1, hG2, hrs⟩ := hrz
  have HR := Lib.hid hr
  have HO := Lib.hid (show OwnRB w1 w.heap.size (.slice (some ⟨w.heap.size, 0, none⟩) 0 G) [] from ⟨rfl, .inr ⟨w.heap.size, G, row, rfl, Nat.le_refl _, hrow, Nat.zero_le _, hG2, hrs, by simp [rgCells]⟩⟩)
  unfold maxLen at hG2
  clear hr hrow hrs hi0 hz0 hzs hzb
  have t1 : ¬ (n : Int) < 0 := by omega
  have t2 : (0 : Int) < n := by omega
  go_enter Tryz.func205, Tryz.ntmps205
  go_wp2_with (at_builtin; refine Lib.wpList_append_run _ rfl (.tmp 20) (.tmp 21) _ _ rfl _ _ rfl rfl _ _ (HR.out _) ?_)
  go_wp2
  go_ret
  exact ⟨G, rfl, HO.out, hb1⟩

def CcPost (w : World) (rs : Rg) (e : Ending) (w' : World) : Prop := ∃ g cp, e = .returned (.slice (some ⟨g, 0, none⟩) rs.length cp) ∧ OwnRB w' w.heap.size (.slice (some ⟨g, 0, none⟩) rs.length cp) rs ∧ Below w.heap.size w w'
structure CcArg (w : World) (b : Nat) (A1 A2 : Option Addr) (c1 c2 : Nat) (l1 l2 : Rg) : Prop where
  x0 : w.cell? ⟨b, 0, none⟩ = some (.slice A1 l1.length c1)
  x1 : w.cell? ⟨b, 1, none⟩ = some (.slice A2 l2.length c2)
def CcRel (w : World) (l1 l2 : Rg) (v i : Value) (wr : World) : Prop := ∃ (k : Nat) (out : Rg), i = .int .i64 k ∧ ((k = 0 ∧ out = []) ∨ (k = 1 ∧ out = l1) ∨ (k = 2 ∧ out = l1 ++ l2)) ∧ OwnRB wr w.heap.size v out ∧ Below w.heap.size w wr
set_option maxRecDepth 100000 in
set_option maxHeartbeats 4000000 in
theorem concat_any (w : World) (b : Nat) (A1 A2 : Option Addr) (c1 c2 : Nat) (l1 l2 : Rg) (hx : CcArg w b A1 A2 c1 c2 l1 l2) (h1 : Cel w w.heap.size 2 A1 l1.length c1 (rgCells l1)) (h2 : Cel w w.heap.size 2 A2 l2.length c2 (rgCells l2)) (hp : 0 < l2.length) (hl1 : l1.length ≤ 200000) (hl2 : l2.length ≤ 200000) :
    Calls Tryz.prog 167 #[.slice (some ⟨b, 0, none⟩) 2 2] w (CcPost w (l1 ++ l2)) := by
  have H1 := Lib.hid h1; have H2 := Lib.hid h2
  have hbw : b < w.heap.size := World.block_lt_of_cell? w ⟨b, 0, none⟩ hx.x0
  have HX := Lib.hid hx
  obtain ⟨i0, hi, hz0, hz1, hz2⟩ := info_parts rg_info
  have HI := Lib.hid hi; have HZ0 := Lib.hid hz0; have HZ1 := Lib.hid hz1; have HZ2 := Lib.hid hz2
  clear hi hz0 hz1 hz2 h1 h2
  obtain ⟨x0, x1⟩ := hx
  go_enter Tryz.func167, Tryz.ntmps167
  go_wp2
  go_loop [3, 11] (fun s i => (s = .int .i64 0 ∧ i = .int .i64 ((0 : Nat) : Int)) ∨ (s = .int .i64 (l1.length : Int) ∧ i = .int .i64 ((1 : Nat) : Int)) ∨ (s = .int .i64 ((l1.length : Int) + l2.length) ∧ i = .int .i64 ((2 : Nat) : Int))) (fun _ i => 2 - (intOf i).toNat)
  case atStart => exact .inl ⟨rfl, rfl⟩
  case round =>
    rcases hrel with ⟨rfl, rfl⟩ | ⟨rfl, rfl⟩ | ⟨rfl, rfl⟩
    · go_wp2
      go_round
      case rel => exact .inr (.inl ⟨by first | rfl | (congr 1; omega), rfl⟩)
      case measure => simp [intOf]
    · go_wp2
      go_round
      case rel => exact .inr (.inr ⟨rfl, rfl⟩)
      case measure => simp [intOf]
    · have HG := Lib.hid (show Calls Tryz.prog 205 #[.slice none 0 0, .int .i64 ((l1.length : Int) + l2.length)] w (GrowPost w) from by
        have := grow_nil w (l1.length + l2.length) (by omega) (by omega)
        rw [Int.natCast_add] at this; exact this)
      go_wp2_with fail
      refine HG.out.mono ?_
      rintro r w1 ⟨cp, rfl, ho, hb1⟩
      have HO := Lib.hid ho; have HB1 := Lib.hid hb1
      have hs1 := hb1.size
      clear ho hb1 x0 x1
      have HST := Lib.hid (show CcRel w l1 l2 (.slice (some ⟨w.heap.size, 0, none⟩) 0 cp) (.int .i64 ((0 : Nat) : Int)) w1 from ⟨0, [], rfl, .inl ⟨rfl, rfl⟩, HO.out, HB1.out⟩)
      clear HO HB1 hs1
      go_wp2
      go_loopw [6, 27] (fun v i wr => CcRel w l1 l2 v i wr) (fun _ i _ => 2 - (intOf i).toNat)
      case atStart => exact HST.out
      case round =>
        obtain ⟨k, out, rfl, hcase, how, hbel⟩ := hrel
        have HOW := Lib.hid how
        clear how
        rcases hcase with ⟨rfl, hout⟩ | ⟨rfl, hout⟩ | ⟨rfl, hout⟩ <;> rw [hout] at HOW <;> clear hout out
        · have hsr := hbel.size
          have HCL := Lib.hid (show Cel wr w.heap.size 2 A1 l1.length c1 (rgCells l1) from Cel.below H1.out hbel)
          have x0 : wr.cell? ⟨b, 0, none⟩ = some (.slice A1 l1.length c1) := (hbel.cell (p := ⟨b, 0, none⟩) hbw).trans HX.out.x0
          have HON := Lib.hid (show wr.ownsRow w.heap.size 129 2 u6 0 [] from HOW.out)
          go_wp2_with (at_builtin; refine wpList_app (P := Tryz.prog) rfl (.tmp 31) (.tmp 32) 127 rfl 129 i0 _ 2 16 Tryz.underlying127 HI.out HZ0.out HZ1.out HZ2.out rfl (by decide) w.heap.size _ 0 [] rfl ?c1 w.heap.size _ _ _ (rgCells l1) rfl ?c2 ?c3 ?c4 ?c5 ?c6 ?_)
          case c1 => exact HON.out
          case c2 => exact HCL.out
          case c3 => exact rgCells_one _
          case c4 => unfold maxLen; omega
          case c5 => omega
          case c6 => omega
          intro v' w2 hown2 hg2 _
          have HR := Lib.hid (show CcRel w l1 l2 v' (.int .i64 ((0 + 1 : Nat) : Int)) w2 from ⟨0 + 1, l1, rfl, by simp, by
            unfold OwnRB
            first | exact hown2 | (have h9 := hown2; rw [Nat.zero_add, List.nil_append] at h9; exact h9), Below.grown hbel hg2 hsr (fun k' hk' => (World.ownsRow.lt HON.out k' hk').1)⟩)
          clear hown2 hg2 x0
          go_wp2
          go_roundw
          case rel => exact HR.out
          case measure => simp [intOf]
        · have hsr := hbel.size
          have HCL := Lib.hid (show Cel wr w.heap.size 2 A2 l2.length c2 (rgCells l2) from Cel.below H2.out hbel)
          have x1 : wr.cell? ⟨b, 1, none⟩ = some (.slice A2 l2.length c2) := (hbel.cell (p := ⟨b, 1, none⟩) hbw).trans HX.out.x1
          have HON := Lib.hid (show wr.ownsRow w.heap.size 129 2 u6 l1.length (rgCells l1) from HOW.out)
          go_wp2_with (at_builtin; refine wpList_app (P := Tryz.prog) rfl (.tmp 31) (.tmp 32) 127 rfl 129 i0 _ 2 16 Tryz.underlying127 HI.out HZ0.out HZ1.out HZ2.out rfl (by decide) w.heap.size _ l1.length (rgCells l1) rfl ?c1 w.heap.size _ _ _ (rgCells l2) rfl ?c2 ?c3 ?c4 ?c5 ?c6 ?_)
          case c1 => exact HON.out
          case c2 => exact HCL.out
          case c3 => exact rgCells_one _
          case c4 => unfold maxLen; omega
          case c5 => omega
          case c6 => omega
          intro v' w2 hown2 hg2 _
          have HR := Lib.hid (show CcRel w l1 l2 v' (.int .i64 ((1 + 1 : Nat) : Int)) w2 from ⟨1 + 1, l1 ++ l2, rfl, by simp, by
            unfold OwnRB
            rw [rgCells_append, List.length_append]; exact hown2, Below.grown hbel hg2 hsr (fun k' hk' => (World.ownsRow.lt HON.out k' hk').1)⟩)
          clear hown2 hg2 x1
          go_wp2
          go_roundw
          case rel => exact HR.out
          case measure => simp [intOf]
        · obtain ⟨g, cp2, hv, _, _⟩ := World.ownsRow.form HOW.out (by simp; omega)
          subst hv
          go_wp2
          go_ret
          exact ⟨g, cp2, rfl, HOW.out, hbel⟩
end Go.Proofs.YtgbagjpokpchpaaGreatDoor
namespace Go.Proofs
open Go.Shelf
def Tryz.sortR_ren : Go.Shelf.Ren := ⟨fun | 6 => 168 | 15 => 106 | 14 => 206 | 28 => 155 | 29 => 156 | 20 => 225 | 21 => 226 | 22 => 227 | 23 => 228 | 24 => 229 | 25 => 230 | 26 => 231 | 27 => 232 | 46 => 243 | 47 => 189 | 48 => 190 | 49 => 244 | 50 => 245 | 57 => 248 | n => n, fun | 22 => 127 | 24 => 129 | 25 => 224 | 3 => 3 | 39 => 139 | 0 => 0 | 53 => 213 | 55 => 215 | 4 => 4 | 46 => 206 | 45 => 205 | 50 => 170 | 5 => 5 | 9 => 9 | 66 => 233 | 70 => 237 | 76 => 255 | 77 => 119 | n => n, fun | n => n⟩
theorem Tryz.sortR : Go.Proofs.SlLaysF0.n6 Tryz.prog Tryz.sortR_ren := {
  mixed := by kernel_rfl
  f6 := ⟨Tryz.f168.name, by decide, Tryz.func168.trans (congrArg some (by kernel_rfl))⟩
  f14 := ⟨Tryz.f206.name, by decide, Tryz.func206.trans (congrArg some (by kernel_rfl))⟩
  f15 := Tryz.func106.trans (congrArg some (by kernel_rfl))
  f20 := ⟨Tryz.f225.name, by decide, Tryz.func225.trans (congrArg some (by kernel_rfl))⟩
  f21 := ⟨Tryz.f226.name, by decide, Tryz.func226.trans (congrArg some (by kernel_rfl))⟩
  f22 := ⟨Tryz.f227.name, by decide, Tryz.func227.trans (congrArg some (by kernel_rfl))⟩
  f23 := ⟨Tryz.f228.name, by decide, Tryz.func228.trans (congrArg some (by kernel_rfl))⟩
  f24 := ⟨Tryz.f229.name, by decide, Tryz.func229.trans (congrArg some (by kernel_rfl))⟩
  f25 := ⟨Tryz.f230.name, by decide, Tryz.func230.trans (congrArg some (by kernel_rfl))⟩
  f26 := ⟨Tryz.f231.name, by decide, Tryz.func231.trans (congrArg some (by kernel_rfl))⟩
  f27 := ⟨Tryz.f232.name, by decide, Tryz.func232.trans (congrArg some (by kernel_rfl))⟩
  f28 := Tryz.func155.trans (congrArg some (by kernel_rfl))
  f29 := Tryz.func156.trans (congrArg some (by kernel_rfl))
  f46 := ⟨Tryz.f243.name, by decide, Tryz.func243.trans (congrArg some (by kernel_rfl))⟩
  f47 := Tryz.func189.trans (congrArg some (by kernel_rfl))
  f48 := Tryz.func190.trans (congrArg some (by kernel_rfl))
  f49 := ⟨Tryz.f244.name, by decide, Tryz.func244.trans (congrArg some (by kernel_rfl))⟩
  f50 := ⟨Tryz.f245.name, by decide, Tryz.func245.trans (congrArg some (by kernel_rfl))⟩
  f57 := ⟨Tryz.f248.name, by decide, Tryz.func248.trans (congrArg some (by kernel_rfl))⟩
  t0 := Tryz.underlying0
  a0 := Tryz.isAgg0
  z0 := Tryz.sizeOf0
  v0 := Tryz.zeroValue0
  t3 := Tryz.underlying3
  a3 := Tryz.isAgg3
  z3 := Tryz.sizeOf3
  v3 := Tryz.zeroValue3
  t4 := Tryz.underlying4
  a4 := Tryz.isAgg4
  z4 := Tryz.sizeOf4
  v4 := Tryz.zeroValue4
  t5 := Tryz.underlying5
  a5 := Tryz.isAgg5
  z5 := Tryz.sizeOf5
  v5 := Tryz.zeroValue5
  t9 := Tryz.underlying9
  a9 := Tryz.isAgg9
  z9 := Tryz.sizeOf9
  v9 := Tryz.zeroValue9
  t22 := Tryz.underlying127
  a22 := Tryz.isAgg127
  z22 := Tryz.sizeOf127
  v22 := Tryz.zeroValue127
  t25 := Tryz.underlying224
  a25 := Tryz.isAgg224
  z25 := Tryz.sizeOf224
  v25 := Tryz.zeroValue224
  t39 := Tryz.underlying139
  a39 := Tryz.isAgg139
  z39 := Tryz.sizeOf139
  v39 := Tryz.zeroValue139
  t45 := Tryz.underlying205
  a45 := Tryz.isAgg205
  z45 := Tryz.sizeOf205
  v45 := Tryz.zeroValue205
  t46 := Tryz.underlying206
  a46 := Tryz.isAgg206
  z46 := Tryz.sizeOf206
  v46 := Tryz.zeroValue206
  t50 := Tryz.underlying170
  a50 := Tryz.isAgg170
  z50 := Tryz.sizeOf170
  v50 := Tryz.zeroValue170
  t53 := Tryz.underlying213
  a53 := Tryz.isAgg213
  z53 := Tryz.sizeOf213
  v53 := Tryz.zeroValue213
  t55 := Tryz.underlying215
  a55 := Tryz.isAgg215
  z55 := Tryz.sizeOf215
  v55 := Tryz.zeroValue215
  t66 := Tryz.underlying233
  a66 := Tryz.isAgg233
  z66 := Tryz.sizeOf233
  v66 := Tryz.zeroValue233
  t70 := Tryz.underlying237
  a70 := Tryz.isAgg237
  z70 := Tryz.sizeOf237
  v70 := Tryz.zeroValue237
  t76 := Tryz.underlying255
  a76 := Tryz.isAgg255
  z76 := Tryz.sizeOf255
  v76 := Tryz.zeroValue255
  t77 := Tryz.underlying119
  a77 := Tryz.isAgg119
  z77 := Tryz.sizeOf119
  v77 := Tryz.zeroValue119 }
end Go.Proofs
namespace Go.Proofs.YtgbagjpokpchpaaGreatDoor
open Go.RowKit Go.Maps Go.Sort Go.Shelf

abbrev RS := { r : Int × Int // 0 ≤ r.1 ∧ r.1 ≤ 4398046511104 }
instance : Inhabited RS := ⟨⟨(0, 0), by decide⟩⟩
def encRS (r : RS) : List Value := [.int .i64 r.1.1, .int .i64 r.1.2]
def cfRS (x y : RS) : Int := x.1.1 - y.1.1
theorem swoRS : SWO (ltOf cfRS) where
  irrefl x := by unfold ltOf cfRS; simp
  trans x y z h1 h2 := by unfold ltOf cfRS at *; simp at *; omega
  ntrans x y z h1 h2 := by unfold ltOf cfRS at *; simp at *; omega
theorem ucmp_any (x y : RS) (W : World) : Calls Tryz.prog 169 #[.agg #[.int .i64 x.1.1, .int .i64 x.1.2], .agg #[.int .i64 y.1.1, .int .i64 y.1.2]] W fun e w' => e = .returned (.int .i64 (cfRS x y)) ∧ ∃ q os', w' = grow (W.drewN q) os' := by
  have hx := x.2; have hy := y.2
  have HC := Lib.hid (show cfRS x y = x.1.1 - y.1.1 from rfl)
  generalize x.1 = xv at *
  generalize y.1 = yv at *
  obtain ⟨xa, xb⟩ := xv
  obtain ⟨ya, yb⟩ := yv
  simp only at *
  go_enter Tryz.func169, Tryz.ntmps169
  go_wp2
  go_ret
  exact ⟨ret_int HC.out.symm, 0, _, by rw [alloc_eq_grow, alloc_eq_grow, grow_grow]; rfl⟩
theorem flatRS (d : Array RS) : (flatK encRS 2 d).toList = rgCells (d.toList.map (·.1)) := by
  apply List.ext_getElem?
  intro t
  by_cases ht : t < d.size * 2
  · have h1 : (flatK encRS 2 d).toList[t]? = some ((encRS d[t / 2]!)[t % 2]!) := by
      rw [Array.getElem?_toList, Array.getElem?_eq_getElem (by simpa using ht), ← getElem!_pos (flatK encRS 2 d) t (by simpa using ht), get_flatK _ _ _ _ ht]
    have hk : t / 2 < (d.toList.map (·.1)).length := by simp; omega
    have h2 := rgCells_get (d.toList.map (·.1)) (t / 2) hk
    have hd : d[t / 2]! = d[t / 2]'(by omega) := getElem!_pos d (t / 2) (by omega)
    have hg : (d.toList.map (·.1))[t / 2]'hk = (d[t / 2]'(by omega)).1 := by simp
    rw [hg] at h2
    rw [h1, hd]
    have hm : t % 2 = 0 ∨ t % 2 = 1 := by omega
    rcases hm with hm | hm
    · have h3 := h2.1
      rw [show t / 2 * 2 = t by omega] at h3
      rw [hm]; exact h3.symm
    · have h3 := h2.2
      rw [show t / 2 * 2 + 1 = t by omega] at h3
      rw [hm]; exact h3.symm
  · rw [List.getElem?_eq_none (by simp; omega), List.getElem?_eq_none (by rw [rgCells_length]; simp; omega)]
theorem heap_sortedV {w : World} {g n : Nat} {os : Array Obj} {cur : Array Value} {e : TypeId} {fr : Nat × Nat} (F : Array Value) (hb : w.heap[g]? = some (.cells cur e fr)) :
    (grow (putRow id (Sort.ahead w n) g 0 F) os).heap[g]? = some (.cells (putCells id 0 F cur) e fr) := by
  have hg : g < w.heap.size := (Array.getElem?_eq_some_iff.1 hb).1
  rw [heap_grow_old _ _ (by simpa using hg)]
  simp [putRow, mapBlock, Sort.ahead, Array.getElem?_modify, hb, onCells]
theorem grownBy_sortedV {w : World} {g n : Nat} {os : Array Obj} (F : Array Value) : w.grownBy (grow (putRow id (Sort.ahead w n) g 0 F) os) (some g) := by
  refine ⟨rfl, rfl, rfl, by simp, fun k hk hne => ?_⟩
  rw [heap_grow_old _ _ (by simpa using hk)]
  have : g ≠ k := fun e => hne (by rw [e])
  simp [putRow, mapBlock, Sort.ahead, Array.getElem?_modify, this]
theorem take_putCellsV (cur F : Array Value) (h : F.size ≤ cur.size) : (putCells id 0 F cur).toList.take F.size = F.toList := by
  apply List.ext_getElem?
  intro j
  by_cases hj : j < F.size
  · rw [List.getElem?_take_of_lt hj, Array.getElem?_toList]
    simp [putCells, hj, show j < cur.size by omega]
  · rw [List.getElem?_take_eq_none (by omega), List.getElem?_eq_none (by simp; omega)]
def SrtPost (w : World) (base g cap : Nat) (rs : Rg) (e : Ending) (w' : World) : Prop := e = .returned (.tuple #[]) ∧ ∃ rs' : Rg, rs'.Perm rs ∧ rs'.Pairwise (fun a b => a.1 ≤ b.1) ∧ OwnRB w' base (.slice (some ⟨g, 0, none⟩) rs.length cap) rs' ∧ w.grownBy w' (some g)
theorem usort_any (w : World) (base g cap : Nat) (rs : Rg) (hrs : ∀ r ∈ rs, 0 ≤ r.1 ∧ r.1 ≤ 4398046511104) (ho : OwnRB w base (.slice (some ⟨g, 0, none⟩) rs.length cap) rs) (hl : rs.length ≤ 400000) :
    Calls Tryz.prog 168 #[.slice (some ⟨g, 0, none⟩) rs.length cap, .func (.func 169) #[] #[]] w (SrtPost w base g cap rs) := by
  obtain ⟨d, hd⟩ : ∃ d : Array RS, d.toList.map (·.1) = rs := ⟨(rs.pmap (fun r h => (⟨r, h⟩ : RS)) hrs).toArray, by simp [List.map_pmap]⟩
  have hds : d.size = rs.length := by rw [← hd]; simp
  have how := ho
  obtain ⟨hl0, hrow⟩ := ho
  rcases hrow with ⟨hv, _⟩ | ⟨g', cap', cur, hv, hb, hg, hn, hc, hcs, htk⟩
  · cases hv
  obtain ⟨rfl, rfl⟩ : g = g' ∧ cap = cap' := by injection hv with h1 _ h3; injection h1 with h1; injection h1 with h1; exact ⟨h1, h3⟩
  have hlt : g < w.heap.size := (Array.getElem?_eq_some_iff.1 hg).1
  have hH : HoldsK encRS 2 w g 0 d := fun j hj => by
    have hj2 : j < rs.length * 2 := by rw [← hds]; simpa using hj
    rw [Nat.zero_add]
    refine ⟨?_, frozen_of_row w g j _ _ hg⟩
    have h1 := World.ownsRow.cellAt how j hj2
    rw [h1, ← hd, ← flatRS]
    rw [Array.getElem?_toList, Array.getElem?_eq_getElem hj]
    simp only [id]
    rw [getElem!_pos (flatK encRS 2 d) j hj]
  have eg : ∀ args w, (callFunc 169 args).run Tryz.prog w = .ok (.enter 169 args) w := enters_of Tryz.func169 (by kernel_rfl) rfl
  have hcon := AnyQ.slices_SortFunc Tryz.sortR 2 (fun w => by kernel_rfl) (fun w => by kernel_rfl) encRS (fun _ => rfl) (fun x v hv => by simp [encRS] at hv; rcases hv with rfl | rfl <;> rfl) cfRS swoRS 169 #[] g 0 cap d w eg (fun _ _ _ _ x y => ucmp_any x y _) hH hlt (by omega)
  rw [hds] at hcon
  refine (show Calls Tryz.prog 168 #[.slice (some ⟨g, 0, none⟩) rs.length cap, .func (.func 169) #[] #[]] w _ from hcon).mono ?_
  rintro e w' ⟨rfl, d', n, os, hp, hs, rfl⟩
  have hds' : d'.size = d.size := hp.1
  have hperm : d'.toList.Perm d.toList := by
    have h3 := hp.2.2
    rw [← hds] at h3
    have e1 : d'.extract 0 d.size = d' := by rw [← hds']; simp
    have e2 : d.extract 0 d.size = d := by simp
    rw [e1, e2] at h3
    exact h3
  refine ⟨rfl, d'.toList.map (·.1), by rw [← hd]; exact hperm.map _, ?_, ?_, grownBy_sortedV _⟩
  · rw [List.pairwise_map, List.pairwise_iff_getElem]
    intro i j hi hj hij
    have hi' : i < d'.size := by simpa using hi
    have hj' : j < d'.size := by simpa using hj
    have h4 := hs i j (Nat.zero_le _) hij (by omega)
    rw [getElem!_pos d' j hj', getElem!_pos d' i hi'] at h4
    unfold ltOf cfRS at h4
    simp at h4
    simp only [Array.getElem_toList]
    omega
  · have hF : (flatK encRS 2 d').size = rs.length * 2 := by rw [size_flatK, hds', hds]
    have hl' : (d'.toList.map (·.1)).length = rs.length := by simp; omega
    unfold OwnRB
    rw [hl', ← flatRS]
    refine ⟨by simp; omega, .inr ⟨g, cap, _, rfl, hb, heap_sortedV _ hg, hn, hc, by simp [putCells, hcs], ?_⟩⟩
    rw [← hF]
    exact take_putCellsV cur _ (by rw [hF, hcs]; exact Nat.mul_le_mul_right _ hn)
end Go.Proofs.YtgbagjpokpchpaaGreatDoor
