/-
  Layer 5: the document's Files.
  Layer 5: deeds of a journal in memory; heavy.
-/
import Derived.Test.YtejjfhhppjdcaaaGreatDoorJRJl8
import Derived.Test.YtejjfhhppjdcaaaGreatDoorJKeys
import Derived.Test.YtejjfhhppjdcaaaGreatDoorJJLives
namespace Go.Proofs.YtejjfhhppjdcaaaGreatDoor
open Go.RowKit Go.Maps Go.Sort

theorem lt_tot5 {a b : List UInt8} (h : ¬ a < b) (hne : a ≠ b) : b < a := by
  have hle : b ≤ a := List.not_lt.1 h
  rcases Decidable.em (b < a) with h' | h'
  · exact h'
  · exact absurd (List.le_antisymm (List.not_lt.1 h') hle) hne
theorem rising_ins {L ks : List (List UInt8)} (h : Rising L ks) (s : List UInt8) (hs : s ∉ ks) (a : Nat) (ha : a ≤ L.length) (hi : ∀ j (hj : j < L.length), a ≤ j → s < L[j]) (lo : ∀ h0 : 0 < a, ¬ s < L[a - 1]'(by omega)) :
    Rising (L.take a ++ [s] ++ L.drop a) (ks ++ [s]) := by
  have hpw := List.pairwise_iff_getElem.1 h.1
  have h1 : ∀ x ∈ L.take a, x < s := fun x hx => by
    obtain ⟨i, hi', rfl⟩ := List.getElem_of_mem hx
    rw [List.length_take] at hi'
    rw [List.getElem_take]
    have h0 : 0 < a := by omega
    have hl : L[a - 1]'(by omega) < s := lt_tot5 (lo h0) (fun e => hs (e ▸ (h.2 _).1 (List.getElem_mem _)))
    by_cases e : i = a - 1
    · subst e; exact hl
    · exact List.lt_trans (hpw i (a - 1) (by omega) (by omega) (by omega)) hl
  have h2 : ∀ x ∈ L.drop a, s < x := fun x hx => by
    obtain ⟨i, hi', rfl⟩ := List.getElem_of_mem hx
    rw [List.getElem_drop]
    rw [List.length_drop] at hi'
    exact hi (a + i) (by omega) (by omega)
  have hsp : (L.take a ++ L.drop a).Pairwise (· < ·) := by rw [List.take_append_drop]; exact h.1
  obtain ⟨p1, p2, p3⟩ := List.pairwise_append.1 hsp
  refine ⟨?_, fun x => ?_⟩
  · rw [List.append_assoc]
    refine List.pairwise_append.2 ⟨p1, List.pairwise_cons.2 ⟨h2, p2⟩, fun x hx y hy => ?_⟩
    rcases List.mem_cons.1 hy with e | e
    · rw [e]; exact h1 x hx
    · exact p3 x hx y e
  · have e1 : x ∈ ks ++ [s] ↔ x ∈ L ∨ x = s := by rw [List.mem_append, ← h.2 x, List.mem_singleton]
    rw [e1]
    have : x ∈ L ↔ x ∈ L.take a ∨ x ∈ L.drop a := by rw [← List.mem_append, List.take_append_drop]
    rw [this]
    simp only [List.mem_append, List.mem_singleton]
    constructor
    · rintro ((h | h) | h)
      · exact .inl (.inl h)
      · exact .inr h
      · exact .inl (.inr h)
    · rintro ((h | h) | h)
      · exact .inl (.inl h)
      · exact .inr h
      · exact .inl (.inr h)
theorem rising_len {L : List (List UInt8)} (s : List UInt8) (a : Nat) (ha : a ≤ L.length) : (L.take a ++ [s] ++ L.drop a).length = L.length + 1 := by
  simp only [List.length_append, List.length_take, List.length_drop, List.length_singleton]; omega
theorem ownsRow_le {w : World} {base base' : Nat} {e : TypeId} {size n : Nat} {v : Value} {xs : List Value} (h : w.ownsRow base e size v n xs) (hb : base' ≤ base) : w.ownsRow base' e size v n xs := by
  refine ⟨h.1, ?_⟩
  rcases h.2 with ⟨e, hl⟩ | ⟨g, cap, cur, e, hb', hg, hr⟩
  · exact .inl ⟨e, hl⟩
  · exact .inr ⟨g, cap, cur, e, by omega, hg, hr⟩
/-- the names of the first k files -/
def fileNs (s : List UInt8) (k : Nat) : List (List UInt8) := (List.range k).map (segF s)
theorem fileNs_succ (s : List UInt8) (k : Nat) : fileNs s (k + 1) = fileNs s k ++ [segF s k] := by simp [fileNs, List.range_succ]
theorem fileNs_not (s : List UInt8) (k : Nat) : segF s k ∉ fileNs s k := fun h => by
  obtain ⟨i, hi, e⟩ := List.mem_map.1 h
  have := segF_inj e
  have := List.mem_range.1 hi
  omega
def OwnT (w : World) (base : Nat) (v : Value) (L : List (List UInt8)) : Prop := w.ownsRow base 9 1 v L.length (L.map encStr)
def RFlRel (w : World) (s : List UInt8) (v i : Value) (wr : World) (n : Nat) : Prop := ∃ (k : Nat) (L : List (List UInt8)), i = .int .i64 k ∧ k ≤ n ∧ L.length = k ∧ Rising L (fileNs s k) ∧ OwnT wr w.heap.size v L ∧ RowKit.Below w.heap.size w wr
def RFlPost (w : World) (s : List UInt8) (n : Nat) (e : Ending) (w' : World) : Prop := ∃ v L, e = .returned v ∧ Rising L (fileNs s n) ∧ OwnT w' w.heap.size v L ∧ RowKit.Below w.heap.size w w'
set_option maxRecDepth 100000 in
set_option maxHeartbeats 4000000 in
theorem rfiles_any (w : World) (s : List UInt8) (n p : Nat) (hs : s.length ≤ 100) (hn : n ≤ 1000000) (hp1 : 1 ≤ p) (hp2 : p ≤ 4096) (hnn : nseg n p < 100) :
    Calls Tryz.prog 44 #[.string ⟨s.toArray⟩, .int .i64 n, .int .i64 p] w (RFlPost w s (nseg n p)) := by
  obtain ⟨i0, hi, hz0, hz1, hz2⟩ := info_parts str_info
  have HI := Lib.hid hi; have HZ0 := Lib.hid hz0; have HZ1 := Lib.hid hz1; have HZ2 := Lib.hid hz2
  clear hi hz0 hz1 hz2
  have HSG := Lib.hid (fun W => rsegs_any W n p hn hp1 hp2)
  obtain ⟨m, hm⟩ : ∃ m, m = nseg n p := ⟨_, rfl⟩
  rw [← hm] at hnn HSG ⊢
  clear hm
  have HST := Lib.hid (show RFlRel w s (.slice (some ⟨w.heap.size, 0, none⟩) 0 0) (.int .i64 ((0 : Nat) : Int)) (w.alloc (.cells #[] 9)) m from ⟨0, [], rfl, Nat.zero_le _, rfl, ⟨List.Pairwise.nil, fun x => by simp [fileNs]⟩, World.ownsRow_lit w #[] 0 (Nat.le_refl _) (by simp [maxLen]) rfl, (Below.refl _ _).alloc (Nat.le_refl _) _⟩)
  go_enter Tryz.func44, Tryz.ntmps44
  go_wp2_with fail
  go_loopw [7, 8] (fun v i wr => RFlRel w s v i wr m) (fun _ i _ => m - (intOf i).toNat)
  case atStart => exact HST.out
  case round =>
    obtain ⟨k, L, rfl, hk, hL, hri, hov, hbel⟩ := hrel
    have HRI := Lib.hid hri; have HV := Lib.hid hov; have HBL := Lib.hid hbel
    clear hri hov hbel
    go_wp2_with fail
    refine (HSG.out wr).mono ?_
    rintro r w1 ⟨rfl, rfl⟩
    by_cases hkm : k < m
    · have t1 : (k : Int) < m := by omega
      go_wp2_with fail
      refine (rfile_any wr s k hs (by omega)).mono ?_
      rintro r w2 ⟨rfl, hb2⟩
      have HB2 := Lib.hid (show RowKit.Below w.heap.size w w2 from HBL.out.trans (hb2.mono HBL.out.size))
      have HV2 := Lib.hid (show OwnT w2 w.heap.size u7 L from ownsRow_below HV.out hb2 (Nat.le_refl _))
      obtain ⟨A, c, hv⟩ := ownsRow_form HV2.out
      subst hv
      have HC2 := Lib.hid (show Strs w2 w2.heap.size A L.length c L from Cel.of_own HV2.out)
      have hcap := Cel.cap HC2.out
      have hsz := HB2.out.size
      clear hb2
      have HFN := Lib.hid (fileNs_not s k)
      have HSC := Lib.hid (fileNs_succ s k)
      generalize segF s k = nm at *
      go_wp2_with fail
      go_loopw [10] (fun a wr => ∃ q : Nat, a = .int .i64 q ∧ q ≤ L.length ∧ wr = w2 ∧ ∀ j (hj : j < L.length), q ≤ j → nm < L[j]) (fun a _ => (intOf a).toNat)
      case atStart => exact ⟨L.length, by first | rfl | (simp [hL]; done), Nat.le_refl _, rfl, fun j hj h => by omega⟩
      case round =>
        obtain ⟨q, rfl, hq, rfl, hhi⟩ := hrel
        have HHI := Lib.hid hhi; clear hhi
        have HGO := Lib.hid (show (∀ h0 : 0 < q, ¬ nm < L[q - 1]'(by omega)) → Rising (L.take q ++ [nm] ++ L.drop q) (fileNs s (k + 1)) ∧ (L.take q ++ [nm] ++ L.drop q).length = k + 1 from fun hlo => ⟨by rw [HSC.out]; exact rising_ins HRI.out nm HFN.out q hq HHI.out hlo, by rw [rising_len nm q hq, hL]⟩)
        have HRD := Lib.hid (show ∀ v w3, (∀ h0 : 0 < q, ¬ nm < L[q - 1]'(by omega)) → w3.ownsRow wr.heap.size 9 1 v (q + 1 + (L.length - q)) ((L.take q).map encStr ++ [.string ⟨nm.toArray⟩] ++ (L.drop q).map encStr) → RowKit.Below wr.heap.size wr w3 → RFlRel w s v (.int .i64 ((k : Int) + 1)) w3 m from fun v w3 hlo ho hb => by
          refine ⟨k + 1, _, rfl, by omega, (HGO.out hlo).2, (HGO.out hlo).1, ?_, HB2.out.trans (hb.mono HB2.out.size)⟩
          unfold OwnT
          have e1 : (L.take q ++ [nm] ++ L.drop q).map encStr = (L.take q).map encStr ++ [.string ⟨nm.toArray⟩] ++ (L.drop q).map encStr := by simp [encStr]
          rw [e1, (HGO.out hlo).2, show k + 1 = q + 1 + (L.length - q) by omega]
          exact ownsRow_le ho HB2.out.size)
        clear HGO
        by_cases hq0 : ∃ q' : Nat, ∃ h : q = q' + 1, nm < L[q']'(by omega)
        · obtain ⟨q', rfl, hlt⟩ := hq0
          obtain ⟨b, off, rfl, hb, hc⟩ := HC2.out.at_ q' (by omega)
          have hl1 : Op.bytesLess nm L[q'] = true := by rw [bytesLess_eq]; exact decide_eq_true hlt
          have HN := Lib.hid (show ∀ j (hj : j < L.length), q' ≤ j → nm < L[j] from fun j hj h => by
            by_cases e : j = q'
            · subst e; exact hlt
            · exact HHI.out j hj (by omega))
          clear hlt HRD HHI
          generalize L[q'] = y at hc hl1
          have t3 : (0 : Int) < (q' : Int) + 1 := by omega
          go_wp2
          go_roundw
          case rel => exact ⟨q', by first | rfl | go_num, by omega, by trivial, HN.out⟩
          case measure => simp [intOf]
        · have hlo : ∀ h0 : 0 < q, ¬ nm < L[q - 1]'(by omega) := fun h0 h => hq0 ⟨q - 1, by omega, h⟩
          replace HRD := Lib.hid (fun v w3 => HRD.out v w3 hlo)
          have HU2 := Lib.hid (Cel.upto HC2.out q hq)
          have hTL : (L.map encStr).take (q * 1) = (L.take q).map encStr := by rw [Nat.mul_one, List.map_take]
          have hDL : (L.map encStr).drop (q * 1) = (L.drop q).map encStr := by rw [Nat.mul_one, List.map_drop]
          rw [hTL] at HU2
          clear hTL hq0
          have hlL : L.length ≤ 100 := by omega
          generalize hTk : (L.take q).map encStr = tk at *
          generalize hDr : (L.drop q).map encStr = dr at *
          have HTO := Lib.hid (show ∀ u ∈ tk, u.oneCell' = true from fun u hu => by subst hTk; obtain ⟨x, _, rfl⟩ := List.mem_map.1 hu; rfl)
          have HDO := Lib.hid (show ∀ u ∈ dr, u.oneCell' = true from fun u hu => by subst hDr; obtain ⟨x, _, rfl⟩ := List.mem_map.1 hu; rfl)
          by_cases hq1 : q = 0
          case' pos =>
            subst hq1
            have HD2 := Lib.hid (show Cel wr wr.heap.size 1 A k c dr from by
              have := HC2.out; unfold Strs at this; rw [hL] at this; rw [← hDr]; exact this)
            clear hlo hTk hDr
            go_upto_region 9 with fail
          case' neg =>
            have HD2 := Lib.hid (Cel.from_ HC2.out q hq)
            rw [hDL, hL] at HD2
            obtain ⟨q', rfl⟩ : ∃ q', q = q' + 1 := ⟨q - 1, by omega⟩
            obtain ⟨b, off, rfl, hb, hc⟩ := HC2.out.at_ q' (by omega)
            have hl1 : Op.bytesLess nm L[q'] = false := by rw [bytesLess_eq]; exact decide_eq_false (hlo (by omega))
            clear hlo hTk hDr
            generalize L[q'] = y at hc hl1
            have t3 : (0 : Int) < (q' : Int) + 1 := by omega
            go_upto_region 9 with fail
            generalize hqq : q' + 1 = q at *
            by_cases hcq : c = q
            case' pos =>
              rw [if_pos hcq] at HD2
              subst hcq
              rw [Nat.sub_self] at HD2
            case' neg =>
              have HD2 := Lib.hid (show Cel wr wr.heap.size 1 (some ⟨b, off + q, none⟩) (k - q) (c - q) dr from by
                have := HD2.out; rw [if_neg hcq, Nat.mul_one, Option.map_some, show (⟨b, off, none⟩ : Addr).add q = ⟨b, off + q, none⟩ by unfold Addr.add; split <;> simp_all] at this; exact this)
          all_goals
            go_wp2_with (at_builtin; refine wpList_app (P := Tryz.prog) rfl (.tmp 38) (.tmp 41) 37 rfl 9 i0 (.string ByteArray.empty) 1 16 Tryz.underlying37 HI.out HZ0.out HZ1.out HZ2.out rfl (by decide) wr.heap.size _ 0 [] rfl ?c1 wr.heap.size _ _ _ tk rfl ?c2 HTO.out ?c4 ?c5 ?c6 ?_)
            case c1 => exact World.ownsRow_lit wr #[] 0 (Nat.le_refl _) (by simp [maxLen]) rfl
            case c2 => exact Cel.alloc HU2.out (Nat.le_refl _) _
            case c4 => unfold maxLen; omega
            case c5 => omega
            case c6 => first | omega | (simp; omega) | simp
            intro v3 w3 hown3 hg3 _
            have HO3 := Lib.hid hown3
            have HB3 := Lib.hid (show RowKit.Below wr.heap.size wr w3 from Below.grown ((Below.refl _ _).alloc (Nat.le_refl _) _) hg3 (by simp) (fun j hj => Nat.le_of_eq (Option.some.inj hj)))
            have hs3 := HB3.out.size
            clear hown3 hg3
            go_wp2_with (at_builtin; refine wpList_app (P := Tryz.prog) rfl (.tmp 42) (.tmp 44) 37 rfl 9 i0 (.string ByteArray.empty) 1 16 Tryz.underlying37 HI.out HZ0.out HZ1.out HZ2.out rfl (by decide) wr.heap.size _ _ _ rfl (World.ownsRow.alloc HO3.out _) (w3.heap.size + 1) _ _ _ [.string ⟨nm.toArray⟩] rfl ?c2 ?c3 ?c4 ?c5 ?c6 ?_)
            case c2 => exact Cel.new w3 #[.string ⟨nm.toArray⟩] _ (by unfold maxLen; omega) rfl
            case c3 => simp [Value.oneCell']
            case c4 => unfold maxLen; omega
            case c5 => omega
            case c6 => first | omega | (simp; omega)
            intro v4 w4 hown4 hg4 _
            have HO4 := Lib.hid hown4
            have HB4 := Lib.hid (show RowKit.Below wr.heap.size wr w4 from Below.grown (HB3.out.alloc HB3.out.size _) hg4 (by first | omega | (simp; omega)) (fun j hj => (World.ownsRow.lt HO3.out j hj).1))
            have hs4 := HB4.out.size
            clear hown4 hg4 hs3
            go_wp2_with (at_builtin; refine wpList_app (P := Tryz.prog) rfl (.tmp 46) (.tmp 49) 37 rfl 9 i0 (.string ByteArray.empty) 1 16 Tryz.underlying37 HI.out HZ0.out HZ1.out HZ2.out rfl (by decide) wr.heap.size _ _ _ rfl HO4.out wr.heap.size _ _ _ dr rfl ?c2 HDO.out ?c4 ?c5 ?c6 ?_)
            case c2 => exact Cel.below HD2.out HB4.out
            case c4 => unfold maxLen; omega
            case c5 => omega
            case c6 => first | omega | (simp; omega)
            intro v5 w5 hown5 hg5 _
            have HB5 := Lib.hid (show RowKit.Below wr.heap.size wr w5 from Below.grown HB4.out hg5 (by first | omega | (simp; omega)) (fun j hj => (World.ownsRow.lt HO4.out j hj).1))
            have HRL := Lib.hid (HRD.out v5 w5 (by rw [hL]; first | exact hown5 | (simpa using hown5)) HB5.out)
            clear hown5 hg5 hs4
            go_wp2
            go_roundw
            case rel => exact HRL.out
            case measure => simp [intOf]; omega
    · have t1 : ¬ (k : Int) < m := by omega
      have HFI := Lib.hid (show RFlPost w s m (.returned u7) wr from ⟨_, L, rfl, by rw [show m = k by omega]; exact HRI.out, HV.out, HBL.out⟩)
      go_wp2
      go_ret
      exact HFI.out
end Go.Proofs.YtejjfhhppjdcaaaGreatDoor
namespace Go.Proofs.YtejjfhhppjdcaaaGreatDoor
open Go.RowKit Go.Maps Go.Sort

/-- a deed at a journal -/
structure Dj where
  kind : Int
  l : List Ev
  per : List UInt8
  from_ : Int
  n : Int
instance : Inhabited Dj := ⟨⟨0, [], [], 0, 0⟩⟩
def DjAt (w : World) (B b o : Nat) (d : Dj) : Prop :=
  w.cell? ⟨b, o, none⟩ = some (.int .u8 d.kind) ∧
  (∃ A n c, w.cell? ⟨b, o + 1, none⟩ = some (.slice A n c) ∧ Evs w B A n c d.l ∧ n ≤ 140737488355328) ∧
  w.cell? ⟨b, o + 2, none⟩ = some (.string ⟨d.per.toArray⟩) ∧ w.cell? ⟨b, o + 3, none⟩ = some (.int .i64 d.from_) ∧ w.cell? ⟨b, o + 4, none⟩ = some (.int .i64 d.n)
theorem DjAt.below {w w' : World} {B b o : Nat} {d : Dj} (h : DjAt w B b o d) (hb : RowKit.Below B w w') (hB : b < B) : DjAt w' B b o d := by
  obtain ⟨h0, ⟨A, n, c, h1, h1', h1''⟩, h2, h3, h4⟩ := h
  have key : ∀ (o : Nat) u, w.cell? ⟨b, o, none⟩ = some u → w'.cell? ⟨b, o, none⟩ = some u := fun o u hu => (hb.cell (p := ⟨b, o, none⟩) hB).trans hu
  exact ⟨key _ _ h0, ⟨A, n, c, key _ _ h1, Cel.below h1' hb, h1''⟩, key _ _ h2, key _ _ h3, key _ _ h4⟩
structure Djs (w : World) (B : Nat) (A : Option Addr) (n c : Nat) (ds : List Dj) : Prop where
  len : ds.length = n
  cap : n ≤ c
  max : c ≤ maxLen
  at_ : ∀ k (h : k < ds.length), ∃ b off, A = some ⟨b, off, none⟩ ∧ b < B ∧ DjAt w B b (off + k * 5) ds[k]
theorem Djs.below {w w' : World} {B n c : Nat} {A : Option Addr} {ds : List Dj} (h : Djs w B A n c ds) (hb : RowKit.Below B w w') : Djs w' B A n c ds :=
  ⟨h.len, h.cap, h.max, fun k hk => by
    obtain ⟨b, off, e, hB, hd⟩ := h.at_ k hk
    exact ⟨b, off, e, hB, hd.below hb hB⟩⟩
def bigL (ds : List Ev) : Bool := ds.any (fun d => bigB d 300)
def sumL (ds : List Dj) : Nat := (ds.map (·.l.length)).sum
def heavyB (ds : List Dj) : Bool := ds.any (fun d => bigL d.l) || (decide (20 < ds.length) || decide (60 < sumL ds))
theorem sumL_snoc (ds : List Dj) (k : Nat) (hk : k < ds.length) : sumL (ds.take (k + 1)) = sumL (ds.take k) + ds[k].l.length := by
  unfold sumL
  rw [List.take_add_one, List.getElem?_eq_getElem hk, Option.toList_some, List.map_append, List.sum_append]; simp
def HvRel (w : World) (ds : List Dj) (a i : Value) (wr : World) : Prop := ∃ (k : Nat) (v : Int), i = .int .i64 k ∧ k ≤ ds.length ∧ a = .int .i64 v ∧ (ds.length ≤ 20 → v = sumL (ds.take k) ∧ sumL (ds.take k) ≤ k * 140737488355328) ∧ (∀ d ∈ ds.take k, bigL d.l = false) ∧ RowKit.Below w.heap.size w wr
set_option maxRecDepth 100000 in
set_option maxHeartbeats 4000000 in
theorem heavy05_any (w : World) (A : Option Addr) (n c : Nat) (ds : List Dj) (h : Djs w w.heap.size A n c ds) (hn : n ≤ 140737488355328) :
    Calls Tryz.prog 33 #[.slice A n c] w (Says (heavyB ds) w) := by
  have HH := Lib.hid h; clear h
  have hl := HH.out.len
  have HL := Lib.hid hl; clear hl
  have HST := Lib.hid (show HvRel w ds (.int .i64 0) (.int .i64 ((0 : Nat) : Int)) w from ⟨0, 0, rfl, Nat.zero_le _, rfl, fun _ => ⟨rfl, by simp [sumL]⟩, by simp, Below.refl _ _⟩)
  go_enter Tryz.func33, Tryz.ntmps33
  go_wp2
  go_loopw [3, 4] (fun a i wr => HvRel w ds a i wr) (fun _ i _ => n - (intOf i).toNat)
  case atStart => exact HST.out
  case round =>
    obtain ⟨k, v, rfl, hk, rfl, hsum, hno, hbel⟩ := hrel
    have HNO := Lib.hid hno; clear hno
    have HSM := Lib.hid hsum; clear hsum
    have hkL : k ≤ n := by rw [← HL.out]; exact hk
    have hsz := hbel.size
    by_cases hkn : k < n
    · have hkl : k < ds.length := by rw [HL.out]; exact hkn
      obtain ⟨b, off, rfl, hb, hd⟩ := HH.out.at_ k hkl
      obtain ⟨_, ⟨A1, n1, c1, e1, hev, hn1⟩, _⟩ := hd.below hbel hb
      have HEV := Lib.hid (show Evs wr wr.heap.size A1 n1 c1 ds[k].l from Cel.more hev hsz)
      have HT := Lib.hid (show bigL ds[k].l = false → ∀ d ∈ ds.take (k + 1), bigL d.l = false from fun h d hd => by
        rw [List.take_add_one, List.getElem?_eq_getElem hkl, Option.toList_some] at hd
        rcases List.mem_append.1 hd with hd | hd
        · exact HNO.out d hd
        · simp at hd; subst hd; exact h)
      have HY := Lib.hid (show bigL ds[k].l = true → heavyB ds = true from fun h => by
        unfold heavyB; rw [List.any_eq_true.2 ⟨_, List.getElem_mem hkl, h⟩]; rfl)
      have HSS := Lib.hid (sumL_snoc ds k hkl)
      have HLN := Lib.hid (show ds[k].l.length = n1 from HEV.out.len)
      have HN := Lib.hid (show ∀ v2 : Int, (ds.length ≤ 20 → v2 = v + n1) → (ds.length ≤ 20 → v2 = sumL (ds.take (k + 1)) ∧ sumL (ds.take (k + 1)) ≤ (k + 1) * 140737488355328) from fun v2 h h20 => by
        obtain ⟨a1, a2⟩ := HSM.out h20
        have a3 := h h20
        rw [HSS.out, HLN.out]
        refine ⟨by rw [a3, a1]; simp, ?_⟩
        rw [Nat.succ_mul]; omega)
      have HV20 := Lib.hid (show ds.length ≤ 20 → 0 ≤ v ∧ v ≤ 2814749767106560 from fun h => by
        obtain ⟨a1, a2⟩ := HSM.out h
        have : k * 140737488355328 ≤ 20 * 140737488355328 := Nat.mul_le_mul_right _ (by omega)
        omega)
      generalize ds[k].l = l1 at *
      clear hd hev hb
      have t1 : (k : Int) < n := by omega
      obtain ⟨v2, hv2⟩ : ∃ v2, v2 = wrap64 (v + n1) := ⟨_, rfl⟩
      have HN2 := Lib.hid (HN.out v2 (fun h => by have := HV20.out h; rw [hv2]; unfold wrap64; omega))
      have hv3 := hv2.symm
      clear hv2 HN HV20
      go_wp2_with fail
      refine (some_any wr A1 n1 c1 l1 HEV.out hn1 300).mono ?_
      rintro r w2 ⟨rfl, hb2⟩
      have hbw2 : RowKit.Below w.heap.size w w2 := hbel.trans (hb2.mono hbel.size)
      clear hb2
      cases hbg : bigL l1
      · have HT' := Lib.hid (HT.out hbg)
        have hbg' : (l1.any fun d => bigB d 300) = false := hbg
        clear hbg
        rw [hbg']
        clear hbg'
        go_wp2
        go_roundw
        case rel => exact ⟨k + 1, v2, by go_num, by omega, by first | rfl | (rw [hv3]), HN2.out, HT'.out, hbw2⟩
        case measure => simp [intOf]; omega
      · have HY' := Lib.hid (HY.out hbg)
        have hbg' : (l1.any fun d => bigB d 300) = true := hbg
        clear hbg
        rw [hbg']
        clear hbg'
        go_wp2
        go_ret
        exact ⟨ret_bool (by rw [HY'.out]), hbw2⟩
    · have hany : ds.any (fun d => bigL d.l) = false := by
        rw [List.any_eq_false]
        intro d hd
        have := HNO.out d (by rw [List.take_of_length_le (by rw [HL.out]; omega)]; exact hd)
        simp [this]
      have t1 : ¬ (k : Int) < n := by omega
      by_cases h20 : (20 : Int) < n
      · have HZ := Lib.hid (show heavyB ds = true by unfold heavyB; rw [hany, decide_eq_true (by rw [HL.out]; omega)]; rfl)
        clear hany
        go_wp2
        go_ret
        exact ⟨ret_bool (by rw [HZ.out]), hbel⟩
      · obtain ⟨a1, a2⟩ := HSM.out (by rw [HL.out]; omega)
        have hs : sumL (ds.take k) = sumL ds := by rw [List.take_of_length_le (by rw [HL.out]; omega)]
        have HZ := Lib.hid (show heavyB ds = decide ((60 : Int) < v) by
          unfold heavyB; rw [hany, decide_eq_false (show ¬ 20 < ds.length by rw [HL.out]; omega), a1, hs]
          simp; norm_cast)
        clear hany a1 a2 hs
        go_wp2
        go_ret
        exact ⟨ret_bool (by rw [HZ.out]), hbel⟩
end Go.Proofs.YtejjfhhppjdcaaaGreatDoor
