/-
  Layer 7: Put.
-/
import Derived.Test.YtbejfgmdkmddnaaGreatDoorSHad
import Derived.Test.YtbejfgmdkmddnaaGreatDoorSIns
namespace Go.Proofs.YtbejfgmdkmddnaaGreatDoor
open Go.RowKit Go.Maps Go.Sort

def HPutPost (w : World) (G : Nat → Prop) (bs bm : Nat) (m : Had) (ok : Bool) (e : Ending) (w' : World) : Prop :=
  ∃ G' V', e = .returned (.bool ok) ∧ HadAt w' G' bs bm m V' ∧ Keep G w w' ∧ ∀ b, G' b → G b ∨ w.heap.size ≤ b

theorem HadAt.mid {w1 w2 : World} {G : Nat → Prop} {bs bm : Nat} {m : Had} {V : List UInt8 → Value} (h : HadAt w1 G bs bm m V) (s : List UInt8) (v : Value)
    (hv0 : getB m s = none → v = .slice none 0 0) (hv1 : ∀ rs, getB m s = some rs → v = V s) (hg : w1.grownBy w2 v.ownBlock) : MapS w2 bm (m.map fun p => (p.1, V p.1)) ∧ w2.cell? ⟨bs, 0, none⟩ = some (.map (some bm)) := by
  obtain ⟨es, cl, hmap⟩ := h.map.isMap
  have hrow : ∀ b, v.ownBlock = some b → ∃ cs, w1.heap[b]? = some (.cells cs 173 (0, 0)) := fun b hb => by
    cases hgs : getB m s with
    | none => rw [hv0 hgs] at hb; cases hb
    | some rs => rw [hv1 rs hgs] at hb; exact (h.own _ (getB_mem hgs)).typ hb
  refine ⟨h.map.block (hg.block bm (h.lt _ h.gm) (fun e => ?_)), ?_⟩
  · obtain ⟨cs, hc⟩ := hrow bm e.symm
    rw [hmap] at hc; cases hc
  · rw [World.cell?_of_block (w := w1) (a := ⟨bs, 0, none⟩) (hg.block bs (h.lt _ h.gs) (fun e => ?_))]
    · exact h.cell
    · obtain ⟨cs, hc⟩ := hrow bs e.symm
      rw [h.blk] at hc
      injection hc with hc; injection hc with _ ht; exact absurd ht (by decide)
theorem OwnR.form {w : World} {v : Value} {rs : Rg} (h : OwnR w v rs) (h0 : 0 < rs.length) : ∃ g c cur, v = .slice (some ⟨g, 0, none⟩) rs.length c ∧ w.heap[g]? = some (.cells cur 173 (0, 0)) ∧ rs.length ≤ c ∧ c ≤ maxLen ∧ cur.size = c * 2 ∧ cur.toList.take (rs.length * 2) = rgCells rs := by
  rcases h.2 with ⟨_, h'⟩ | ⟨g, c, cur, e, _, r⟩
  · omega
  · exact ⟨g, c, cur, e, r⟩

set_option maxRecDepth 100000 in
set_option maxHeartbeats 2000000 in
theorem put_zz (w : World) (G : Nat → Prop) (bs bm : Nat) (m : Had) (V : List UInt8 → Value) (h : HadAt w G bs bm m V) (s : List UInt8) (n : Int) (_hlen : (hadRow m s).length ≤ 100000) (hml : m.length < 1000000) (hp : putsB m s n = true)
    (hL : plc (hadRow m s) n = 0) (hR : plc (hadRow m s) n = (hadRow m s).length) :
    Calls Tryz.prog 85 #[.pointer (some ⟨bs, 0, none⟩), .string ⟨s.toArray⟩, .int .i64 n] w (HPutPost w G bs bm (putH m s n) true) := by
  have hok := h.ok.put hp
  have hp' := hp
  unfold putsB at hp'
  simp only [Bool.and_eq_true, decide_eq_true_eq, Bool.not_eq_true'] at hp'
  obtain ⟨⟨⟨p1, p2⟩, p3⟩, p4⟩ := hp'
  have hs24 : s.length ≤ 24 := by unfold nameB at p1; simp at p1; omega
  have HRG := Lib.hid (h.ok.row s)
  have HP1 := Lib.hid p1; have HP4 := Lib.hid p4; have HH := Lib.hid h
  have HPH := Lib.hid (show hasR (hadRow m s) n = false from p4)
  have HPR := Lib.hid (show putH m s n = putB s (putR (hadRow m s) n) m from rfl)
  have HOK := Lib.hid hok
  clear hok hp p1 p4
  go_enter Tryz.func85, Tryz.ntmps85
  go_wp2_with fail
  refine (name_all w s).mono ?_
  rintro e w0 ⟨rfl, rfl⟩
  rw [HP1.out]
  have d1 : decide (n < 1) = false := decide_eq_false (by omega)
  have d2 : decide (1099511627776 < n) = false := decide_eq_false (by omega)
  go_wp2_with fail
  refine (has_any w G bs bm m V HH.out s (by omega) (by omega) n).mono ?_
  rintro e w1 ⟨rfl, hb1⟩
  rw [HP4.out]
  have HH1 := Lib.hid (HH.out.up hb1)
  obtain ⟨v, hl, hown, hv0, hv1⟩ := HH1.out.look s (by omega)
  have hc1 := HH1.out.cell
  have HV0 := Lib.hid hv0; have HV1 := Lib.hid hv1
  have HPL := Lib.hid (show putR (hadRow m s) n = putR (hadRow m s) n from rfl)
  generalize hrs : hadRow m s = rs at *
  have HRS := Lib.hid hrs
  clear hrs hv0 hv1
  obtain ⟨A, c, rfl⟩ := ownsRow_form hown
  have HO1 := Lib.hid hown
  clear hown d1 d2
  go_wp2_with fail
  refine (place_any w1 _ rs HO1.out HRG.out (by omega) n).mono ?_
  rintro e w2 ⟨rfl, hb2⟩
  have HH2 := Lib.hid (HH1.out.up hb2)
  have HO2 := Lib.hid (HO1.out.up hb2)
  have hbw : Below w.heap.size w w2 := hb1.trans (hb2.mono hb1.size)
  have hsz := hbw.size
  clear hl hc1 hb1 hb2
  have hpl := plc_le rs n
  have HLB := Lib.hid (show lefB rs n = false by unfold lefB; simp [hL])
  have HRB := Lib.hid (show rigB rs n = false by unfold rigB; simp [hR])
  have HPU := Lib.hid (show putR rs n = rs.take (plc rs n) ++ [(n, n + 1)] ++ rs.drop (plc rs n) by unfold putR; rw [HLB.out, HRB.out]; rfl)
  clear HLB HRB HPL
  generalize hpk : plc rs n = k at *
  clear hpk
  have k1 : ¬ (0 : Int) < k := by omega
  have k3 : ¬ (k : Int) < rs.length := by omega
  clear hL hR
  go_wp2_with fail
  have hbA : Below w2.heap.size w2 (w2.alloc (.cells #[.int .i64 n, .int .i64 (n + 1)] 173)) := (Below.refl _ _).alloc (Nat.le_refl _) _
  have hnew : (w2.alloc (.cells #[.int .i64 n, .int .i64 (n + 1)] 173)).heap[w2.heap.size]? = some (.cells [Value.int .i64 n, Value.int .i64 (n + 1)].toArray 173 (0, 0)) := heap_alloc_new w2 _
  have hszA : (w2.alloc (.cells #[.int .i64 n, .int .i64 (n + 1)] 173)).heap.size = w2.heap.size + 1 := by simp
  have hgA : w2.grownBy (w2.alloc (.cells #[.int .i64 n, .int .i64 (n + 1)] 173)) (Value.slice A rs.length c).ownBlock := World.grownBy_alloc w2 _ _
  generalize (w2.alloc (.cells #[.int .i64 n, .int .i64 (n + 1)] 173)) = w3 at *
  have hi := insR_any w3 0 rs.length k w2.heap.size _ (rgCells rs) [.int .i64 n, .int .i64 (n + 1)] (by omega) (by omega) (Nat.zero_le _) (HO2.out.up hbA) rfl hnew (fun e => by have := (World.ownsRow.lt HO2.out _ e).2; omega) (rgCells_one rs) (by intro u hu; simp at hu; rcases hu with rfl | rfl <;> rfl)
  refine hi.mono ?_
  rintro e w4 ⟨v', rfl, ho4, hg4, hbl4⟩
  have HG4 := Lib.hid (hgA.andThen hg4 (fun j hj => .inr hj))
  have HO5 := Lib.hid (show OwnR w4 v' (putR rs n) by
    have := ho4
    rw [rgCells_take, rgCells_drop, show [Value.int .i64 n, Value.int .i64 (n + 1)] = rgCells [(n, n + 1)] from rfl, ← rgCells_append, ← rgCells_append, ← HPU.out] at this
    unfold OwnR
    have hl5 : (putR rs n).length = rs.length + 1 := by rw [HPU.out]; simp; omega
    rw [hl5]
    exact this)
  have HB4 := Lib.hid (show v'.ownBlock = (Value.slice A rs.length c).ownBlock ∨ ∃ k, v'.ownBlock = some k ∧ w2.heap.size ≤ k from hbl4.imp id (fun ⟨k, h1, h2⟩ => ⟨k, h1, by omega⟩))
  clear hi ho4 hg4 hbl4 hbA hnew hszA hgA
  have hmid := HH2.out.mid s (.slice (A) rs.length c) HV0.out HV1.out HG4.out
  have HMS := Lib.hid hmid.1
  have hcm5 := hmid.2
  clear hmid
  go_wp2_with (at_mapUpdate; refine wpList_mapS_put rfl (.tmp 110) (.tmp 111) (.tmp 112) 137 171 rfl Tryz.underlying137 bm (m.map fun p => (p.1, V p.1)) rfl HMS.out (by unfold maxLen; simp; omega) s rfl (by unfold maxLen; omega) _ rfl ?_; intro w5 hm5 hg5)
  go_wp2
  go_ret
  have hst := HH2.out.stored s (.slice (A) rs.length c) _ (putR rs n) HV0.out HV1.out HG4.out HO5.out HB4.out (fun e => by
    have hne := putR_ne rs HRG.out HPH.out
    rcases HO5.out.2 with ⟨_, h0⟩ | ⟨g0, _, _, h0, _⟩
    · exact hne (List.eq_nil_of_length_eq_zero h0)
    · rw [h0] at e; cases e) hm5 hg5 (by have := HOK.out; rw [HPR.out] at this; exact this)
  refine ⟨_, _, rfl, by rw [HPR.out]; exact hst.1, (Keep.of_below (F := G) hbw).trans hst.2 (fun _ _ h => h), fun b hb => ?_⟩
  rcases hb with ⟨hb, _⟩ | ⟨hb, _⟩
  · exact .inl hb
  · right; omega

set_option maxRecDepth 100000 in
set_option maxHeartbeats 2000000 in
theorem put_ze (w : World) (G : Nat → Prop) (bs bm : Nat) (m : Had) (V : List UInt8 → Value) (h : HadAt w G bs bm m V) (s : List UInt8) (n : Int) (hlen : (hadRow m s).length ≤ 100000) (hml : m.length < 1000000) (hp : putsB m s n = true)
    (hL : plc (hadRow m s) n = 0) (hR : plc (hadRow m s) n < (hadRow m s).length) (hy : ((hadRow m s).getD (plc (hadRow m s) n) (0, 0)).1 = n + 1) :
    Calls Tryz.prog 85 #[.pointer (some ⟨bs, 0, none⟩), .string ⟨s.toArray⟩, .int .i64 n] w (HPutPost w G bs bm (putH m s n) true) := by
  have hok := h.ok.put hp
  have hp' := hp
  unfold putsB at hp'
  simp only [Bool.and_eq_true, decide_eq_true_eq, Bool.not_eq_true'] at hp'
  obtain ⟨⟨⟨p1, p2⟩, p3⟩, p4⟩ := hp'
  have hs24 : s.length ≤ 24 := by unfold nameB at p1; simp at p1; omega
  have HRG := Lib.hid (h.ok.row s)
  have HP1 := Lib.hid p1; have HP4 := Lib.hid p4; have HH := Lib.hid h
  have HPH := Lib.hid (show hasR (hadRow m s) n = false from p4)
  have HPR := Lib.hid (show putH m s n = putB s (putR (hadRow m s) n) m from rfl)
  have HOK := Lib.hid hok
  clear hok hp p1 p4
  go_enter Tryz.func85, Tryz.ntmps85
  go_wp2_with fail
  refine (name_all w s).mono ?_
  rintro e w0 ⟨rfl, rfl⟩
  rw [HP1.out]
  have d1 : decide (n < 1) = false := decide_eq_false (by omega)
  have d2 : decide (1099511627776 < n) = false := decide_eq_false (by omega)
  go_wp2_with fail
  refine (has_any w G bs bm m V HH.out s (by omega) (by omega) n).mono ?_
  rintro e w1 ⟨rfl, hb1⟩
  rw [HP4.out]
  have HH1 := Lib.hid (HH.out.up hb1)
  obtain ⟨v, hl, hown, hv0, hv1⟩ := HH1.out.look s (by omega)
  have hc1 := HH1.out.cell
  have HV0 := Lib.hid hv0; have HV1 := Lib.hid hv1
  have HPL := Lib.hid (show putR (hadRow m s) n = putR (hadRow m s) n from rfl)
  generalize hrs : hadRow m s = rs at *
  have HRS := Lib.hid hrs
  clear hrs hv0 hv1
  obtain ⟨A, c, rfl⟩ := ownsRow_form hown
  have HO1 := Lib.hid hown
  clear hown d1 d2
  go_wp2_with fail
  refine (place_any w1 _ rs HO1.out HRG.out (by omega) n).mono ?_
  rintro e w2 ⟨rfl, hb2⟩
  have HH2 := Lib.hid (HH1.out.up hb2)
  have HO2 := Lib.hid (HO1.out.up hb2)
  have hbw : Below w.heap.size w w2 := hb1.trans (hb2.mono hb1.size)
  have hsz := hbw.size
  clear hl hc1 hb1 hb2
  have hpl := plc_le rs n
  have HLB := Lib.hid (show lefB rs n = false by unfold lefB; simp [hL])
  have HRB := Lib.hid (show rigB rs n = true by unfold rigB; simp only [hy]; simp [hR])
  have HPU := Lib.hid (show putR rs n = rs.set (plc rs n) (n, (rs.getD (plc rs n) (0, 0)).2) by unfold putR; rw [HLB.out, HRB.out]; rfl)
  clear HLB HRB HPL
  generalize hpk : plc rs n = k at *
  clear hpk
  obtain ⟨g, cc, cur, hvf, hgc, hlc, hcm, hcs, htk⟩ := HO2.out.form (by omega)
  obtain ⟨rfl, rfl⟩ : A = some ⟨g, 0, none⟩ ∧ c = cc := by
    injection hvf with e1 _ e3
    exact ⟨e1, e3⟩
  clear hvf
  have HGC := Lib.hid hgc; have HCS := Lib.hid hcs; have HTK := Lib.hid htk
  clear hgc hcs htk
  have k1 : ¬ (0 : Int) < k := by omega
  have hgy : rs.getD k (0, 0) = rs[k] := by simp [List.getD, List.getElem?_eq_getElem hR]
  rw [hgy] at hy
  try rw [hgy] at HPU
  obtain ⟨y0, y1, yf0, yf1⟩ := HO2.out.cell k hR
  have HSY := Lib.hid (fun t => rgCells_set0 rs k hR t)
  have hea2 := HRG.out.each rs[k] (List.getElem_mem hR)
  clear hgy
  generalize rs[k] = ry at *
  obtain ⟨ya, yb⟩ := ry
  simp only at y0 y1 hy HSY hea2 HPU
  have k3 : (k : Int) < rs.length := by omega
  have by_ : (ya == n + 1) = true := by simpa using hy
  clear hy hL
  have HO3 := Lib.hid (World.ownsRow.stored HO2.out (k * 2) (.int .i64 (n)))
  have HG4 := Lib.hid HO3.out.2
  have HO5 := Lib.hid (show OwnR (w2.setCell ⟨g, k * 2, none⟩ (.int .i64 (n))) (.slice (some ⟨g, 0, none⟩) rs.length c) (putR rs n) by
    have h1 := HO3.out.1
    rw [HSY.out (n)] at h1
    rw [HPU.out]
    unfold OwnR
    rw [List.length_set]
    exact h1)
  obtain ⟨v', hv'⟩ : ∃ v', v' = Value.slice (some ⟨g, 0, none⟩) rs.length c := ⟨_, rfl⟩
  have HV' := Lib.hid hv'
  clear hv'
  have hmid := HH2.out.mid s (.slice (some ⟨g, 0, none⟩) rs.length c) HV0.out HV1.out HG4.out
  have HMS := Lib.hid hmid.1
  have hcm5 := hmid.2
  clear hmid
  go_wp2_with (at_mapUpdate; refine wpList_mapS_put rfl (.tmp 110) (.tmp 111) (.tmp 112) 137 171 rfl Tryz.underlying137 bm (m.map fun p => (p.1, V p.1)) rfl HMS.out (by unfold maxLen; simp; omega) s rfl (by unfold maxLen; omega) _ rfl ?_; intro w5 hm5 hg5)
  go_wp2
  go_ret
  have hst := HH2.out.stored s (.slice (some ⟨g, 0, none⟩) rs.length c) _ (putR rs n) HV0.out HV1.out HG4.out HO5.out (.inl rfl) (fun e => by
    have hne := putR_ne rs HRG.out HPH.out
    rcases HO5.out.2 with ⟨_, h0⟩ | ⟨g0, _, _, h0, _⟩
    · exact hne (List.eq_nil_of_length_eq_zero h0)
    · rw [h0] at e; cases e) hm5 hg5 (by have := HOK.out; rw [HPR.out] at this; exact this)
  refine ⟨_, _, rfl, by rw [HPR.out]; exact hst.1, (Keep.of_below (F := G) hbw).trans hst.2 (fun _ _ h => h), fun b hb => ?_⟩
  rcases hb with ⟨hb, _⟩ | ⟨hb, _⟩
  · exact .inl hb
  · right; omega

set_option maxRecDepth 100000 in
set_option maxHeartbeats 2000000 in
theorem put_zd (w : World) (G : Nat → Prop) (bs bm : Nat) (m : Had) (V : List UInt8 → Value) (h : HadAt w G bs bm m V) (s : List UInt8) (n : Int) (hlen : (hadRow m s).length ≤ 100000) (hml : m.length < 1000000) (hp : putsB m s n = true)
    (hL : plc (hadRow m s) n = 0) (hR : plc (hadRow m s) n < (hadRow m s).length) (hy : ((hadRow m s).getD (plc (hadRow m s) n) (0, 0)).1 ≠ n + 1) :
    Calls Tryz.prog 85 #[.pointer (some ⟨bs, 0, none⟩), .string ⟨s.toArray⟩, .int .i64 n] w (HPutPost w G bs bm (putH m s n) true) := by
  have hok := h.ok.put hp
  have hp' := hp
  unfold putsB at hp'
  simp only [Bool.and_eq_true, decide_eq_true_eq, Bool.not_eq_true'] at hp'
  obtain ⟨⟨⟨p1, p2⟩, p3⟩, p4⟩ := hp'
  have hs24 : s.length ≤ 24 := by unfold nameB at p1; simp at p1; omega
  have HRG := Lib.hid (h.ok.row s)
  have HP1 := Lib.hid p1; have HP4 := Lib.hid p4; have HH := Lib.hid h
  have HPH := Lib.hid (show hasR (hadRow m s) n = false from p4)
  have HPR := Lib.hid (show putH m s n = putB s (putR (hadRow m s) n) m from rfl)
  have HOK := Lib.hid hok
  clear hok hp p1 p4
  go_enter Tryz.func85, Tryz.ntmps85
  go_wp2_with fail
  refine (name_all w s).mono ?_
  rintro e w0 ⟨rfl, rfl⟩
  rw [HP1.out]
  have d1 : decide (n < 1) = false := decide_eq_false (by omega)
  have d2 : decide (1099511627776 < n) = false := decide_eq_false (by omega)
  go_wp2_with fail
  refine (has_any w G bs bm m V HH.out s (by omega) (by omega) n).mono ?_
  rintro e w1 ⟨rfl, hb1⟩
  rw [HP4.out]
  have HH1 := Lib.hid (HH.out.up hb1)
  obtain ⟨v, hl, hown, hv0, hv1⟩ := HH1.out.look s (by omega)
  have hc1 := HH1.out.cell
  have HV0 := Lib.hid hv0; have HV1 := Lib.hid hv1
  have HPL := Lib.hid (show putR (hadRow m s) n = putR (hadRow m s) n from rfl)
  generalize hrs : hadRow m s = rs at *
  have HRS := Lib.hid hrs
  clear hrs hv0 hv1
  obtain ⟨A, c, rfl⟩ := ownsRow_form hown
  have HO1 := Lib.hid hown
  clear hown d1 d2
  go_wp2_with fail
  refine (place_any w1 _ rs HO1.out HRG.out (by omega) n).mono ?_
  rintro e w2 ⟨rfl, hb2⟩
  have HH2 := Lib.hid (HH1.out.up hb2)
  have HO2 := Lib.hid (HO1.out.up hb2)
  have hbw : Below w.heap.size w w2 := hb1.trans (hb2.mono hb1.size)
  have hsz := hbw.size
  clear hl hc1 hb1 hb2
  have hpl := plc_le rs n
  have HLB := Lib.hid (show lefB rs n = false by unfold lefB; simp [hL])
  have HRB := Lib.hid (show rigB rs n = false by unfold rigB; simp; intro _; exact fun h => hy (by simpa using h))
  have HPU := Lib.hid (show putR rs n = rs.take (plc rs n) ++ [(n, n + 1)] ++ rs.drop (plc rs n) by unfold putR; rw [HLB.out, HRB.out]; rfl)
  clear HLB HRB HPL
  generalize hpk : plc rs n = k at *
  clear hpk
  obtain ⟨g, cc, cur, hvf, hgc, hlc, hcm, hcs, htk⟩ := HO2.out.form (by omega)
  obtain ⟨rfl, rfl⟩ : A = some ⟨g, 0, none⟩ ∧ c = cc := by
    injection hvf with e1 _ e3
    exact ⟨e1, e3⟩
  clear hvf
  have HGC := Lib.hid hgc; have HCS := Lib.hid hcs; have HTK := Lib.hid htk
  clear hgc hcs htk
  have k1 : ¬ (0 : Int) < k := by omega
  have hgy : rs.getD k (0, 0) = rs[k] := by simp [List.getD, List.getElem?_eq_getElem hR]
  rw [hgy] at hy
  try rw [hgy] at HPU
  obtain ⟨y0, y1, yf0, yf1⟩ := HO2.out.cell k hR
  have HSY := Lib.hid (fun t => rgCells_set0 rs k hR t)
  have hea2 := HRG.out.each rs[k] (List.getElem_mem hR)
  clear hgy
  generalize rs[k] = ry at *
  obtain ⟨ya, yb⟩ := ry
  simp only at y0 y1 hy HSY hea2 HPU
  have k3 : (k : Int) < rs.length := by omega
  have by_ : (ya == n + 1) = false := by simpa using hy
  clear hy hL
  go_wp2_with fail
  have hbA : Below w2.heap.size w2 (w2.alloc (.cells #[.int .i64 n, .int .i64 (n + 1)] 173)) := (Below.refl _ _).alloc (Nat.le_refl _) _
  have hnew : (w2.alloc (.cells #[.int .i64 n, .int .i64 (n + 1)] 173)).heap[w2.heap.size]? = some (.cells [Value.int .i64 n, Value.int .i64 (n + 1)].toArray 173 (0, 0)) := heap_alloc_new w2 _
  have hszA : (w2.alloc (.cells #[.int .i64 n, .int .i64 (n + 1)] 173)).heap.size = w2.heap.size + 1 := by simp
  have hgA : w2.grownBy (w2.alloc (.cells #[.int .i64 n, .int .i64 (n + 1)] 173)) (Value.slice (some ⟨g, 0, none⟩) rs.length c).ownBlock := World.grownBy_alloc w2 _ _
  generalize (w2.alloc (.cells #[.int .i64 n, .int .i64 (n + 1)] 173)) = w3 at *
  have hi := insR_any w3 0 rs.length k w2.heap.size _ (rgCells rs) [.int .i64 n, .int .i64 (n + 1)] (by omega) (by omega) (Nat.zero_le _) (HO2.out.up hbA) rfl hnew (fun e => by have := (World.ownsRow.lt HO2.out _ e).2; omega) (rgCells_one rs) (by intro u hu; simp at hu; rcases hu with rfl | rfl <;> rfl)
  refine hi.mono ?_
  rintro e w4 ⟨v', rfl, ho4, hg4, hbl4⟩
  have HG4 := Lib.hid (hgA.andThen hg4 (fun j hj => .inr hj))
  have HO5 := Lib.hid (show OwnR w4 v' (putR rs n) by
    have := ho4
    rw [rgCells_take, rgCells_drop, show [Value.int .i64 n, Value.int .i64 (n + 1)] = rgCells [(n, n + 1)] from rfl, ← rgCells_append, ← rgCells_append, ← HPU.out] at this
    unfold OwnR
    have hl5 : (putR rs n).length = rs.length + 1 := by rw [HPU.out]; simp; omega
    rw [hl5]
    exact this)
  have HB4 := Lib.hid (show v'.ownBlock = (Value.slice (some ⟨g, 0, none⟩) rs.length c).ownBlock ∨ ∃ k, v'.ownBlock = some k ∧ w2.heap.size ≤ k from hbl4.imp id (fun ⟨k, h1, h2⟩ => ⟨k, h1, by omega⟩))
  clear hi ho4 hg4 hbl4 hbA hnew hszA hgA
  clear y0 y1 yf0 yf1
  have hmid := HH2.out.mid s (.slice (some ⟨g, 0, none⟩) rs.length c) HV0.out HV1.out HG4.out
  have HMS := Lib.hid hmid.1
  have hcm5 := hmid.2
  clear hmid
  go_wp2_with (at_mapUpdate; refine wpList_mapS_put rfl (.tmp 110) (.tmp 111) (.tmp 112) 137 171 rfl Tryz.underlying137 bm (m.map fun p => (p.1, V p.1)) rfl HMS.out (by unfold maxLen; simp; omega) s rfl (by unfold maxLen; omega) _ rfl ?_; intro w5 hm5 hg5)
  go_wp2
  go_ret
  have hst := HH2.out.stored s (.slice (some ⟨g, 0, none⟩) rs.length c) _ (putR rs n) HV0.out HV1.out HG4.out HO5.out HB4.out (fun e => by
    have hne := putR_ne rs HRG.out HPH.out
    rcases HO5.out.2 with ⟨_, h0⟩ | ⟨g0, _, _, h0, _⟩
    · exact hne (List.eq_nil_of_length_eq_zero h0)
    · rw [h0] at e; cases e) hm5 hg5 (by have := HOK.out; rw [HPR.out] at this; exact this)
  refine ⟨_, _, rfl, by rw [HPR.out]; exact hst.1, (Keep.of_below (F := G) hbw).trans hst.2 (fun _ _ h => h), fun b hb => ?_⟩
  rcases hb with ⟨hb, _⟩ | ⟨hb, _⟩
  · exact .inl hb
  · right; omega

set_option maxRecDepth 100000 in
set_option maxHeartbeats 2000000 in
theorem put_ez (w : World) (G : Nat → Prop) (bs bm : Nat) (m : Had) (V : List UInt8 → Value) (h : HadAt w G bs bm m V) (s : List UInt8) (n : Int) (hlen : (hadRow m s).length ≤ 100000) (hml : m.length < 1000000) (hp : putsB m s n = true)
    (hL : 0 < plc (hadRow m s) n) (hx : ((hadRow m s).getD (plc (hadRow m s) n - 1) (0, 0)).2 = n) (hR : plc (hadRow m s) n = (hadRow m s).length) :
    Calls Tryz.prog 85 #[.pointer (some ⟨bs, 0, none⟩), .string ⟨s.toArray⟩, .int .i64 n] w (HPutPost w G bs bm (putH m s n) true) := by
  have hok := h.ok.put hp
  have hp' := hp
  unfold putsB at hp'
  simp only [Bool.and_eq_true, decide_eq_true_eq, Bool.not_eq_true'] at hp'
  obtain ⟨⟨⟨p1, p2⟩, p3⟩, p4⟩ := hp'
  have hs24 : s.length ≤ 24 := by unfold nameB at p1; simp at p1; omega
  have HRG := Lib.hid (h.ok.row s)
  have HP1 := Lib.hid p1; have HP4 := Lib.hid p4; have HH := Lib.hid h
  have HPH := Lib.hid (show hasR (hadRow m s) n = false from p4)
  have HPR := Lib.hid (show putH m s n = putB s (putR (hadRow m s) n) m from rfl)
  have HOK := Lib.hid hok
  clear hok hp p1 p4
  go_enter Tryz.func85, Tryz.ntmps85
  go_wp2_with fail
  refine (name_all w s).mono ?_
  rintro e w0 ⟨rfl, rfl⟩
  rw [HP1.out]
  have d1 : decide (n < 1) = false := decide_eq_false (by omega)
  have d2 : decide (1099511627776 < n) = false := decide_eq_false (by omega)
  go_wp2_with fail
  refine (has_any w G bs bm m V HH.out s (by omega) (by omega) n).mono ?_
  rintro e w1 ⟨rfl, hb1⟩
  rw [HP4.out]
  have HH1 := Lib.hid (HH.out.up hb1)
  obtain ⟨v, hl, hown, hv0, hv1⟩ := HH1.out.look s (by omega)
  have hc1 := HH1.out.cell
  have HV0 := Lib.hid hv0; have HV1 := Lib.hid hv1
  have HPL := Lib.hid (show putR (hadRow m s) n = putR (hadRow m s) n from rfl)
  generalize hrs : hadRow m s = rs at *
  have HRS := Lib.hid hrs
  clear hrs hv0 hv1
  obtain ⟨A, c, rfl⟩ := ownsRow_form hown
  have HO1 := Lib.hid hown
  clear hown d1 d2
  go_wp2_with fail
  refine (place_any w1 _ rs HO1.out HRG.out (by omega) n).mono ?_
  rintro e w2 ⟨rfl, hb2⟩
  have HH2 := Lib.hid (HH1.out.up hb2)
  have HO2 := Lib.hid (HO1.out.up hb2)
  have hbw : Below w.heap.size w w2 := hb1.trans (hb2.mono hb1.size)
  have hsz := hbw.size
  clear hl hc1 hb1 hb2
  have hpl := plc_le rs n
  have HLB := Lib.hid (show lefB rs n = true by unfold lefB; simp only [hx]; simp [hL])
  have HRB := Lib.hid (show rigB rs n = false by unfold rigB; simp [hR])
  have HPU := Lib.hid (show putR rs n = rs.set (plc rs n - 1) ((rs.getD (plc rs n - 1) (0, 0)).1, n + 1) by unfold putR; rw [HLB.out, HRB.out]; rfl)
  clear HLB HRB HPL
  generalize hpk : plc rs n = k at *
  clear hpk
  obtain ⟨g, cc, cur, hvf, hgc, hlc, hcm, hcs, htk⟩ := HO2.out.form (by omega)
  obtain ⟨rfl, rfl⟩ : A = some ⟨g, 0, none⟩ ∧ c = cc := by
    injection hvf with e1 _ e3
    exact ⟨e1, e3⟩
  clear hvf
  have HGC := Lib.hid hgc; have HCS := Lib.hid hcs; have HTK := Lib.hid htk
  clear hgc hcs htk
  have hk1 : k - 1 < rs.length := by omega
  have hgx : rs.getD (k - 1) (0, 0) = rs[k - 1] := by simp [List.getD, List.getElem?_eq_getElem hk1]
  rw [hgx] at hx
  try rw [hgx] at HPU
  obtain ⟨x0, x1, xf0, xf1⟩ := HO2.out.cell (k - 1) hk1
  have HSX := Lib.hid (fun t => rgCells_set1 rs (k - 1) hk1 t)
  have hea1 := HRG.out.each rs[k - 1] (List.getElem_mem hk1)
  clear hgx
  generalize rs[k - 1] = rx at *
  obtain ⟨xa, xb⟩ := rx
  simp only at x0 x1 hx HSX hea1 HPU
  have ek : (k : Int) - 1 = ((k - 1 : Nat) : Int) := by omega
  have k1 : (0 : Int) < k := by omega
  have k2 : ((k - 1 : Nat) : Int) < rs.length := by omega
  have bx : (xb == n) = true := by simpa using hx
  have k3 : ¬ (k : Int) < rs.length := by omega
  clear hx hR
  have HO3 := Lib.hid (World.ownsRow.stored HO2.out ((k - 1) * 2 + 1) (.int .i64 (n + 1)))
  have HG4 := Lib.hid HO3.out.2
  have HO5 := Lib.hid (show OwnR (w2.setCell ⟨g, (k - 1) * 2 + 1, none⟩ (.int .i64 (n + 1))) (.slice (some ⟨g, 0, none⟩) rs.length c) (putR rs n) by
    have h1 := HO3.out.1
    rw [HSX.out (n + 1)] at h1
    rw [HPU.out]
    unfold OwnR
    rw [List.length_set]
    exact h1)
  obtain ⟨v', hv'⟩ : ∃ v', v' = Value.slice (some ⟨g, 0, none⟩) rs.length c := ⟨_, rfl⟩
  have HV' := Lib.hid hv'
  clear hv'
  have hmid := HH2.out.mid s (.slice (some ⟨g, 0, none⟩) rs.length c) HV0.out HV1.out HG4.out
  have HMS := Lib.hid hmid.1
  have hcm5 := hmid.2
  clear hmid
  go_wp2_with (at_mapUpdate; refine wpList_mapS_put rfl (.tmp 110) (.tmp 111) (.tmp 112) 137 171 rfl Tryz.underlying137 bm (m.map fun p => (p.1, V p.1)) rfl HMS.out (by unfold maxLen; simp; omega) s rfl (by unfold maxLen; omega) _ rfl ?_; intro w5 hm5 hg5)
  go_wp2
  go_ret
  have hst := HH2.out.stored s (.slice (some ⟨g, 0, none⟩) rs.length c) _ (putR rs n) HV0.out HV1.out HG4.out HO5.out (.inl rfl) (fun e => by
    have hne := putR_ne rs HRG.out HPH.out
    rcases HO5.out.2 with ⟨_, h0⟩ | ⟨g0, _, _, h0, _⟩
    · exact hne (List.eq_nil_of_length_eq_zero h0)
    · rw [h0] at e; cases e) hm5 hg5 (by have := HOK.out; rw [HPR.out] at this; exact this)
  refine ⟨_, _, rfl, by rw [HPR.out]; exact hst.1, (Keep.of_below (F := G) hbw).trans hst.2 (fun _ _ h => h), fun b hb => ?_⟩
  rcases hb with ⟨hb, _⟩ | ⟨hb, _⟩
  · exact .inl hb
  · right; omega

set_option maxRecDepth 100000 in
set_option maxHeartbeats 2000000 in
theorem put_ee (w : World) (G : Nat → Prop) (bs bm : Nat) (m : Had) (V : List UInt8 → Value) (h : HadAt w G bs bm m V) (s : List UInt8) (n : Int) (hlen : (hadRow m s).length ≤ 100000) (hml : m.length < 1000000) (hp : putsB m s n = true)
    (hL : 0 < plc (hadRow m s) n) (hx : ((hadRow m s).getD (plc (hadRow m s) n - 1) (0, 0)).2 = n) (hR : plc (hadRow m s) n < (hadRow m s).length) (hy : ((hadRow m s).getD (plc (hadRow m s) n) (0, 0)).1 = n + 1) :
    Calls Tryz.prog 85 #[.pointer (some ⟨bs, 0, none⟩), .string ⟨s.toArray⟩, .int .i64 n] w (HPutPost w G bs bm (putH m s n) true) := by
  have hok := h.ok.put hp
  have hp' := hp
  unfold putsB at hp'
  simp only [Bool.and_eq_true, decide_eq_true_eq, Bool.not_eq_true'] at hp'
  obtain ⟨⟨⟨p1, p2⟩, p3⟩, p4⟩ := hp'
  have hs24 : s.length ≤ 24 := by unfold nameB at p1; simp at p1; omega
  have HRG := Lib.hid (h.ok.row s)
  have HP1 := Lib.hid p1; have HP4 := Lib.hid p4; have HH := Lib.hid h
  have HPH := Lib.hid (show hasR (hadRow m s) n = false from p4)
  have HPR := Lib.hid (show putH m s n = putB s (putR (hadRow m s) n) m from rfl)
  have HOK := Lib.hid hok
  clear hok hp p1 p4
  go_enter Tryz.func85, Tryz.ntmps85
  go_wp2_with fail
  refine (name_all w s).mono ?_
  rintro e w0 ⟨rfl, rfl⟩
  rw [HP1.out]
  have d1 : decide (n < 1) = false := decide_eq_false (by omega)
  have d2 : decide (1099511627776 < n) = false := decide_eq_false (by omega)
  go_wp2_with fail
  refine (has_any w G bs bm m V HH.out s (by omega) (by omega) n).mono ?_
  rintro e w1 ⟨rfl, hb1⟩
  rw [HP4.out]
  have HH1 := Lib.hid (HH.out.up hb1)
  obtain ⟨v, hl, hown, hv0, hv1⟩ := HH1.out.look s (by omega)
  have hc1 := HH1.out.cell
  have HV0 := Lib.hid hv0; have HV1 := Lib.hid hv1
  have HPL := Lib.hid (show putR (hadRow m s) n = putR (hadRow m s) n from rfl)
  generalize hrs : hadRow m s = rs at *
  have HRS := Lib.hid hrs
  clear hrs hv0 hv1
  obtain ⟨A, c, rfl⟩ := ownsRow_form hown
  have HO1 := Lib.hid hown
  clear hown d1 d2
  go_wp2_with fail
  refine (place_any w1 _ rs HO1.out HRG.out (by omega) n).mono ?_
  rintro e w2 ⟨rfl, hb2⟩
  have HH2 := Lib.hid (HH1.out.up hb2)
  have HO2 := Lib.hid (HO1.out.up hb2)
  have hbw : Below w.heap.size w w2 := hb1.trans (hb2.mono hb1.size)
  have hsz := hbw.size
  clear hl hc1 hb1 hb2
  have hpl := plc_le rs n
  have HLB := Lib.hid (show lefB rs n = true by unfold lefB; simp only [hx]; simp [hL])
  have HRB := Lib.hid (show rigB rs n = true by unfold rigB; simp only [hy]; simp [hR])
  have HPU := Lib.hid (show putR rs n = (rs.set (plc rs n - 1) ((rs.getD (plc rs n - 1) (0, 0)).1, (rs.getD (plc rs n) (0, 0)).2)).take (plc rs n) ++ (rs.set (plc rs n - 1) ((rs.getD (plc rs n - 1) (0, 0)).1, (rs.getD (plc rs n) (0, 0)).2)).drop (plc rs n + 1) by unfold putR; rw [HLB.out, HRB.out]; rfl)
  clear HLB HRB HPL
  generalize hpk : plc rs n = k at *
  clear hpk
  obtain ⟨g, cc, cur, hvf, hgc, hlc, hcm, hcs, htk⟩ := HO2.out.form (by omega)
  obtain ⟨rfl, rfl⟩ : A = some ⟨g, 0, none⟩ ∧ c = cc := by
    injection hvf with e1 _ e3
    exact ⟨e1, e3⟩
  clear hvf
  have HGC := Lib.hid hgc; have HCS := Lib.hid hcs; have HTK := Lib.hid htk
  clear hgc hcs htk
  have hk1 : k - 1 < rs.length := by omega
  have hgx : rs.getD (k - 1) (0, 0) = rs[k - 1] := by simp [List.getD, List.getElem?_eq_getElem hk1]
  rw [hgx] at hx
  try rw [hgx] at HPU
  obtain ⟨x0, x1, xf0, xf1⟩ := HO2.out.cell (k - 1) hk1
  have HSX := Lib.hid (fun t => rgCells_set1 rs (k - 1) hk1 t)
  have hea1 := HRG.out.each rs[k - 1] (List.getElem_mem hk1)
  clear hgx
  generalize rs[k - 1] = rx at *
  obtain ⟨xa, xb⟩ := rx
  simp only at x0 x1 hx HSX hea1 HPU
  have ek : (k : Int) - 1 = ((k - 1 : Nat) : Int) := by omega
  have k1 : (0 : Int) < k := by omega
  have k2 : ((k - 1 : Nat) : Int) < rs.length := by omega
  have bx : (xb == n) = true := by simpa using hx
  have hgy : rs.getD k (0, 0) = rs[k] := by simp [List.getD, List.getElem?_eq_getElem hR]
  rw [hgy] at hy
  try rw [hgy] at HPU
  obtain ⟨y0, y1, yf0, yf1⟩ := HO2.out.cell k hR
  have HSY := Lib.hid (fun t => rgCells_set0 rs k hR t)
  have hea2 := HRG.out.each rs[k] (List.getElem_mem hR)
  clear hgy
  generalize rs[k] = ry at *
  obtain ⟨ya, yb⟩ := ry
  simp only at y0 y1 hy HSY hea2 HPU
  have k3 : (k : Int) < rs.length := by omega
  have by_ : (ya == n + 1) = true := by simpa using hy
  clear hx hy
  have HO3 := Lib.hid (World.ownsRow.stored HO2.out ((k - 1) * 2 + 1) (.int .i64 yb))
  have HO4 := Lib.hid (show OwnR (w2.setCell ⟨g, (k - 1) * 2 + 1, none⟩ (.int .i64 yb)) (.slice (some ⟨g, 0, none⟩) rs.length c) (rs.set (k - 1) (xa, yb)) by
    have h1 := HO3.out.1
    rw [HSX.out yb] at h1
    unfold OwnR
    rw [List.length_set]
    exact h1)
  go_wp2_with fail
  obtain ⟨g', cc, cur', hvf, hgc', hlc', hcm', hcs', htk'⟩ := HO4.out.form (by rw [List.length_set]; omega)
  obtain ⟨rfl, rfl⟩ : g = g' ∧ c = cc := by
    injection hvf with e1 _ e3
    injection e1 with e1
    injection e1 with e1
    exact ⟨e1, e3⟩
  clear hvf
  have hl4 : (rs.set (k - 1) (xa, yb)).length = rs.length := List.length_set
  have hd := delR_any (w2.setCell ⟨_, (k - 1) * 2 + 1, none⟩ (.int .i64 yb)) 0 _ _ rs.length k cur' (rgCells (rs.set (k - 1) (xa, yb))) hR (by omega) hcm' (by omega) (Nat.zero_le _) hgc' hcs' (by rw [hl4] at htk'; exact htk') (by rw [rgCells_length, hl4]) (rgCells_one _)
  refine hd.mono ?_
  rintro e w4 ⟨v', rfl, ho4, hg4, hbl4⟩
  have HG4 := Lib.hid (HO3.out.2.andThen hg4 (fun j hj => .inr hj))
  have HO5 := Lib.hid (show OwnR w4 v' (putR rs n) by
    have := ho4
    rw [rgCells_take, rgCells_drop, ← rgCells_append, ← HPU.out] at this
    unfold OwnR
    have hl5 : (putR rs n).length = rs.length - 1 := by rw [HPU.out]; simp; omega
    rw [hl5]
    exact this)
  have HB4 := Lib.hid (show v'.ownBlock = (Value.slice (some ⟨g, 0, none⟩) rs.length c).ownBlock ∨ ∃ k, v'.ownBlock = some k ∧ w2.heap.size ≤ k from .inl hbl4)
  clear hd ho4 hg4 hbl4 hgc' hlc' hcm' hcs' htk' hl4 x0 x1 xf0 xf1 y0 y1 yf0 yf1
  have hmid := HH2.out.mid s (.slice (some ⟨g, 0, none⟩) rs.length c) HV0.out HV1.out HG4.out
  have HMS := Lib.hid hmid.1
  have hcm5 := hmid.2
  clear hmid
  go_wp2_with (at_mapUpdate; refine wpList_mapS_put rfl (.tmp 110) (.tmp 111) (.tmp 112) 137 171 rfl Tryz.underlying137 bm (m.map fun p => (p.1, V p.1)) rfl HMS.out (by unfold maxLen; simp; omega) s rfl (by unfold maxLen; omega) _ rfl ?_; intro w5 hm5 hg5)
  go_wp2
  go_ret
  have hst := HH2.out.stored s (.slice (some ⟨g, 0, none⟩) rs.length c) _ (putR rs n) HV0.out HV1.out HG4.out HO5.out HB4.out (fun e => by
    have hne := putR_ne rs HRG.out HPH.out
    rcases HO5.out.2 with ⟨_, h0⟩ | ⟨g0, _, _, h0, _⟩
    · exact hne (List.eq_nil_of_length_eq_zero h0)
    · rw [h0] at e; cases e) hm5 hg5 (by have := HOK.out; rw [HPR.out] at this; exact this)
  refine ⟨_, _, rfl, by rw [HPR.out]; exact hst.1, (Keep.of_below (F := G) hbw).trans hst.2 (fun _ _ h => h), fun b hb => ?_⟩
  rcases hb with ⟨hb, _⟩ | ⟨hb, _⟩
  · exact .inl hb
  · right; omega

set_option maxRecDepth 100000 in
set_option maxHeartbeats 2000000 in
theorem put_ed (w : World) (G : Nat → Prop) (bs bm : Nat) (m : Had) (V : List UInt8 → Value) (h : HadAt w G bs bm m V) (s : List UInt8) (n : Int) (hlen : (hadRow m s).length ≤ 100000) (hml : m.length < 1000000) (hp : putsB m s n = true)
    (hL : 0 < plc (hadRow m s) n) (hx : ((hadRow m s).getD (plc (hadRow m s) n - 1) (0, 0)).2 = n) (hR : plc (hadRow m s) n < (hadRow m s).length) (hy : ((hadRow m s).getD (plc (hadRow m s) n) (0, 0)).1 ≠ n + 1) :
    Calls Tryz.prog 85 #[.pointer (some ⟨bs, 0, none⟩), .string ⟨s.toArray⟩, .int .i64 n] w (HPutPost w G bs bm (putH m s n) true) := by
  have hok := h.ok.put hp
  have hp' := hp
  unfold putsB at hp'
  simp only [Bool.and_eq_true, decide_eq_true_eq, Bool.not_eq_true'] at hp'
  obtain ⟨⟨⟨p1, p2⟩, p3⟩, p4⟩ := hp'
  have hs24 : s.length ≤ 24 := by unfold nameB at p1; simp at p1; omega
  have HRG := Lib.hid (h.ok.row s)
  have HP1 := Lib.hid p1; have HP4 := Lib.hid p4; have HH := Lib.hid h
  have HPH := Lib.hid (show hasR (hadRow m s) n = false from p4)
  have HPR := Lib.hid (show putH m s n = putB s (putR (hadRow m s) n) m from rfl)
  have HOK := Lib.hid hok
  clear hok hp p1 p4
  go_enter Tryz.func85, Tryz.ntmps85
  go_wp2_with fail
  refine (name_all w s).mono ?_
  rintro e w0 ⟨rfl, rfl⟩
  rw [HP1.out]
  have d1 : decide (n < 1) = false := decide_eq_false (by omega)
  have d2 : decide (1099511627776 < n) = false := decide_eq_false (by omega)
  go_wp2_with fail
  refine (has_any w G bs bm m V HH.out s (by omega) (by omega) n).mono ?_
  rintro e w1 ⟨rfl, hb1⟩
  rw [HP4.out]
  have HH1 := Lib.hid (HH.out.up hb1)
  obtain ⟨v, hl, hown, hv0, hv1⟩ := HH1.out.look s (by omega)
  have hc1 := HH1.out.cell
  have HV0 := Lib.hid hv0; have HV1 := Lib.hid hv1
  have HPL := Lib.hid (show putR (hadRow m s) n = putR (hadRow m s) n from rfl)
  generalize hrs : hadRow m s = rs at *
  have HRS := Lib.hid hrs
  clear hrs hv0 hv1
  obtain ⟨A, c, rfl⟩ := ownsRow_form hown
  have HO1 := Lib.hid hown
  clear hown d1 d2
  go_wp2_with fail
  refine (place_any w1 _ rs HO1.out HRG.out (by omega) n).mono ?_
  rintro e w2 ⟨rfl, hb2⟩
  have HH2 := Lib.hid (HH1.out.up hb2)
  have HO2 := Lib.hid (HO1.out.up hb2)
  have hbw : Below w.heap.size w w2 := hb1.trans (hb2.mono hb1.size)
  have hsz := hbw.size
  clear hl hc1 hb1 hb2
  have hpl := plc_le rs n
  have HLB := Lib.hid (show lefB rs n = true by unfold lefB; simp only [hx]; simp [hL])
  have HRB := Lib.hid (show rigB rs n = false by unfold rigB; simp; intro _; exact fun h => hy (by simpa using h))
  have HPU := Lib.hid (show putR rs n = rs.set (plc rs n - 1) ((rs.getD (plc rs n - 1) (0, 0)).1, n + 1) by unfold putR; rw [HLB.out, HRB.out]; rfl)
  clear HLB HRB HPL
  generalize hpk : plc rs n = k at *
  clear hpk
  obtain ⟨g, cc, cur, hvf, hgc, hlc, hcm, hcs, htk⟩ := HO2.out.form (by omega)
  obtain ⟨rfl, rfl⟩ : A = some ⟨g, 0, none⟩ ∧ c = cc := by
    injection hvf with e1 _ e3
    exact ⟨e1, e3⟩
  clear hvf
  have HGC := Lib.hid hgc; have HCS := Lib.hid hcs; have HTK := Lib.hid htk
  clear hgc hcs htk
  have hk1 : k - 1 < rs.length := by omega
  have hgx : rs.getD (k - 1) (0, 0) = rs[k - 1] := by simp [List.getD, List.getElem?_eq_getElem hk1]
  rw [hgx] at hx
  try rw [hgx] at HPU
  obtain ⟨x0, x1, xf0, xf1⟩ := HO2.out.cell (k - 1) hk1
  have HSX := Lib.hid (fun t => rgCells_set1 rs (k - 1) hk1 t)
  have hea1 := HRG.out.each rs[k - 1] (List.getElem_mem hk1)
  clear hgx
  generalize rs[k - 1] = rx at *
  obtain ⟨xa, xb⟩ := rx
  simp only at x0 x1 hx HSX hea1 HPU
  have ek : (k : Int) - 1 = ((k - 1 : Nat) : Int) := by omega
  have k1 : (0 : Int) < k := by omega
  have k2 : ((k - 1 : Nat) : Int) < rs.length := by omega
  have bx : (xb == n) = true := by simpa using hx
  have hgy : rs.getD k (0, 0) = rs[k] := by simp [List.getD, List.getElem?_eq_getElem hR]
  rw [hgy] at hy
  try rw [hgy] at HPU
  obtain ⟨y0, y1, yf0, yf1⟩ := HO2.out.cell k hR
  have HSY := Lib.hid (fun t => rgCells_set0 rs k hR t)
  have hea2 := HRG.out.each rs[k] (List.getElem_mem hR)
  clear hgy
  generalize rs[k] = ry at *
  obtain ⟨ya, yb⟩ := ry
  simp only at y0 y1 hy HSY hea2 HPU
  have k3 : (k : Int) < rs.length := by omega
  have by_ : (ya == n + 1) = false := by simpa using hy
  clear hx hy
  have HO3 := Lib.hid (World.ownsRow.stored HO2.out ((k - 1) * 2 + 1) (.int .i64 (n + 1)))
  have HG4 := Lib.hid HO3.out.2
  have HO5 := Lib.hid (show OwnR (w2.setCell ⟨g, (k - 1) * 2 + 1, none⟩ (.int .i64 (n + 1))) (.slice (some ⟨g, 0, none⟩) rs.length c) (putR rs n) by
    have h1 := HO3.out.1
    rw [HSX.out (n + 1)] at h1
    rw [HPU.out]
    unfold OwnR
    rw [List.length_set]
    exact h1)
  obtain ⟨v', hv'⟩ : ∃ v', v' = Value.slice (some ⟨g, 0, none⟩) rs.length c := ⟨_, rfl⟩
  have HV' := Lib.hid hv'
  clear hv'
  have hmid := HH2.out.mid s (.slice (some ⟨g, 0, none⟩) rs.length c) HV0.out HV1.out HG4.out
  have HMS := Lib.hid hmid.1
  have hcm5 := hmid.2
  clear hmid
  go_wp2_with (at_mapUpdate; refine wpList_mapS_put rfl (.tmp 110) (.tmp 111) (.tmp 112) 137 171 rfl Tryz.underlying137 bm (m.map fun p => (p.1, V p.1)) rfl HMS.out (by unfold maxLen; simp; omega) s rfl (by unfold maxLen; omega) _ rfl ?_; intro w5 hm5 hg5)
  go_wp2
  go_ret
  have hst := HH2.out.stored s (.slice (some ⟨g, 0, none⟩) rs.length c) _ (putR rs n) HV0.out HV1.out HG4.out HO5.out (.inl rfl) (fun e => by
    have hne := putR_ne rs HRG.out HPH.out
    rcases HO5.out.2 with ⟨_, h0⟩ | ⟨g0, _, _, h0, _⟩
    · exact hne (List.eq_nil_of_length_eq_zero h0)
    · rw [h0] at e; cases e) hm5 hg5 (by have := HOK.out; rw [HPR.out] at this; exact this)
  refine ⟨_, _, rfl, by rw [HPR.out]; exact hst.1, (Keep.of_below (F := G) hbw).trans hst.2 (fun _ _ h => h), fun b hb => ?_⟩
  rcases hb with ⟨hb, _⟩ | ⟨hb, _⟩
  · exact .inl hb
  · right; omega

set_option maxRecDepth 100000 in
set_option maxHeartbeats 2000000 in
theorem put_dz (w : World) (G : Nat → Prop) (bs bm : Nat) (m : Had) (V : List UInt8 → Value) (h : HadAt w G bs bm m V) (s : List UInt8) (n : Int) (hlen : (hadRow m s).length ≤ 100000) (hml : m.length < 1000000) (hp : putsB m s n = true)
    (hL : 0 < plc (hadRow m s) n) (hx : ((hadRow m s).getD (plc (hadRow m s) n - 1) (0, 0)).2 ≠ n) (hR : plc (hadRow m s) n = (hadRow m s).length) :
    Calls Tryz.prog 85 #[.pointer (some ⟨bs, 0, none⟩), .string ⟨s.toArray⟩, .int .i64 n] w (HPutPost w G bs bm (putH m s n) true) := by
  have hok := h.ok.put hp
  have hp' := hp
  unfold putsB at hp'
  simp only [Bool.and_eq_true, decide_eq_true_eq, Bool.not_eq_true'] at hp'
  obtain ⟨⟨⟨p1, p2⟩, p3⟩, p4⟩ := hp'
  have hs24 : s.length ≤ 24 := by unfold nameB at p1; simp at p1; omega
  have HRG := Lib.hid (h.ok.row s)
  have HP1 := Lib.hid p1; have HP4 := Lib.hid p4; have HH := Lib.hid h
  have HPH := Lib.hid (show hasR (hadRow m s) n = false from p4)
  have HPR := Lib.hid (show putH m s n = putB s (putR (hadRow m s) n) m from rfl)
  have HOK := Lib.hid hok
  clear hok hp p1 p4
  go_enter Tryz.func85, Tryz.ntmps85
  go_wp2_with fail
  refine (name_all w s).mono ?_
  rintro e w0 ⟨rfl, rfl⟩
  rw [HP1.out]
  have d1 : decide (n < 1) = false := decide_eq_false (by omega)
  have d2 : decide (1099511627776 < n) = false := decide_eq_false (by omega)
  go_wp2_with fail
  refine (has_any w G bs bm m V HH.out s (by omega) (by omega) n).mono ?_
  rintro e w1 ⟨rfl, hb1⟩
  rw [HP4.out]
  have HH1 := Lib.hid (HH.out.up hb1)
  obtain ⟨v, hl, hown, hv0, hv1⟩ := HH1.out.look s (by omega)
  have hc1 := HH1.out.cell
  have HV0 := Lib.hid hv0; have HV1 := Lib.hid hv1
  have HPL := Lib.hid (show putR (hadRow m s) n = putR (hadRow m s) n from rfl)
  generalize hrs : hadRow m s = rs at *
  have HRS := Lib.hid hrs
  clear hrs hv0 hv1
  obtain ⟨A, c, rfl⟩ := ownsRow_form hown
  have HO1 := Lib.hid hown
  clear hown d1 d2
  go_wp2_with fail
  refine (place_any w1 _ rs HO1.out HRG.out (by omega) n).mono ?_
  rintro e w2 ⟨rfl, hb2⟩
  have HH2 := Lib.hid (HH1.out.up hb2)
  have HO2 := Lib.hid (HO1.out.up hb2)
  have hbw : Below w.heap.size w w2 := hb1.trans (hb2.mono hb1.size)
  have hsz := hbw.size
  clear hl hc1 hb1 hb2
  have hpl := plc_le rs n
  have HLB := Lib.hid (show lefB rs n = false by unfold lefB; simp; intro _; exact fun h => hx (by simpa using h))
  have HRB := Lib.hid (show rigB rs n = false by unfold rigB; simp [hR])
  have HPU := Lib.hid (show putR rs n = rs.take (plc rs n) ++ [(n, n + 1)] ++ rs.drop (plc rs n) by unfold putR; rw [HLB.out, HRB.out]; rfl)
  clear HLB HRB HPL
  generalize hpk : plc rs n = k at *
  clear hpk
  obtain ⟨g, cc, cur, hvf, hgc, hlc, hcm, hcs, htk⟩ := HO2.out.form (by omega)
  obtain ⟨rfl, rfl⟩ : A = some ⟨g, 0, none⟩ ∧ c = cc := by
    injection hvf with e1 _ e3
    exact ⟨e1, e3⟩
  clear hvf
  have HGC := Lib.hid hgc; have HCS := Lib.hid hcs; have HTK := Lib.hid htk
  clear hgc hcs htk
  have hk1 : k - 1 < rs.length := by omega
  have hgx : rs.getD (k - 1) (0, 0) = rs[k - 1] := by simp [List.getD, List.getElem?_eq_getElem hk1]
  rw [hgx] at hx
  try rw [hgx] at HPU
  obtain ⟨x0, x1, xf0, xf1⟩ := HO2.out.cell (k - 1) hk1
  have HSX := Lib.hid (fun t => rgCells_set1 rs (k - 1) hk1 t)
  have hea1 := HRG.out.each rs[k - 1] (List.getElem_mem hk1)
  clear hgx
  generalize rs[k - 1] = rx at *
  obtain ⟨xa, xb⟩ := rx
  simp only at x0 x1 hx HSX hea1 HPU
  have ek : (k : Int) - 1 = ((k - 1 : Nat) : Int) := by omega
  have k1 : (0 : Int) < k := by omega
  have k2 : ((k - 1 : Nat) : Int) < rs.length := by omega
  have bx : (xb == n) = false := by simpa using hx
  have k3 : ¬ (k : Int) < rs.length := by omega
  clear hx hR
  go_wp2_with fail
  have hbA : Below w2.heap.size w2 (w2.alloc (.cells #[.int .i64 n, .int .i64 (n + 1)] 173)) := (Below.refl _ _).alloc (Nat.le_refl _) _
  have hnew : (w2.alloc (.cells #[.int .i64 n, .int .i64 (n + 1)] 173)).heap[w2.heap.size]? = some (.cells [Value.int .i64 n, Value.int .i64 (n + 1)].toArray 173 (0, 0)) := heap_alloc_new w2 _
  have hszA : (w2.alloc (.cells #[.int .i64 n, .int .i64 (n + 1)] 173)).heap.size = w2.heap.size + 1 := by simp
  have hgA : w2.grownBy (w2.alloc (.cells #[.int .i64 n, .int .i64 (n + 1)] 173)) (Value.slice (some ⟨g, 0, none⟩) rs.length c).ownBlock := World.grownBy_alloc w2 _ _
  generalize (w2.alloc (.cells #[.int .i64 n, .int .i64 (n + 1)] 173)) = w3 at *
  have hi := insR_any w3 0 rs.length k w2.heap.size _ (rgCells rs) [.int .i64 n, .int .i64 (n + 1)] (by omega) (by omega) (Nat.zero_le _) (HO2.out.up hbA) rfl hnew (fun e => by have := (World.ownsRow.lt HO2.out _ e).2; omega) (rgCells_one rs) (by intro u hu; simp at hu; rcases hu with rfl | rfl <;> rfl)
  refine hi.mono ?_
  rintro e w4 ⟨v', rfl, ho4, hg4, hbl4⟩
  have HG4 := Lib.hid (hgA.andThen hg4 (fun j hj => .inr hj))
  have HO5 := Lib.hid (show OwnR w4 v' (putR rs n) by
    have := ho4
    rw [rgCells_take, rgCells_drop, show [Value.int .i64 n, Value.int .i64 (n + 1)] = rgCells [(n, n + 1)] from rfl, ← rgCells_append, ← rgCells_append, ← HPU.out] at this
    unfold OwnR
    have hl5 : (putR rs n).length = rs.length + 1 := by rw [HPU.out]; simp; omega
    rw [hl5]
    exact this)
  have HB4 := Lib.hid (show v'.ownBlock = (Value.slice (some ⟨g, 0, none⟩) rs.length c).ownBlock ∨ ∃ k, v'.ownBlock = some k ∧ w2.heap.size ≤ k from hbl4.imp id (fun ⟨k, h1, h2⟩ => ⟨k, h1, by omega⟩))
  clear hi ho4 hg4 hbl4 hbA hnew hszA hgA
  clear x0 x1 xf0 xf1
  have hmid := HH2.out.mid s (.slice (some ⟨g, 0, none⟩) rs.length c) HV0.out HV1.out HG4.out
  have HMS := Lib.hid hmid.1
  have hcm5 := hmid.2
  clear hmid
  go_wp2_with (at_mapUpdate; refine wpList_mapS_put rfl (.tmp 110) (.tmp 111) (.tmp 112) 137 171 rfl Tryz.underlying137 bm (m.map fun p => (p.1, V p.1)) rfl HMS.out (by unfold maxLen; simp; omega) s rfl (by unfold maxLen; omega) _ rfl ?_; intro w5 hm5 hg5)
  go_wp2
  go_ret
  have hst := HH2.out.stored s (.slice (some ⟨g, 0, none⟩) rs.length c) _ (putR rs n) HV0.out HV1.out HG4.out HO5.out HB4.out (fun e => by
    have hne := putR_ne rs HRG.out HPH.out
    rcases HO5.out.2 with ⟨_, h0⟩ | ⟨g0, _, _, h0, _⟩
    · exact hne (List.eq_nil_of_length_eq_zero h0)
    · rw [h0] at e; cases e) hm5 hg5 (by have := HOK.out; rw [HPR.out] at this; exact this)
  refine ⟨_, _, rfl, by rw [HPR.out]; exact hst.1, (Keep.of_below (F := G) hbw).trans hst.2 (fun _ _ h => h), fun b hb => ?_⟩
  rcases hb with ⟨hb, _⟩ | ⟨hb, _⟩
  · exact .inl hb
  · right; omega

set_option maxRecDepth 100000 in
set_option maxHeartbeats 2000000 in
theorem put_de (w : World) (G : Nat → Prop) (bs bm : Nat) (m : Had) (V : List UInt8 → Value) (h : HadAt w G bs bm m V) (s : List UInt8) (n : Int) (hlen : (hadRow m s).length ≤ 100000) (hml : m.length < 1000000) (hp : putsB m s n = true)
    (hL : 0 < plc (hadRow m s) n) (hx : ((hadRow m s).getD (plc (hadRow m s) n - 1) (0, 0)).2 ≠ n) (hR : plc (hadRow m s) n < (hadRow m s).length) (hy : ((hadRow m s).getD (plc (hadRow m s) n) (0, 0)).1 = n + 1) :
    Calls Tryz.prog 85 #[.pointer (some ⟨bs, 0, none⟩), .string ⟨s.toArray⟩, .int .i64 n] w (HPutPost w G bs bm (putH m s n) true) := by
  have hok := h.ok.put hp
  have hp' := hp
  unfold putsB at hp'
  simp only [Bool.and_eq_true, decide_eq_true_eq, Bool.not_eq_true'] at hp'
  obtain ⟨⟨⟨p1, p2⟩, p3⟩, p4⟩ := hp'
  have hs24 : s.length ≤ 24 := by unfold nameB at p1; simp at p1; omega
  have HRG := Lib.hid (h.ok.row s)
  have HP1 := Lib.hid p1; have HP4 := Lib.hid p4; have HH := Lib.hid h
  have HPH := Lib.hid (show hasR (hadRow m s) n = false from p4)
  have HPR := Lib.hid (show putH m s n = putB s (putR (hadRow m s) n) m from rfl)
  have HOK := Lib.hid hok
  clear hok hp p1 p4
  go_enter Tryz.func85, Tryz.ntmps85
  go_wp2_with fail
  refine (name_all w s).mono ?_
  rintro e w0 ⟨rfl, rfl⟩
  rw [HP1.out]
  have d1 : decide (n < 1) = false := decide_eq_false (by omega)
  have d2 : decide (1099511627776 < n) = false := decide_eq_false (by omega)
  go_wp2_with fail
  refine (has_any w G bs bm m V HH.out s (by omega) (by omega) n).mono ?_
  rintro e w1 ⟨rfl, hb1⟩
  rw [HP4.out]
  have HH1 := Lib.hid (HH.out.up hb1)
  obtain ⟨v, hl, hown, hv0, hv1⟩ := HH1.out.look s (by omega)
  have hc1 := HH1.out.cell
  have HV0 := Lib.hid hv0; have HV1 := Lib.hid hv1
  have HPL := Lib.hid (show putR (hadRow m s) n = putR (hadRow m s) n from rfl)
  generalize hrs : hadRow m s = rs at *
  have HRS := Lib.hid hrs
  clear hrs hv0 hv1
  obtain ⟨A, c, rfl⟩ := ownsRow_form hown
  have HO1 := Lib.hid hown
  clear hown d1 d2
  go_wp2_with fail
  refine (place_any w1 _ rs HO1.out HRG.out (by omega) n).mono ?_
  rintro e w2 ⟨rfl, hb2⟩
  have HH2 := Lib.hid (HH1.out.up hb2)
  have HO2 := Lib.hid (HO1.out.up hb2)
  have hbw : Below w.heap.size w w2 := hb1.trans (hb2.mono hb1.size)
  have hsz := hbw.size
  clear hl hc1 hb1 hb2
  have hpl := plc_le rs n
  have HLB := Lib.hid (show lefB rs n = false by unfold lefB; simp; intro _; exact fun h => hx (by simpa using h))
  have HRB := Lib.hid (show rigB rs n = true by unfold rigB; simp only [hy]; simp [hR])
  have HPU := Lib.hid (show putR rs n = rs.set (plc rs n) (n, (rs.getD (plc rs n) (0, 0)).2) by unfold putR; rw [HLB.out, HRB.out]; rfl)
  clear HLB HRB HPL
  generalize hpk : plc rs n = k at *
  clear hpk
  obtain ⟨g, cc, cur, hvf, hgc, hlc, hcm, hcs, htk⟩ := HO2.out.form (by omega)
  obtain ⟨rfl, rfl⟩ : A = some ⟨g, 0, none⟩ ∧ c = cc := by
    injection hvf with e1 _ e3
    exact ⟨e1, e3⟩
  clear hvf
  have HGC := Lib.hid hgc; have HCS := Lib.hid hcs; have HTK := Lib.hid htk
  clear hgc hcs htk
  have hk1 : k - 1 < rs.length := by omega
  have hgx : rs.getD (k - 1) (0, 0) = rs[k - 1] := by simp [List.getD, List.getElem?_eq_getElem hk1]
  rw [hgx] at hx
  try rw [hgx] at HPU
  obtain ⟨x0, x1, xf0, xf1⟩ := HO2.out.cell (k - 1) hk1
  have HSX := Lib.hid (fun t => rgCells_set1 rs (k - 1) hk1 t)
  have hea1 := HRG.out.each rs[k - 1] (List.getElem_mem hk1)
  clear hgx
  generalize rs[k - 1] = rx at *
  obtain ⟨xa, xb⟩ := rx
  simp only at x0 x1 hx HSX hea1 HPU
  have ek : (k : Int) - 1 = ((k - 1 : Nat) : Int) := by omega
  have k1 : (0 : Int) < k := by omega
  have k2 : ((k - 1 : Nat) : Int) < rs.length := by omega
  have bx : (xb == n) = false := by simpa using hx
  have hgy : rs.getD k (0, 0) = rs[k] := by simp [List.getD, List.getElem?_eq_getElem hR]
  rw [hgy] at hy
  try rw [hgy] at HPU
  obtain ⟨y0, y1, yf0, yf1⟩ := HO2.out.cell k hR
  have HSY := Lib.hid (fun t => rgCells_set0 rs k hR t)
  have hea2 := HRG.out.each rs[k] (List.getElem_mem hR)
  clear hgy
  generalize rs[k] = ry at *
  obtain ⟨ya, yb⟩ := ry
  simp only at y0 y1 hy HSY hea2 HPU
  have k3 : (k : Int) < rs.length := by omega
  have by_ : (ya == n + 1) = true := by simpa using hy
  clear hx hy
  have HO3 := Lib.hid (World.ownsRow.stored HO2.out (k * 2) (.int .i64 (n)))
  have HG4 := Lib.hid HO3.out.2
  have HO5 := Lib.hid (show OwnR (w2.setCell ⟨g, k * 2, none⟩ (.int .i64 (n))) (.slice (some ⟨g, 0, none⟩) rs.length c) (putR rs n) by
    have h1 := HO3.out.1
    rw [HSY.out (n)] at h1
    rw [HPU.out]
    unfold OwnR
    rw [List.length_set]
    exact h1)
  obtain ⟨v', hv'⟩ : ∃ v', v' = Value.slice (some ⟨g, 0, none⟩) rs.length c := ⟨_, rfl⟩
  have HV' := Lib.hid hv'
  clear hv'
  have hmid := HH2.out.mid s (.slice (some ⟨g, 0, none⟩) rs.length c) HV0.out HV1.out HG4.out
  have HMS := Lib.hid hmid.1
  have hcm5 := hmid.2
  clear hmid
  go_wp2_with (at_mapUpdate; refine wpList_mapS_put rfl (.tmp 110) (.tmp 111) (.tmp 112) 137 171 rfl Tryz.underlying137 bm (m.map fun p => (p.1, V p.1)) rfl HMS.out (by unfold maxLen; simp; omega) s rfl (by unfold maxLen; omega) _ rfl ?_; intro w5 hm5 hg5)
  go_wp2
  go_ret
  have hst := HH2.out.stored s (.slice (some ⟨g, 0, none⟩) rs.length c) _ (putR rs n) HV0.out HV1.out HG4.out HO5.out (.inl rfl) (fun e => by
    have hne := putR_ne rs HRG.out HPH.out
    rcases HO5.out.2 with ⟨_, h0⟩ | ⟨g0, _, _, h0, _⟩
    · exact hne (List.eq_nil_of_length_eq_zero h0)
    · rw [h0] at e; cases e) hm5 hg5 (by have := HOK.out; rw [HPR.out] at this; exact this)
  refine ⟨_, _, rfl, by rw [HPR.out]; exact hst.1, (Keep.of_below (F := G) hbw).trans hst.2 (fun _ _ h => h), fun b hb => ?_⟩
  rcases hb with ⟨hb, _⟩ | ⟨hb, _⟩
  · exact .inl hb
  · right; omega

set_option maxRecDepth 100000 in
set_option maxHeartbeats 2000000 in
theorem put_dd (w : World) (G : Nat → Prop) (bs bm : Nat) (m : Had) (V : List UInt8 → Value) (h : HadAt w G bs bm m V) (s : List UInt8) (n : Int) (hlen : (hadRow m s).length ≤ 100000) (hml : m.length < 1000000) (hp : putsB m s n = true)
    (hL : 0 < plc (hadRow m s) n) (hx : ((hadRow m s).getD (plc (hadRow m s) n - 1) (0, 0)).2 ≠ n) (hR : plc (hadRow m s) n < (hadRow m s).length) (hy : ((hadRow m s).getD (plc (hadRow m s) n) (0, 0)).1 ≠ n + 1) :
    Calls Tryz.prog 85 #[.pointer (some ⟨bs, 0, none⟩), .string ⟨s.toArray⟩, .int .i64 n] w (HPutPost w G bs bm (putH m s n) true) := by
  have hok := h.ok.put hp
  have hp' := hp
  unfold putsB at hp'
  simp only [Bool.and_eq_true, decide_eq_true_eq, Bool.not_eq_true'] at hp'
  obtain ⟨⟨⟨p1, p2⟩, p3⟩, p4⟩ := hp'
  have hs24 : s.length ≤ 24 := by unfold nameB at p1; simp at p1; omega
  have HRG := Lib.hid (h.ok.row s)
  have HP1 := Lib.hid p1; have HP4 := Lib.hid p4; have HH := Lib.hid h
  have HPH := Lib.hid (show hasR (hadRow m s) n = false from p4)
  have HPR := Lib.hid (show putH m s n = putB s (putR (hadRow m s) n) m from rfl)
  have HOK := Lib.hid hok
  clear hok hp p1 p4
  go_enter Tryz.func85, Tryz.ntmps85
  go_wp2_with fail
  refine (name_all w s).mono ?_
  rintro e w0 ⟨rfl, rfl⟩
  rw [HP1.out]
  have d1 : decide (n < 1) = false := decide_eq_false (by omega)
  have d2 : decide (1099511627776 < n) = false := decide_eq_false (by omega)
  go_wp2_with fail
  refine (has_any w G bs bm m V HH.out s (by omega) (by omega) n).mono ?_
  rintro e w1 ⟨rfl, hb1⟩
  rw [HP4.out]
  have HH1 := Lib.hid (HH.out.up hb1)
  obtain ⟨v, hl, hown, hv0, hv1⟩ := HH1.out.look s (by omega)
  have hc1 := HH1.out.cell
  have HV0 := Lib.hid hv0; have HV1 := Lib.hid hv1
  have HPL := Lib.hid (show putR (hadRow m s) n = putR (hadRow m s) n from rfl)
  generalize hrs : hadRow m s = rs at *
  have HRS := Lib.hid hrs
  clear hrs hv0 hv1
  obtain ⟨A, c, rfl⟩ := ownsRow_form hown
  have HO1 := Lib.hid hown
  clear hown d1 d2
  go_wp2_with fail
  refine (place_any w1 _ rs HO1.out HRG.out (by omega) n).mono ?_
  rintro e w2 ⟨rfl, hb2⟩
  have HH2 := Lib.hid (HH1.out.up hb2)
  have HO2 := Lib.hid (HO1.out.up hb2)
  have hbw : Below w.heap.size w w2 := hb1.trans (hb2.mono hb1.size)
  have hsz := hbw.size
  clear hl hc1 hb1 hb2
  have hpl := plc_le rs n
  have HLB := Lib.hid (show lefB rs n = false by unfold lefB; simp; intro _; exact fun h => hx (by simpa using h))
  have HRB := Lib.hid (show rigB rs n = false by unfold rigB; simp; intro _; exact fun h => hy (by simpa using h))
  have HPU := Lib.hid (show putR rs n = rs.take (plc rs n) ++ [(n, n + 1)] ++ rs.drop (plc rs n) by unfold putR; rw [HLB.out, HRB.out]; rfl)
  clear HLB HRB HPL
  generalize hpk : plc rs n = k at *
  clear hpk
  obtain ⟨g, cc, cur, hvf, hgc, hlc, hcm, hcs, htk⟩ := HO2.out.form (by omega)
  obtain ⟨rfl, rfl⟩ : A = some ⟨g, 0, none⟩ ∧ c = cc := by
    injection hvf with e1 _ e3
    exact ⟨e1, e3⟩
  clear hvf
  have HGC := Lib.hid hgc; have HCS := Lib.hid hcs; have HTK := Lib.hid htk
  clear hgc hcs htk
  have hk1 : k - 1 < rs.length := by omega
  have hgx : rs.getD (k - 1) (0, 0) = rs[k - 1] := by simp [List.getD, List.getElem?_eq_getElem hk1]
  rw [hgx] at hx
  try rw [hgx] at HPU
  obtain ⟨x0, x1, xf0, xf1⟩ := HO2.out.cell (k - 1) hk1
  have HSX := Lib.hid (fun t => rgCells_set1 rs (k - 1) hk1 t)
  have hea1 := HRG.out.each rs[k - 1] (List.getElem_mem hk1)
  clear hgx
  generalize rs[k - 1] = rx at *
  obtain ⟨xa, xb⟩ := rx
  simp only at x0 x1 hx HSX hea1 HPU
  have ek : (k : Int) - 1 = ((k - 1 : Nat) : Int) := by omega
  have k1 : (0 : Int) < k := by omega
  have k2 : ((k - 1 : Nat) : Int) < rs.length := by omega
  have bx : (xb == n) = false := by simpa using hx
  have hgy : rs.getD k (0, 0) = rs[k] := by simp [List.getD, List.getElem?_eq_getElem hR]
  rw [hgy] at hy
  try rw [hgy] at HPU
  obtain ⟨y0, y1, yf0, yf1⟩ := HO2.out.cell k hR
  have HSY := Lib.hid (fun t => rgCells_set0 rs k hR t)
  have hea2 := HRG.out.each rs[k] (List.getElem_mem hR)
  clear hgy
  generalize rs[k] = ry at *
  obtain ⟨ya, yb⟩ := ry
  simp only at y0 y1 hy HSY hea2 HPU
  have k3 : (k : Int) < rs.length := by omega
  have by_ : (ya == n + 1) = false := by simpa using hy
  clear hx hy
  go_wp2_with fail
  have hbA : Below w2.heap.size w2 (w2.alloc (.cells #[.int .i64 n, .int .i64 (n + 1)] 173)) := (Below.refl _ _).alloc (Nat.le_refl _) _
  have hnew : (w2.alloc (.cells #[.int .i64 n, .int .i64 (n + 1)] 173)).heap[w2.heap.size]? = some (.cells [Value.int .i64 n, Value.int .i64 (n + 1)].toArray 173 (0, 0)) := heap_alloc_new w2 _
  have hszA : (w2.alloc (.cells #[.int .i64 n, .int .i64 (n + 1)] 173)).heap.size = w2.heap.size + 1 := by simp
  have hgA : w2.grownBy (w2.alloc (.cells #[.int .i64 n, .int .i64 (n + 1)] 173)) (Value.slice (some ⟨g, 0, none⟩) rs.length c).ownBlock := World.grownBy_alloc w2 _ _
  generalize (w2.alloc (.cells #[.int .i64 n, .int .i64 (n + 1)] 173)) = w3 at *
  have hi := insR_any w3 0 rs.length k w2.heap.size _ (rgCells rs) [.int .i64 n, .int .i64 (n + 1)] (by omega) (by omega) (Nat.zero_le _) (HO2.out.up hbA) rfl hnew (fun e => by have := (World.ownsRow.lt HO2.out _ e).2; omega) (rgCells_one rs) (by intro u hu; simp at hu; rcases hu with rfl | rfl <;> rfl)
  refine hi.mono ?_
  rintro e w4 ⟨v', rfl, ho4, hg4, hbl4⟩
  have HG4 := Lib.hid (hgA.andThen hg4 (fun j hj => .inr hj))
  have HO5 := Lib.hid (show OwnR w4 v' (putR rs n) by
    have := ho4
    rw [rgCells_take, rgCells_drop, show [Value.int .i64 n, Value.int .i64 (n + 1)] = rgCells [(n, n + 1)] from rfl, ← rgCells_append, ← rgCells_append, ← HPU.out] at this
    unfold OwnR
    have hl5 : (putR rs n).length = rs.length + 1 := by rw [HPU.out]; simp; omega
    rw [hl5]
    exact this)
  have HB4 := Lib.hid (show v'.ownBlock = (Value.slice (some ⟨g, 0, none⟩) rs.length c).ownBlock ∨ ∃ k, v'.ownBlock = some k ∧ w2.heap.size ≤ k from hbl4.imp id (fun ⟨k, h1, h2⟩ => ⟨k, h1, by omega⟩))
  clear hi ho4 hg4 hbl4 hbA hnew hszA hgA
  clear x0 x1 xf0 xf1
  clear y0 y1 yf0 yf1
  have hmid := HH2.out.mid s (.slice (some ⟨g, 0, none⟩) rs.length c) HV0.out HV1.out HG4.out
  have HMS := Lib.hid hmid.1
  have hcm5 := hmid.2
  clear hmid
  go_wp2_with (at_mapUpdate; refine wpList_mapS_put rfl (.tmp 110) (.tmp 111) (.tmp 112) 137 171 rfl Tryz.underlying137 bm (m.map fun p => (p.1, V p.1)) rfl HMS.out (by unfold maxLen; simp; omega) s rfl (by unfold maxLen; omega) _ rfl ?_; intro w5 hm5 hg5)
  go_wp2
  go_ret
  have hst := HH2.out.stored s (.slice (some ⟨g, 0, none⟩) rs.length c) _ (putR rs n) HV0.out HV1.out HG4.out HO5.out HB4.out (fun e => by
    have hne := putR_ne rs HRG.out HPH.out
    rcases HO5.out.2 with ⟨_, h0⟩ | ⟨g0, _, _, h0, _⟩
    · exact hne (List.eq_nil_of_length_eq_zero h0)
    · rw [h0] at e; cases e) hm5 hg5 (by have := HOK.out; rw [HPR.out] at this; exact this)
  refine ⟨_, _, rfl, by rw [HPR.out]; exact hst.1, (Keep.of_below (F := G) hbw).trans hst.2 (fun _ _ h => h), fun b hb => ?_⟩
  rcases hb with ⟨hb, _⟩ | ⟨hb, _⟩
  · exact .inl hb
  · right; omega

theorem putI_any (w : World) (G : Nat → Prop) (bs bm : Nat) (m : Had) (V : List UInt8 → Value) (h : HadAt w G bs bm m V) (s : List UInt8) (n : Int) (hlen : (hadRow m s).length ≤ 100000) (hml : m.length < 1000000) (hp : putsB m s n = true) :
    Calls Tryz.prog 85 #[.pointer (some ⟨bs, 0, none⟩), .string ⟨s.toArray⟩, .int .i64 n] w (HPutPost w G bs bm (putH m s n) true) := by
  have hpl := plc_le (hadRow m s) n
  by_cases hL : plc (hadRow m s) n = 0
  · by_cases hR : plc (hadRow m s) n = (hadRow m s).length
    · exact put_zz w G bs bm m V h s n hlen hml hp hL hR
    · by_cases hy : ((hadRow m s).getD (plc (hadRow m s) n) (0, 0)).1 = n + 1
      · exact put_ze w G bs bm m V h s n hlen hml hp hL (by omega) hy
      · exact put_zd w G bs bm m V h s n hlen hml hp hL (by omega) hy
  · by_cases hx : ((hadRow m s).getD (plc (hadRow m s) n - 1) (0, 0)).2 = n
    · by_cases hR : plc (hadRow m s) n = (hadRow m s).length
      · exact put_ez w G bs bm m V h s n hlen hml hp (by omega) hx hR
      · by_cases hy : ((hadRow m s).getD (plc (hadRow m s) n) (0, 0)).1 = n + 1
        · exact put_ee w G bs bm m V h s n hlen hml hp (by omega) hx (by omega) hy
        · exact put_ed w G bs bm m V h s n hlen hml hp (by omega) hx (by omega) hy
    · by_cases hR : plc (hadRow m s) n = (hadRow m s).length
      · exact put_dz w G bs bm m V h s n hlen hml hp (by omega) hx hR
      · by_cases hy : ((hadRow m s).getD (plc (hadRow m s) n) (0, 0)).1 = n + 1
        · exact put_de w G bs bm m V h s n hlen hml hp (by omega) hx (by omega) hy
        · exact put_dd w G bs bm m V h s n hlen hml hp (by omega) hx (by omega) hy

end Go.Proofs.YtbejfgmdkmddnaaGreatDoor
