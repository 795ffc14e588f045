/-
  Layer 8, plain: what the laws say of an intake behind any deeds.
  Layer 8: what an intake has that Admits events; event.Same.
-/
import Derived.Test.YtgbagjpokpchpaaGreatDoorFGrPlain
namespace Go.Proofs.YtgbagjpokpchpaaGreatDoor
open Go.RowKit Go.Maps Go.Sort

theorem offer_same {x : Itk} {e : Ev} {now : Int} (ht : x.tick now = x) (hr : x.refuses e = true) : x.offer e now = x ∧ x.offered e now = x.verdict e := by
  unfold Itk.offer Itk.offered
  rw [ht, if_pos hr, if_pos hr]
  exact ⟨rfl, rfl⟩
theorem admit_same {x : Itk} {e : Ev} (hr : x.refuses e = true) : x.admits e = x ∧ x.admitted e = x.verdict e := by
  unfold Itk.admits Itk.admitted
  rw [if_pos hr, if_pos hr]
  exact ⟨rfl, rfl⟩
theorem PlayInv.tick0 {x : Itk} (h : PlayInv x) : x.tick 0 = x := h.tick_same (by rw [bound0]; exact h.now)
theorem may_at {e : Ev} {o : Int} (h : mayB e = true) (h0 : 0 ≤ o) (h1 : o ≤ 1099511627776) : mayB { e with at_ := o } = true := by
  unfold mayB headB at h ⊢
  simp only [Bool.and_eq_true, decide_eq_true_eq] at h ⊢
  exact ⟨⟨⟨h.1.1.1, h0⟩, h1⟩, h.2⟩
theorem PlayInv.twice {x : Itk} (h : PlayInv x) (hl : x.taken.length < 1048576) {e : Ev} (he : e ∈ x.taken) : (x.offer e 0 = x ∧ x.offered e 0 = 1) ∧ (x.admits e = x ∧ x.admitted e = 1) := by
  obtain ⟨v1, r1⟩ := h.double hl he (h.may e (.inl he)) rfl rfl rfl rfl
  have a := offer_same h.tick0 r1
  have b := admit_same r1
  rw [v1] at a b
  exact ⟨a, b⟩
theorem PlayInv.twice_at {x : Itk} (h : PlayInv x) (hl : x.taken.length < 1048576) {e : Ev} (he : e ∈ x.taken) {o : Int} (h0 : 0 ≤ o) (h1 : o ≤ 1099511627776) : x.offer { e with at_ := o } 0 = x ∧ x.offered { e with at_ := o } 0 = 1 := by
  obtain ⟨v1, r1⟩ := h.double (e' := { e with at_ := o }) hl he (may_at (h.may e (.inl he)) h0 h1) rfl rfl rfl rfl
  have a := offer_same h.tick0 r1
  rw [v1] at a
  exact a
theorem small_deed {x : Itk} (h : ItkInv Ev.small x) {d : Dd} (hd : d.e.small) : ItkInv Ev.small (x.deed d) := by
  unfold Itk.deed
  split
  · exact h.offer hd _
  split
  · exact h.admits hd
  split
  · exact h.tick _
  split
  · exact h.drop _
  · exact h
theorem small_grown (slack idle : Int) (ds : List Dd) (h : ∀ d ∈ ds, d.e.small) : ItkInv Ev.small (Itk.grown slack idle ds) := by
  unfold Itk.grown
  have key : ∀ (ds : List Dd) (x : Itk), (∀ d ∈ ds, d.e.small) → ItkInv Ev.small x → ItkInv Ev.small (ds.foldl Itk.deed x) := fun ds => by
    induction ds with
    | nil => exact fun x _ h => h
    | cons d ds ih => exact fun x hs h => ih _ (fun a ha => hs a (by simp [ha])) (small_deed h (hs d (by simp)))
  exact key ds _ h (ItkInv.new _ slack idle)
theorem offered_zero {x : Itk} {f : Ev} {now : Int} (h : x.offered f now = 0) : x.offer f now = ((x.tick now).hear f now).took f := by
  unfold Itk.offered at h
  unfold Itk.offer
  by_cases hr : (x.tick now).refuses f = true
  · rw [if_pos hr] at h
    exfalso
    unfold Itk.verdict at h
    unfold Itk.refuses at hr
    cases hw : (x.tick now).wrong f
    · rw [hw] at hr h
      rw [Bool.false_or] at hr
      rw [hr] at h
      simp at h
    · rw [hw] at h; simp at h
  · rw [if_neg hr] at h ⊢
    by_cases hh : ((x.tick now).clk.tick now).hears f.src f.at_ = true
    · rw [if_pos hh]
    · rw [if_neg hh] at h; simp at h
theorem offered_gone {x : Itk} {f : Ev} {now : Int} (hk : f.kind = 14) (h : x.offered f now = 0) : f.per ∈ (x.offer f now).gone := by
  rw [offered_zero h]
  unfold Itk.took
  rw [if_pos hk]
  show f.per ∈ f.per :: _
  simp
theorem wrong_gone {y : Itk} {e : Ev} (hp : e.per ∈ y.gone) (hk : e.kind ≠ 14) : y.wrong e = true := by
  unfold Itk.wrong
  rw [decide_eq_true hp, bne_iff_ne.2 hk]
  simp
theorem PlayInv.forgot {y : Itk} (h : PlayInv y) {now : Int} (hn : boundI now ≤ y.clk.now) {e : Ev} (hp : e.per ∈ y.gone) (hk : e.kind ≠ 14) : (y.offer e now = y ∧ y.offered e now = 3) ∧ (y.admits e = y ∧ y.admitted e = 3) := by
  have hw := wrong_gone hp hk
  have r1 : y.refuses e = true := by unfold Itk.refuses; rw [hw]; rfl
  have v1 : y.verdict e = 3 := by unfold Itk.verdict; rw [hw]; rfl
  have a := offer_same (h.tick_same hn) r1
  have b := admit_same r1
  rw [v1] at a b
  exact ⟨a, b⟩
theorem PlayInv.keptAll {y : Itk} (h : PlayInv y) {p : List UInt8} (hp : p ∈ y.gone) : (y.taken ++ y.late).filter (keepB p) = y.taken ++ y.late := by
  rw [List.filter_eq_self]
  intro e he
  unfold keepB
  by_cases hg : e.per = p
  · have := h.inv.stay e (List.mem_append.1 he) (hg ▸ hp)
    simp [this]
  · simp [hg]
theorem PlayInv.dropped {x : Itk} (h : PlayInv x) (hl : x.taken.length < 1048576) (p : Ev → Bool) {e : Ev} (he : e ∈ x.taken) : (x.drop p).offer e 0 = x.drop p ∧ (x.drop p).offered e 0 = 1 := by
  have hw : (x.drop p).wrong e = false := by
    unfold Itk.wrong
    rw [h.may e (.inl he)]
    have : (decide (e.per ∈ (x.drop p).gone) && (e.kind != 14)) = false := by
      by_cases hg : e.per ∈ x.gone
      · have := h.inv.stay e (.inl he) hg; simp [this]
      · have : e.per ∉ (x.drop p).gone := hg
        simp [this]
    have hlt : ¬ 1048576 ≤ (x.drop p).taken.length := by
      have : (x.drop p).taken.length ≤ x.taken.length := List.length_filter_le _ _
      omega
    rw [this, decide_eq_false hlt]; rfl
  have hh : hadB (x.drop p).had e.src e.num = true := h.kept e he
  have r1 : (x.drop p).refuses e = true := by unfold Itk.refuses; rw [hw, hh]; rfl
  have v1 : (x.drop p).verdict e = 1 := by unfold Itk.verdict; rw [hw, hh]; rfl
  have a := offer_same (h.drop p).tick0 r1
  rw [v1] at a
  exact a
/-- how many events are somebody's -/
def cntP (p : List UInt8) (l : List Ev) : Nat := (l.filter fun e => e.per == p).length
theorem cnt_off (p : List UInt8) (l : List Ev) : (cntP p l : Int) = l.length - (l.filter (fun e => e.per != p)).length := by
  unfold cntP
  induction l with
  | nil => rfl
  | cons e l ih =>
    cases hp : e.per == p
    · rw [List.filter_cons_of_neg (by simp [hp]), List.filter_cons_of_pos (by simp [bne, hp])]
      simp only [List.length_cons]; omega
    · rw [List.filter_cons_of_pos (by simp [hp]), List.filter_cons_of_neg (by simp [bne, hp])]
      simp only [List.length_cons]; omega
theorem cntP_take (p : List UInt8) (l : List Ev) (k : Nat) (hk : k < l.length) : cntP p (l.take (k + 1)) = cntP p (l.take k) + (if l[k].per == p then 1 else 0) := by
  unfold cntP
  rw [List.take_add_one, List.getElem?_eq_getElem hk, Option.toList_some, List.filter_append, List.length_append]
  cases hp : l[k].per == p <;> simp [hp]
theorem cntP_le (p : List UInt8) (l : List Ev) : cntP p l ≤ l.length := List.length_filter_le _ _

/-- events admitted, in order -/
def admAll (y : Itk) (l : List Ev) : Itk := l.foldl Itk.admits y
theorem admAll_take (y : Itk) (l : List Ev) (k : Nat) (hk : k < l.length) : admAll y (l.take (k + 1)) = (admAll y (l.take k)).admits l[k] := by
  unfold admAll
  rw [List.take_add_one, List.getElem?_eq_getElem hk, Option.toList_some, List.foldl_append]; rfl
/-- events of an intake, in another order -/
structure AdmOk (x : Itk) (o : List Ev) : Prop where
  play : PlayInv x
  mem : ∀ e, e ∈ o ↔ e ∈ x.taken
  ids : (o.map idOf).Nodup
  len : o.length ≤ 1000
theorem AdmOk.alike {x : Itk} {o : List Ev} (h : AdmOk x o) : AlikeP o := fun a ha b hb h1 h2 => ids_inj h.ids ha hb (by unfold idOf; rw [h1, h2])
theorem AdmOk.inv {x : Itk} {o : List Ev} (h : AdmOk x o) (slack idle : Int) : ∀ k, k ≤ o.length → OrdInv (o.take k) (admAll (Itk.new slack idle) (o.take k)) := by
  intro k
  induction k with
  | zero => intro _; exact OrdInv.new _ _
  | succ k ih =>
    intro hk
    rw [admAll_take _ _ _ (by omega)]
    have e1 : o.take (k + 1) = o.take k ++ [o[k]] := by rw [List.take_add_one, List.getElem?_eq_getElem (by omega), Option.toList_some]
    rw [e1]
    refine (ih (by omega)).admits (by rw [List.length_take]; have := h.len; omega) ?_
    rw [← e1]
    intro a ha b hb
    exact h.alike a (List.mem_of_mem_take ha) b (List.mem_of_mem_take hb)
theorem AdmOk.fine {x : Itk} {o : List Ev} (h : AdmOk x o) (slack idle : Int) (k : Nat) (hk : k < o.length) : (admAll (Itk.new slack idle) (o.take k)).refuses o[k] = false := by
  have hi := h.inv slack idle k (by omega)
  have hx : o[k] ∈ x.taken := (h.mem _).1 (List.getElem_mem hk)
  have hw : (admAll (Itk.new slack idle) (o.take k)).wrong o[k] = false := by
    unfold Itk.wrong
    rw [h.play.may _ (.inl hx)]
    have h2 : (decide (o[k].per ∈ (admAll (Itk.new slack idle) (o.take k)).gone) && (o[k].kind != 14)) = false := by
      by_cases hg : o[k].per ∈ (admAll (Itk.new slack idle) (o.take k)).gone
      · obtain ⟨f, hf, _, hf2, hf3⟩ := (hi.gone _).1 hg
        have := h.play.inv.forg f ((h.mem _).1 (List.mem_of_mem_take hf)) hf2
        have := h.play.inv.stay _ (.inl hx) (hf3 ▸ this)
        simp [this]
      · simp [hg]
    have h3 : ¬ 1048576 ≤ (admAll (Itk.new slack idle) (o.take k)).taken.length := by
      have := hi.len; rw [List.length_take] at this; have := h.len; omega
    rw [h2, decide_eq_false h3]; rfl
  have hh : hadB (admAll (Itk.new slack idle) (o.take k)).had o[k].src o[k].num = false := by
    cases hh : hadB (admAll (Itk.new slack idle) (o.take k)).had o[k].src o[k].num
    · rfl
    · exfalso
      obtain ⟨e', he', _, h1, h2⟩ := hi.had _ _ hh
      have hn := h.ids
      have e0 : o = o.take k ++ o.drop k := (List.take_append_drop k o).symm
      rw [e0, List.map_append, List.nodup_append] at hn
      refine hn.2.2 (idOf e') (List.mem_map.2 ⟨e', he', rfl⟩) (idOf o[k]) (List.mem_map.2 ⟨o[k], ?_, rfl⟩) (by unfold idOf; rw [h1, h2])
      rw [List.mem_iff_getElem]
      exact ⟨0, by rw [List.length_drop]; omega, by simp⟩
  unfold Itk.refuses
  rw [hw, hh]; rfl
theorem admit_took {y : Itk} {e : Ev} (h : y.refuses e = false) : y.admitted e = 0 ∧ y.admits e = (y.hear e y.clk.now).took e := by
  unfold Itk.admitted Itk.admits
  rw [h]; exact ⟨rfl, rfl⟩
theorem took_late0 {y : Itk} {e : Ev} (h : y.late = []) : (y.took e).late = [] := by
  unfold Itk.took
  split
  · show y.late.filter _ = []; rw [h]; rfl
  · exact h
theorem AdmOk.late {x : Itk} {o : List Ev} (h : AdmOk x o) (slack idle : Int) : ∀ k, k ≤ o.length → (admAll (Itk.new slack idle) (o.take k)).late = [] := by
  intro k
  induction k with
  | zero => intro _; rfl
  | succ k ih =>
    intro hk
    rw [admAll_take _ _ _ (by omega), (admit_took (h.fine slack idle k (by omega))).2]
    exact took_late0 (ih (by omega))
theorem AdmOk.gone {x : Itk} {o : List Ev} (h : AdmOk x o) (slack idle : Int) (k : Nat) (hk : k < o.length) : (admAll (Itk.new slack idle) (o.take (k + 1))).gone = if o[k].kind = 14 then o[k].per :: (admAll (Itk.new slack idle) (o.take k)).gone else (admAll (Itk.new slack idle) (o.take k)).gone := by
  rw [admAll_take _ _ _ hk, (admit_took (h.fine slack idle k hk)).2]
  unfold Itk.took
  split <;> rfl
theorem AdmOk.all {x : Itk} {o : List Ev} (h : AdmOk x o) (slack idle : Int) : (admAll (Itk.new slack idle) o).taken = x.taken := by
  have hi := h.inv slack idle o.length (Nat.le_refl _)
  rw [List.take_length] at hi
  refine sorted_unique hi.sorted h.play.sorted hi.ids h.play.ids fun e => ?_
  rw [hi.taken, h.mem]
  constructor
  · exact fun h' => h'.1
  · intro he
    refine ⟨he, h.play.may e (.inl he), ?_⟩
    by_cases hg : e.per ∈ (admAll (Itk.new slack idle) o).gone
    · obtain ⟨f, hf, _, hf2, hf3⟩ := (hi.gone _).1 hg
      exact .inl (h.play.inv.stay e (.inl he) (hf3 ▸ h.play.inv.forg f ((h.mem _).1 hf) hf2))
    · exact .inr hg
theorem AdmOk.turned {x : Itk} (h : PlayInv x) (hl : x.taken.length ≤ 1000) (m : Nat) : AdmOk x (x.taken.drop m ++ x.taken.take m) := by
  have hp : (x.taken.drop m ++ x.taken.take m).Perm x.taken := by
    conv => rhs; rw [← List.take_append_drop m x.taken]
    exact List.perm_append_comm
  exact ⟨h, fun e => hp.mem_iff, (hp.map idOf).nodup_iff.2 h.ids, by rw [hp.length_eq]; exact hl⟩
end Go.Proofs.YtgbagjpokpchpaaGreatDoor
namespace Go.Proofs.YtgbagjpokpchpaaGreatDoor
open Go.RowKit Go.Maps Go.Sort

theorem adm_inv {l : List Ev} (ha : AlikeP l) (hl : l.length ≤ 1000) : ∀ k, k ≤ l.length → OrdInv (l.take k) (admAll (Itk.new 0 0) (l.take k)) := by
  intro k
  induction k with
  | zero => intro _; exact OrdInv.new _ _
  | succ k ih =>
    intro hk
    rw [admAll_take _ _ _ (by omega)]
    have e1 : l.take (k + 1) = l.take k ++ [l[k]] := by rw [List.take_add_one, List.getElem?_eq_getElem (by omega), Option.toList_some]
    rw [e1]
    refine (ih (by omega)).admits (by rw [List.length_take]; omega) ?_
    rw [← e1]
    intro a ha' b hb
    exact ha a (List.mem_of_mem_take ha') b (List.mem_of_mem_take hb)
def sameI (a b : Ev) : Bool := (a.src == b.src) && (a.num == b.num)
theorem evsame_any (w : World) (a b : Ev) : Calls Tryz.prog 9 #[a.agg, b.agg] w (Says (sameI a b) w) := by
  have hb1 : Below w.heap.size w (w.alloc (evObj a)) := (Below.refl _ _).alloc (Nat.le_refl _) _
  have hb2 : Below w.heap.size w ((w.alloc (evObj a)).alloc (evObj b)) := hb1.alloc hb1.size _
  have hsa : (w.alloc (evObj a)).heap.size = w.heap.size + 1 := by simp
  have HX := (EvIn.new w a).below ((Below.refl (w.alloc (evObj a)).heap.size (w.alloc (evObj a))).alloc (Nat.le_refl _) (evObj b)) (by omega)
  have HY : EvIn ((w.alloc (evObj a)).alloc (evObj b)) (w.heap.size + 1) b := by rw [← hsa]; exact EvIn.new _ b
  obtain ⟨e0, e1, e2, e3, e4, e5, e6, e7⟩ := HX
  obtain ⟨f0, f1, f2, f3, f4, f5, f6, f7⟩ := HY
  have HS := Lib.hid (show sameI a b = ((a.src == b.src) && (a.num == b.num)) from rfl)
  clear hsa hb1
  cases h1 : a.src == b.src
  · have HV := Lib.hid (show sameI a b = false by rw [HS.out, h1]; rfl)
    unfold Ev.agg
    go_enter Tryz.func9, Tryz.ntmps9
    go_wp2
    go_ret
    exact ⟨ret_bool HV.out.symm, hb2⟩
  · have HV := Lib.hid (show sameI a b = (a.num == b.num) by rw [HS.out, h1]; rfl)
    unfold Ev.agg
    go_enter Tryz.func9, Tryz.ntmps9
    go_wp2
    go_ret
    exact ⟨ret_bool HV.out.symm, hb2⟩
theorem same_ids {a b : Ev} : sameI a b = true ↔ idOf a = idOf b := by
  unfold sameI idOf
  simp only [Bool.and_eq_true, beq_iff_eq, Prod.mk.injEq]
end Go.Proofs.YtgbagjpokpchpaaGreatDoor
