/-
  Layer 8, plain: nobody who is gone has an event but Forgotten ones.
  Layer 8, plain: what stands behind any deeds.
  Layer 8, plain: what the laws say of an intake behind any deeds.
-/
import Derived.Test.YtoljbbmjbgepiaaGreatDoorDOrdPlain
import Derived.Test.YtoljbbmjbgepiaaGreatDoorDErPplCln
import Derived.Test.YtoljbbmjbgepiaaGreatDoorDItkSet
namespace Go.Proofs.YtoljbbmjbgepiaaGreatDoor
open Go.RowKit Go.Maps Go.Sort

structure ItkInv (P : Ev → Prop) (x : Itk) : Prop where
  taken : ∀ e ∈ x.taken, P e
  late : ∀ e ∈ x.late, P e
  gone : ∀ p ∈ x.gone, ∃ e, P e ∧ e.per = p
  stay : ∀ e, e ∈ x.taken ∨ e ∈ x.late → e.per ∈ x.gone → e.kind = 14
  forg : ∀ e ∈ x.taken, e.kind = 14 → e.per ∈ x.gone
theorem ItkInv.new (P : Ev → Prop) (slack idle : Int) : ItkInv P (Itk.new slack idle) :=
  ⟨fun e he => by simp [Itk.new] at he, fun e he => by simp [Itk.new] at he, fun e he => by simp [Itk.new] at he, fun e he => by simp [Itk.new] at he, fun e he => by simp [Itk.new] at he⟩
theorem ItkInv.tick {P : Ev → Prop} {x : Itk} (h : ItkInv P x) (now : Int) : ItkInv P (x.tick now) := ⟨h.taken, h.late, h.gone, h.stay, h.forg⟩
theorem ItkInv.hear {P : Ev → Prop} {x : Itk} (h : ItkInv P x) (e : Ev) (now : Int) : ItkInv P (x.hear e now) := ⟨h.taken, h.late, h.gone, h.stay, h.forg⟩
theorem ItkInv.drop {P : Ev → Prop} {x : Itk} (h : ItkInv P x) (p : Ev → Bool) : ItkInv P (x.drop p) :=
  ⟨fun e he => h.taken e (List.mem_filter.1 he).1, fun e he => h.late e (List.mem_filter.1 he).1, h.gone, fun e he => h.stay e (he.imp (fun h => (List.mem_filter.1 h).1) (fun h => (List.mem_filter.1 h).1)), fun e he => h.forg e (List.mem_filter.1 he).1⟩
theorem ItkInv.took {P : Ev → Prop} {x : Itk} (h : ItkInv P x) {e : Ev} (he : P e) (hw : e.per ∈ x.gone → e.kind = 14) : ItkInv P (x.took e) := by
  unfold Itk.took
  split
  · rename_i hk
    refine ⟨fun a ha => ?_, fun a ha => ?_, fun p hp => ?_, fun a ha hg => ?_, fun a ha _ => ?_⟩
    · rcases insE_mem.1 (List.mem_filter.1 ha).1 with rfl | ha
      · exact he
      · exact h.taken a ha
    · exact h.late a (List.mem_filter.1 ha).1
    · have hp' : p ∈ e.per :: x.gone := hp
      rcases List.mem_cons.1 hp' with rfl | hp'
      · exact ⟨e, he, rfl⟩
      · exact h.gone p hp'
    · have hg' : a.per ∈ e.per :: x.gone := hg
      have hkeep : keepB e.per a = true := by rcases ha with ha | ha <;> exact (List.mem_filter.1 ha).2
      by_cases hp : a.per = e.per
      · unfold keepB at hkeep; simpa [hp] using hkeep
      · have hg2 : a.per ∈ x.gone := by rcases List.mem_cons.1 hg' with h' | h'; exact absurd h' hp; exact h'
        rcases ha with ha | ha
        · rcases insE_mem.1 (List.mem_filter.1 ha).1 with rfl | ha
          · exact hk
          · exact h.stay a (.inl ha) hg2
        · exact h.stay a (.inr (List.mem_filter.1 ha).1) hg2
    · show a.per ∈ e.per :: x.gone
      rcases insE_mem.1 (List.mem_filter.1 ha).1 with rfl | ha'
      · simp
      · exact List.mem_cons_of_mem _ (h.forg a ha' (by assumption))
  · rename_i hk
    refine ⟨fun a ha => ?_, h.late, h.gone, fun a ha hg => ?_, fun a ha hk' => ?_⟩
    · rcases insE_mem.1 ha with rfl | ha
      · exact he
      · exact h.taken a ha
    · rcases ha with ha | ha
      · rcases insE_mem.1 ha with rfl | ha
        · exact hw hg
        · exact h.stay a (.inl ha) hg
      · exact h.stay a (.inr ha) hg
    · rcases insE_mem.1 ha with rfl | ha
      · exact absurd hk' hk
      · exact h.forg a ha hk'
theorem ItkInv.lates {P : Ev → Prop} {x : Itk} (h : ItkInv P x) {e : Ev} (he : P e) (hw : e.per ∈ x.gone → e.kind = 14) : ItkInv P (x.lates e) := by
  unfold Itk.lates
  split
  · exact h
  · refine ⟨h.taken, fun a ha => ?_, h.gone, fun a ha hg => ?_, h.forg⟩
    · rcases List.mem_append.1 ha with ha | ha
      · exact h.late a ha
      · simp at ha; subst ha; exact he
    · rcases ha with ha | ha
      · exact h.stay a (.inl ha) hg
      · rcases List.mem_append.1 ha with ha | ha
        · exact h.stay a (.inr ha) hg
        · simp at ha; subst ha; exact hw hg
theorem ItkInv.offer {P : Ev → Prop} {x : Itk} (h : ItkInv P x) {e : Ev} (he : P e) (now : Int) : ItkInv P (x.offer e now) := by
  unfold Itk.offer
  split
  · exact h.tick now
  · rename_i hr
    have hn := not_refused (by simpa using hr)
    split
    · exact ((h.tick now).hear e now).took he hn.2.1
    · exact ((h.tick now).hear e now).lates he hn.2.1
theorem ItkInv.admits {P : Ev → Prop} {x : Itk} (h : ItkInv P x) {e : Ev} (he : P e) : ItkInv P (x.admits e) := by
  unfold Itk.admits
  split
  · exact h
  · rename_i hr
    have hn := not_refused (by simpa using hr)
    exact (h.hear e _).took he hn.2.1
/-- nothing of the gone is left -/
theorem ItkInv.out {P : Ev → Prop} {x : Itk} (h : ItkInv P x) {e : Ev} (he : e ∈ x.taken ∨ e ∈ x.late) : outB x.gone e = true := by
  unfold outB ownB
  by_cases hg : e.per ∈ x.gone
  · have := h.stay e he hg
    simp [this]
  · simp [hg]
theorem ItkInv.none {P : Ev → Prop} {x : Itk} (h : ItkInv P x) {p : List UInt8} (hp : p ∈ x.gone) {e : Ev} (he : e ∈ x.taken ∨ e ∈ x.late) : ownB p e = false := by
  unfold ownB
  by_cases hg : e.per = p
  · have := h.stay e he (hg ▸ hp)
    simp [this]
  · simp [hg]
theorem ItkInv.clean {P : Ev → Prop} {x : Itk} (h : ItkInv P x) : x.taken.filter (outB (goneL x.taken)) = x.taken := by
  rw [List.filter_eq_self]
  intro e he
  unfold outB
  by_cases hg : e.per ∈ goneL x.taken
  · have hg' : e.per ∈ x.gone := by
      unfold goneL at hg
      obtain ⟨f, hf, hfp⟩ := List.mem_map.1 hg
      obtain ⟨hf1, hf2⟩ := List.mem_filter.1 hf
      unfold forgetB at hf2
      simp only [Bool.and_eq_true, beq_iff_eq] at hf2
      rw [← hfp]; exact h.forg f hf1 hf2.1.1.1.1.1
    have := h.stay e (.inl he) hg'
    unfold ownB; simp [this]
  · simp [hg]
theorem ItkInv.drops {P : Ev → Prop} {x : Itk} (h : ItkInv P x) : x.drop (outB x.gone) = x := by
  unfold Itk.drop
  rw [List.filter_eq_self.2 (fun e he => h.out (.inl he)), List.filter_eq_self.2 (fun e he => h.out (.inr he))]
end Go.Proofs.YtoljbbmjbgepiaaGreatDoor
namespace Go.Proofs.YtoljbbmjbgepiaaGreatDoor
open Go.RowKit Go.Maps Go.Sort

def Itk.deed (x : Itk) (d : Dd) : Itk :=
  if d.kind < 4 then x.offer d.e d.now else if d.kind = 4 then x.admits d.e else if d.kind = 5 then x.tick d.now else if d.kind = 6 then x.drop (fun e => e.per != d.per) else x
def Itk.grown (slack idle : Int) (ds : List Dd) : Itk := ds.foldl Itk.deed (Itk.new slack idle)
theorem grown_snoc (slack idle : Int) (ds : List Dd) (d : Dd) : Itk.grown slack idle (ds ++ [d]) = (Itk.grown slack idle ds).deed d := by unfold Itk.grown; rw [List.foldl_append]; rfl
theorem grown_take (slack idle : Int) (ds : List Dd) (k : Nat) (hk : k < ds.length) : Itk.grown slack idle (ds.take (k + 1)) = (Itk.grown slack idle (ds.take k)).deed ds[k] := by
  rw [List.take_add_one, List.getElem?_eq_getElem hk, Option.toList_some, grown_snoc]

theorem tick_now (c : Clk) (now : Int) : (c.tick now).now = max c.now (boundI now) := by unfold Clk.tick; rw [rise_now]
theorem tick_risen (c : Clk) (now : Int) : (c.tick now).rise = c.tick now := rise_rise _
theorem hear_risen (c : Clk) (s : List UInt8) (at_ now : Int) : (c.hear s at_ now).rise = c.hear s at_ now := by
  unfold Clk.hear
  split
  · exact rise_rise _
  · exact tick_risen c now
theorem hear_now (c : Clk) (s : List UInt8) (at_ now : Int) : (c.hear s at_ now).now = max c.now (boundI now) := by
  unfold Clk.hear
  split
  · unfold Clk.heard; rw [rise_now]; exact tick_now c now
  · exact tick_now c now
theorem tick_same {c : Clk} (h : c.rise = c) {now : Int} (hn : boundI now ≤ c.now) : c.tick now = c := by
  unfold Clk.tick
  have : max c.now (boundI now) = c.now := by omega
  rw [this]
  exact h
/-- what holds behind whatever deeds -/
structure PlayInv (x : Itk) : Prop where
  inv : ItkInv (fun _ => True) x
  ok : HadOk x.had
  sorted : SortedE x.taken
  ids : (x.taken.map idOf).Nodup
  kept : ∀ e ∈ x.taken, hadB x.had e.src e.num = true
  may : ∀ e, e ∈ x.taken ∨ e ∈ x.late → mayB e = true
  risen : x.clk.rise = x.clk
  now : 0 ≤ x.clk.now
theorem PlayInv.new (slack idle : Int) : PlayInv (Itk.new slack idle) :=
  ⟨ItkInv.new _ _ _, HadOk.nil, List.Pairwise.nil, by simp [Itk.new], fun e he => by simp [Itk.new] at he, fun e he => by simp [Itk.new] at he, by rfl, by simp [Itk.new, Clk.new]⟩
theorem PlayInv.clk {x : Itk} (h : PlayInv x) {c : Clk} (h1 : c.rise = c) (h2 : 0 ≤ c.now) : PlayInv { x with clk := c } := ⟨⟨h.inv.taken, h.inv.late, h.inv.gone, h.inv.stay, h.inv.forg⟩, h.ok, h.sorted, h.ids, h.kept, h.may, h1, h2⟩
theorem PlayInv.tick {x : Itk} (h : PlayInv x) (now : Int) : PlayInv (x.tick now) := h.clk (tick_risen _ _) (by rw [tick_now]; have := h.now; omega)
theorem PlayInv.hear {x : Itk} (h : PlayInv x) (e : Ev) (now : Int) : PlayInv (x.hear e now) := h.clk (hear_risen _ _ _ _) (by rw [hear_now]; have := h.now; omega)
theorem PlayInv.drop {x : Itk} (h : PlayInv x) (p : Ev → Bool) : PlayInv (x.drop p) :=
  ⟨h.inv.drop p, h.ok, h.sorted.filter p, (List.filter_sublist.map idOf).nodup h.ids, fun e he => h.kept e (List.mem_filter.1 he).1, fun e he => h.may e (he.imp (fun h => (List.mem_filter.1 h).1) (fun h => (List.mem_filter.1 h).1)), h.risen, h.now⟩
theorem PlayInv.took {x : Itk} {e : Ev} (h : PlayInv x) (hr : x.refuses e = false) : PlayInv (x.took e) := by
  obtain ⟨hm, hg, hh⟩ := not_refused hr
  have hput := may_put hm hh
  have hids : ((insE e x.taken).map idOf).Nodup := by
    rw [((insE_perm e x.taken).map idOf).nodup_iff, List.map_cons, List.nodup_cons]
    refine ⟨fun hc => ?_, h.ids⟩
    obtain ⟨a, ha, hai⟩ := List.mem_map.1 hc
    have := h.kept a ha
    unfold idOf at hai
    injection hai with h1 h2
    rw [h1, h2, hh] at this
    cases this
  have hkept : ∀ a ∈ insE e x.taken, hadB (putH x.had e.src e.num) a.src a.num = true := fun a ha => by
    rw [putH_had h.ok hput]
    rcases insE_mem.1 ha with rfl | ha
    · simp
    · simp [h.kept a ha]
  have hmay : ∀ a ∈ insE e x.taken, mayB a = true := fun a ha => by
    rcases insE_mem.1 ha with rfl | ha
    · exact hm
    · exact h.may a (.inl ha)
  have hinv := h.inv.took (e := e) trivial hg
  unfold Itk.took at hinv ⊢
  split
  · rename_i hk
    rw [if_pos hk] at hinv
    exact ⟨hinv, h.ok.put hput, (insE_sorted h.sorted).filter _, (List.filter_sublist.map idOf).nodup hids, fun a ha => hkept a (List.mem_filter.1 ha).1, fun a ha => by
      rcases ha with ha | ha
      · exact hmay a (List.mem_filter.1 ha).1
      · exact h.may a (.inr (List.mem_filter.1 ha).1), h.risen, h.now⟩
  · rename_i hk
    rw [if_neg hk] at hinv
    exact ⟨hinv, h.ok.put hput, insE_sorted h.sorted, hids, hkept, fun a ha => ha.elim (hmay a) (fun h' => h.may a (.inr h')), h.risen, h.now⟩
theorem PlayInv.lates {x : Itk} {e : Ev} (h : PlayInv x) (hr : x.refuses e = false) : PlayInv (x.lates e) := by
  obtain ⟨hm, hg, hh⟩ := not_refused hr
  have hinv := h.inv.lates (e := e) trivial hg
  unfold Itk.lates at hinv ⊢
  split
  · exact h
  · rename_i hk
    rw [if_neg hk] at hinv
    exact ⟨hinv, h.ok, h.sorted, h.ids, h.kept, fun a ha => by
      rcases ha with ha | ha
      · exact h.may a (.inl ha)
      · rcases List.mem_append.1 ha with ha | ha
        · exact h.may a (.inr ha)
        · rw [List.mem_singleton] at ha; rw [ha]; exact hm, h.risen, h.now⟩
theorem PlayInv.offer {x : Itk} (h : PlayInv x) (e : Ev) (now : Int) : PlayInv (x.offer e now) := by
  unfold Itk.offer
  split
  · exact h.tick now
  · rename_i hr
    split
    · exact ((h.tick now).hear e now).took (show (x.tick now).refuses e = false by simpa using hr)
    · exact ((h.tick now).hear e now).lates (show (x.tick now).refuses e = false by simpa using hr)
theorem PlayInv.admits {x : Itk} (h : PlayInv x) (e : Ev) : PlayInv (x.admits e) := by
  unfold Itk.admits
  split
  · exact h
  · rename_i hr
    exact (h.hear e _).took (show x.refuses e = false by simpa using hr)
theorem PlayInv.deed {x : Itk} (h : PlayInv x) (d : Dd) : PlayInv (x.deed d) := by
  unfold Itk.deed
  split
  · exact h.offer _ _
  split
  · exact h.admits _
  split
  · exact h.tick _
  split
  · exact h.drop _
  · exact h
theorem PlayInv.grown (slack idle : Int) (ds : List Dd) : PlayInv (Itk.grown slack idle ds) := by
  unfold Itk.grown
  have key : ∀ (ds : List Dd) (x : Itk), PlayInv x → PlayInv (ds.foldl Itk.deed x) := fun ds => by
    induction ds with
    | nil => exact fun x h => h
    | cons d ds ih => exact fun x h => ih _ (h.deed d)
  exact key ds _ (PlayInv.new slack idle)
/-- the clock behind an offer at a now stands there -/
theorem offer_now (x : Itk) (e : Ev) (now : Int) : (x.offer e now).clk.now = max x.clk.now (boundI now) := by
  unfold Itk.offer
  split
  · exact tick_now _ _
  · split
    · have : ∀ z : Itk, (z.took e).clk = z.clk := fun z => by unfold Itk.took; split <;> rfl
      rw [this]
      show ((x.clk.tick now).hear e.src e.at_ now).now = _
      rw [hear_now, tick_now]; omega
    · have : ∀ z : Itk, (z.lates e).clk = z.clk := fun z => by unfold Itk.lates; split <;> rfl
      rw [this]
      show ((x.clk.tick now).hear e.src e.at_ now).now = _
      rw [hear_now, tick_now]; omega
theorem PlayInv.tick_same {x : Itk} (h : PlayInv x) {now : Int} (hn : boundI now ≤ x.clk.now) : x.tick now = x := by
  unfold Itk.tick
  rw [Go.Proofs.YtoljbbmjbgepiaaGreatDoor.tick_same h.risen hn]
theorem bound0 : boundI 0 = 0 := by unfold boundI; omega
/-- what an intake has taken is a double -/
theorem PlayInv.double {x : Itk} (h : PlayInv x) (hl : x.taken.length < 1048576) {e e' : Ev} (he : e ∈ x.taken) (hm : mayB e' = true) (h1 : e'.src = e.src) (h2 : e'.num = e.num) (h3 : e'.per = e.per) (h4 : e'.kind = e.kind) : x.verdict e' = 1 ∧ x.refuses e' = true := by
  have hw : x.wrong e' = false := by
    unfold Itk.wrong
    rw [hm, h3, h4]
    have : (decide (e.per ∈ x.gone) && (e.kind != 14)) = false := by
      by_cases hg : e.per ∈ x.gone
      · have := h.inv.stay e (.inl he) hg; simp [this]
      · simp [hg]
    rw [this, decide_eq_false (show ¬ 1048576 ≤ x.taken.length by omega)]; rfl
  have hh : hadB x.had e'.src e'.num = true := by rw [h1, h2]; exact h.kept e he
  unfold Itk.verdict Itk.refuses
  rw [hw, hh]
  exact ⟨rfl, rfl⟩
end Go.Proofs.YtoljbbmjbgepiaaGreatDoor
namespace Go.Proofs.YtoljbbmjbgepiaaGreatDoor
open Go.RowKit Go.Maps Go.Sort

theorem offer_same {x : Itk} {e : Ev} {now : Int} (ht : x.tick now = x) (hr : x.refuses e = true) : x.offer e now = x ∧ x.offered e now = x.verdict e := by
  unfold Itk.offer Itk.offered
  rw [ht, if_pos hr, if_pos hr]
  exact ⟨rfl, rfl⟩
theorem admit_same {x : Itk} {e : Ev} (hr : x.refuses e = true) : x.admits e = x ∧ x.admitted e = x.verdict e := by
  unfold Itk.admits Itk.admitted
  rw [if_pos hr, if_pos hr]
  exact ⟨rfl, rfl⟩
theorem PlayInv.tick0 {x : Itk} (h : PlayInv x) : x.tick 0 = x := h.tick_same (by rw [bound0]; exact h.now)
theorem may_at {e : Ev} {o : Int} (h : mayB e = true) (h0 : 0 ≤ o) (h1 : o ≤ 1099511627776) : mayB { e with at_ := o } = true := by
  unfold mayB headB at h ⊢
  simp only [Bool.and_eq_true, decide_eq_true_eq] at h ⊢
  exact ⟨⟨⟨h.1.1.1, h0⟩, h1⟩, h.2⟩
theorem PlayInv.twice {x : Itk} (h : PlayInv x) (hl : x.taken.length < 1048576) {e : Ev} (he : e ∈ x.taken) : (x.offer e 0 = x ∧ x.offered e 0 = 1) ∧ (x.admits e = x ∧ x.admitted e = 1) := by
  obtain ⟨v1, r1⟩ := h.double hl he (h.may e (.inl he)) rfl rfl rfl rfl
  have a := offer_same h.tick0 r1
  have b := admit_same r1
  rw [v1] at a b
  exact ⟨a, b⟩
theorem PlayInv.twice_at {x : Itk} (h : PlayInv x) (hl : x.taken.length < 1048576) {e : Ev} (he : e ∈ x.taken) {o : Int} (h0 : 0 ≤ o) (h1 : o ≤ 1099511627776) : x.offer { e with at_ := o } 0 = x ∧ x.offered { e with at_ := o } 0 = 1 := by
  obtain ⟨v1, r1⟩ := h.double (e' := { e with at_ := o }) hl he (may_at (h.may e (.inl he)) h0 h1) rfl rfl rfl rfl
  have a := offer_same h.tick0 r1
  rw [v1] at a
  exact a
theorem small_deed {x : Itk} (h : ItkInv Ev.small x) {d : Dd} (hd : d.e.small) : ItkInv Ev.small (x.deed d) := by
  unfold Itk.deed
  split
  · exact h.offer hd _
  split
  · exact h.admits hd
  split
  · exact h.tick _
  split
  · exact h.drop _
  · exact h
theorem small_grown (slack idle : Int) (ds : List Dd) (h : ∀ d ∈ ds, d.e.small) : ItkInv Ev.small (Itk.grown slack idle ds) := by
  unfold Itk.grown
  have key : ∀ (ds : List Dd) (x : Itk), (∀ d ∈ ds, d.e.small) → ItkInv Ev.small x → ItkInv Ev.small (ds.foldl Itk.deed x) := fun ds => by
    induction ds with
    | nil => exact fun x _ h => h
    | cons d ds ih => exact fun x hs h => ih _ (fun a ha => hs a (by simp [ha])) (small_deed h (hs d (by simp)))
  exact key ds _ h (ItkInv.new _ slack idle)
theorem offered_zero {x : Itk} {f : Ev} {now : Int} (h : x.offered f now = 0) : x.offer f now = ((x.tick now).hear f now).took f := by
  unfold Itk.offered at h
  unfold Itk.offer
  by_cases hr : (x.tick now).refuses f = true
  · rw [if_pos hr] at h
    exfalso
    unfold Itk.verdict at h
    unfold Itk.refuses at hr
    cases hw : (x.tick now).wrong f
    · rw [hw] at hr h
      rw [Bool.false_or] at hr
      rw [hr] at h
      simp at h
    · rw [hw] at h; simp at h
  · rw [if_neg hr] at h ⊢
    by_cases hh : ((x.tick now).clk.tick now).hears f.src f.at_ = true
    · rw [if_pos hh]
    · rw [if_neg hh] at h; simp at h
theorem offered_gone {x : Itk} {f : Ev} {now : Int} (hk : f.kind = 14) (h : x.offered f now = 0) : f.per ∈ (x.offer f now).gone := by
  rw [offered_zero h]
  unfold Itk.took
  rw [if_pos hk]
  show f.per ∈ f.per :: _
  simp
theorem wrong_gone {y : Itk} {e : Ev} (hp : e.per ∈ y.gone) (hk : e.kind ≠ 14) : y.wrong e = true := by
  unfold Itk.wrong
  rw [decide_eq_true hp, bne_iff_ne.2 hk]
  simp
theorem PlayInv.forgot {y : Itk} (h : PlayInv y) {now : Int} (hn : boundI now ≤ y.clk.now) {e : Ev} (hp : e.per ∈ y.gone) (hk : e.kind ≠ 14) : (y.offer e now = y ∧ y.offered e now = 3) ∧ (y.admits e = y ∧ y.admitted e = 3) := by
  have hw := wrong_gone hp hk
  have r1 : y.refuses e = true := by unfold Itk.refuses; rw [hw]; rfl
  have v1 : y.verdict e = 3 := by unfold Itk.verdict; rw [hw]; rfl
  have a := offer_same (h.tick_same hn) r1
  have b := admit_same r1
  rw [v1] at a b
  exact ⟨a, b⟩
theorem PlayInv.keptAll {y : Itk} (h : PlayInv y) {p : List UInt8} (hp : p ∈ y.gone) : (y.taken ++ y.late).filter (keepB p) = y.taken ++ y.late := by
  rw [List.filter_eq_self]
  intro e he
  unfold keepB
  by_cases hg : e.per = p
  · have := h.inv.stay e (List.mem_append.1 he) (hg ▸ hp)
    simp [this]
  · simp [hg]
theorem PlayInv.dropped {x : Itk} (h : PlayInv x) (hl : x.taken.length < 1048576) (p : Ev → Bool) {e : Ev} (he : e ∈ x.taken) : (x.drop p).offer e 0 = x.drop p ∧ (x.drop p).offered e 0 = 1 := by
  have hw : (x.drop p).wrong e = false := by
    unfold Itk.wrong
    rw [h.may e (.inl he)]
    have : (decide (e.per ∈ (x.drop p).gone) && (e.kind != 14)) = false := by
      by_cases hg : e.per ∈ x.gone
      · have := h.inv.stay e (.inl he) hg; simp [this]
      · have : e.per ∉ (x.drop p).gone := hg
        simp [this]
    have hlt : ¬ 1048576 ≤ (x.drop p).taken.length := by
      have : (x.drop p).taken.length ≤ x.taken.length := List.length_filter_le _ _
      omega
    rw [this, decide_eq_false hlt]; rfl
  have hh : hadB (x.drop p).had e.src e.num = true := h.kept e he
  have r1 : (x.drop p).refuses e = true := by unfold Itk.refuses; rw [hw, hh]; rfl
  have v1 : (x.drop p).verdict e = 1 := by unfold Itk.verdict; rw [hw, hh]; rfl
  have a := offer_same (h.drop p).tick0 r1
  rw [v1] at a
  exact a
/-- how many events are somebody's -/
def cntP (p : List UInt8) (l : List Ev) : Nat := (l.filter fun e => e.per == p).length
theorem cnt_off (p : List UInt8) (l : List Ev) : (cntP p l : Int) = l.length - (l.filter (fun e => e.per != p)).length := by
  unfold cntP
  induction l with
  | nil => rfl
  | cons e l ih =>
    cases hp : e.per == p
    · rw [List.filter_cons_of_neg (by simp [hp]), List.filter_cons_of_pos (by simp [bne, hp])]
      simp only [List.length_cons]; omega
    · rw [List.filter_cons_of_pos (by simp [hp]), List.filter_cons_of_neg (by simp [bne, hp])]
      simp only [List.length_cons]; omega
theorem cntP_take (p : List UInt8) (l : List Ev) (k : Nat) (hk : k < l.length) : cntP p (l.take (k + 1)) = cntP p (l.take k) + (if l[k].per == p then 1 else 0) := by
  unfold cntP
  rw [List.take_add_one, List.getElem?_eq_getElem hk, Option.toList_some, List.filter_append, List.length_append]
  cases hp : l[k].per == p <;> simp [hp]
theorem cntP_le (p : List UInt8) (l : List Ev) : cntP p l ≤ l.length := List.length_filter_le _ _

/-- events admitted, in order -/
def admAll (y : Itk) (l : List Ev) : Itk := l.foldl Itk.admits y
theorem admAll_take (y : Itk) (l : List Ev) (k : Nat) (hk : k < l.length) : admAll y (l.take (k + 1)) = (admAll y (l.take k)).admits l[k] := by
  unfold admAll
  rw [List.take_add_one, List.getElem?_eq_getElem hk, Option.toList_some, List.foldl_append]; rfl
/-- events of an intake, in another order -/
structure AdmOk (x : Itk) (o : List Ev) : Prop where
  play : PlayInv x
  mem : ∀ e, e ∈ o ↔ e ∈ x.taken
  ids : (o.map idOf).Nodup
  len : o.length ≤ 1000
theorem AdmOk.alike {x : Itk} {o : List Ev} (h : AdmOk x o) : AlikeP o := fun a ha b hb h1 h2 => ids_inj h.ids ha hb (by unfold idOf; rw [h1, h2])
theorem AdmOk.inv {x : Itk} {o : List Ev} (h : AdmOk x o) (slack idle : Int) : ∀ k, k ≤ o.length → OrdInv (o.take k) (admAll (Itk.new slack idle) (o.take k)) := by
  intro k
  induction k with
  | zero => intro _; exact OrdInv.new _ _
  | succ k ih =>
    intro hk
    rw [admAll_take _ _ _ (by omega)]
    have e1 : o.take (k + 1) = o.take k ++ [o[k]] := by rw [List.take_add_one, List.getElem?_eq_getElem (by omega), Option.toList_some]
    rw [e1]
    refine (ih (by omega)).admits (by rw [List.length_take]; have := h.len; omega) ?_
    rw [← e1]
    intro a ha b hb
    exact h.alike a (List.mem_of_mem_take ha) b (List.mem_of_mem_take hb)
theorem AdmOk.fine {x : Itk} {o : List Ev} (h : AdmOk x o) (slack idle : Int) (k : Nat) (hk : k < o.length) : (admAll (Itk.new slack idle) (o.take k)).refuses o[k] = false := by
  have hi := h.inv slack idle k (by omega)
  have hx : o[k] ∈ x.taken := (h.mem _).1 (List.getElem_mem hk)
  have hw : (admAll (Itk.new slack idle) (o.take k)).wrong o[k] = false := by
    unfold Itk.wrong
    rw [h.play.may _ (.inl hx)]
    have h2 : (decide (o[k].per ∈ (admAll (Itk.new slack idle) (o.take k)).gone) && (o[k].kind != 14)) = false := by
      by_cases hg : o[k].per ∈ (admAll (Itk.new slack idle) (o.take k)).gone
      · obtain ⟨f, hf, _, hf2, hf3⟩ := (hi.gone _).1 hg
        have := h.play.inv.forg f ((h.mem _).1 (List.mem_of_mem_take hf)) hf2
        have := h.play.inv.stay _ (.inl hx) (hf3 ▸ this)
        simp [this]
      · simp [hg]
    have h3 : ¬ 1048576 ≤ (admAll (Itk.new slack idle) (o.take k)).taken.length := by
      have := hi.len; rw [List.length_take] at this; have := h.len; omega
    rw [h2, decide_eq_false h3]; rfl
  have hh : hadB (admAll (Itk.new slack idle) (o.take k)).had o[k].src o[k].num = false := by
    cases hh : hadB (admAll (Itk.new slack idle) (o.take k)).had o[k].src o[k].num
    · rfl
    · exfalso
      obtain ⟨e', he', _, h1, h2⟩ := hi.had _ _ hh
      have hn := h.ids
      have e0 : o = o.take k ++ o.drop k := (List.take_append_drop k o).symm
      rw [e0, List.map_append, List.nodup_append] at hn
      refine hn.2.2 (idOf e') (List.mem_map.2 ⟨e', he', rfl⟩) (idOf o[k]) (List.mem_map.2 ⟨o[k], ?_, rfl⟩) (by unfold idOf; rw [h1, h2])
      rw [List.mem_iff_getElem]
      exact ⟨0, by rw [List.length_drop]; omega, by simp⟩
  unfold Itk.refuses
  rw [hw, hh]; rfl
theorem admit_took {y : Itk} {e : Ev} (h : y.refuses e = false) : y.admitted e = 0 ∧ y.admits e = (y.hear e y.clk.now).took e := by
  unfold Itk.admitted Itk.admits
  rw [h]; exact ⟨rfl, rfl⟩
theorem took_late0 {y : Itk} {e : Ev} (h : y.late = []) : (y.took e).late = [] := by
  unfold Itk.took
  split
  · show y.late.filter _ = []; rw [h]; rfl
  · exact h
theorem AdmOk.late {x : Itk} {o : List Ev} (h : AdmOk x o) (slack idle : Int) : ∀ k, k ≤ o.length → (admAll (Itk.new slack idle) (o.take k)).late = [] := by
  intro k
  induction k with
  | zero => intro _; rfl
  | succ k ih =>
    intro hk
    rw [admAll_take _ _ _ (by omega), (admit_took (h.fine slack idle k (by omega))).2]
    exact took_late0 (ih (by omega))
theorem AdmOk.gone {x : Itk} {o : List Ev} (h : AdmOk x o) (slack idle : Int) (k : Nat) (hk : k < o.length) : (admAll (Itk.new slack idle) (o.take (k + 1))).gone = if o[k].kind = 14 then o[k].per :: (admAll (Itk.new slack idle) (o.take k)).gone else (admAll (Itk.new slack idle) (o.take k)).gone := by
  rw [admAll_take _ _ _ hk, (admit_took (h.fine slack idle k hk)).2]
  unfold Itk.took
  split <;> rfl
theorem AdmOk.all {x : Itk} {o : List Ev} (h : AdmOk x o) (slack idle : Int) : (admAll (Itk.new slack idle) o).taken = x.taken := by
  have hi := h.inv slack idle o.length (Nat.le_refl _)
  rw [List.take_length] at hi
  refine sorted_unique hi.sorted h.play.sorted hi.ids h.play.ids fun e => ?_
  rw [hi.taken, h.mem]
  constructor
  · exact fun h' => h'.1
  · intro he
    refine ⟨he, h.play.may e (.inl he), ?_⟩
    by_cases hg : e.per ∈ (admAll (Itk.new slack idle) o).gone
    · obtain ⟨f, hf, _, hf2, hf3⟩ := (hi.gone _).1 hg
      exact .inl (h.play.inv.stay e (.inl he) (hf3 ▸ h.play.inv.forg f ((h.mem _).1 hf) hf2))
    · exact .inr hg
theorem AdmOk.turned {x : Itk} (h : PlayInv x) (hl : x.taken.length ≤ 1000) (m : Nat) : AdmOk x (x.taken.drop m ++ x.taken.take m) := by
  have hp : (x.taken.drop m ++ x.taken.take m).Perm x.taken := by
    conv => rhs; rw [← List.take_append_drop m x.taken]
    exact List.perm_append_comm
  exact ⟨h, fun e => hp.mem_iff, (hp.map idOf).nodup_iff.2 h.ids, by rw [hp.length_eq]; exact hl⟩
end Go.Proofs.YtoljbbmjbgepiaaGreatDoor
