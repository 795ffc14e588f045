/-
  Layer 8, plain: parts that may be an intake's.
  Layer 8: the closure of right: whether an event stays.
-/
import Derived.Test.YtdjoaboalknlkaaGreatDoorLPtClk
import Derived.Test.YtdjoaboalknlkaaGreatDoorLPtHad
import Derived.Test.YtdjoaboalknlkaaGreatDoorLItkPlain
import Derived.Test.YtdjoaboalknlkaaGreatDoorLGrPlain
import Derived.Test.YtdjoaboalknlkaaGreatDoorLKeys
import Derived.Test.YtdjoaboalknlkaaGreatDoorLItkDrop
import Derived.Test.YtdjoaboalknlkaaGreatDoorLParts
namespace Go.Proofs.YtdjoaboalknlkaaGreatDoor
open Go.RowKit Go.Maps Go.Sort

/-- people gone, rising, each a name -/
structure GoneOk (l : List (List UInt8)) : Prop where
  name : ∀ j (h : j < l.length), nameB l[j] = true
  up : ∀ j (h : j < l.length), 0 < j → bytesBefore (l[j - 1]'(by omega)) l[j] = true
def staysB (gone : List (List UInt8)) (e : Ev) : Bool := !decide (e.per ∈ gone) || (e.kind == 14)
/-- a taken event that may stand at its place -/
def tkB (gone : List (List UInt8)) (had : Had) (l : List Ev) (k : Nat) (e : Ev) : Bool :=
  mayB e && !decide (idOf e ∈ (l.take k).map idOf) && staysB gone e && hadB had e.src e.num && (decide (k = 0) || (cmpE e (l.getD (k - 1) e) == 1)) && (!(e.kind == 14) || decide (e.per ∈ gone))
def ltB (gone : List (List UInt8)) (l : List Ev) (k : Nat) (e : Ev) : Bool :=
  mayB e && !decide (idOf e ∈ (l.take k).map idOf) && staysB gone e
structure RightOk (gone : List (List UInt8)) (had : Had) (taken late : List Ev) : Prop where
  len : taken.length ≤ 1048576
  taken : ∀ k (h : k < taken.length), tkB gone had taken k taken[k] = true
  late : ∀ k (h : k < late.length), ltB gone late k late[k] = true
theorem cI_one {x y : Int} : 0 < Lib.compareInt x y ↔ Lib.compareInt x y = 1 := by unfold Lib.compareInt; split <;> (try split) <;> omega
theorem cB_one : ∀ (a b : List UInt8), 0 < Lib.compareBytes a b ↔ Lib.compareBytes a b = 1
  | [], [] => by simp [Lib.compareBytes]
  | [], _ :: _ => by simp [Lib.compareBytes]
  | _ :: _, [] => by simp [Lib.compareBytes]
  | x :: a, y :: b => by
    have ih := cB_one a b
    unfold Lib.compareBytes
    split
    · omega
    · split
      · omega
      · exact ih
theorem cmpE_one {a b : Ev} : 0 < cmpE a b ↔ cmpE a b = 1 := by
  unfold cmpE orI
  split
  · exact cI_one
  · split
    · exact cB_one _ _
    · exact cI_one
theorem may_forgetP {e : Ev} (h : mayB e = true) (hk : e.kind = 14) : forgetB e = true := by
  unfold mayB tailB at h
  unfold forgetB
  rw [hk] at h
  simp only [Bool.and_eq_true] at h ⊢
  have h2 := h.2
  simp at h2
  simp [hk, h.1, h2]
theorem forget_kindP {e : Ev} (h : forgetB e = true) : e.kind = 14 ∧ nameB e.per = true := by
  unfold forgetB at h
  simp only [Bool.and_eq_true, beq_iff_eq] at h
  exact ⟨h.1.1.1.1.1, h.1.1.1.2⟩
/-- what stands besides behind any deeds -/
structure PtInv (x : Itk) : Prop where
  lids : (x.late.map idOf).Nodup
  name : ∀ p ∈ x.gone, nameB p = true
theorem PtInv.new (slack idle : Int) : PtInv (Itk.new slack idle) := ⟨by simp [Itk.new], fun p hp => by simp [Itk.new] at hp⟩
theorem PtInv.tick {x : Itk} (h : PtInv x) (now : Int) : PtInv (x.tick now) := ⟨h.lids, h.name⟩
theorem PtInv.hear {x : Itk} (h : PtInv x) (e : Ev) (now : Int) : PtInv (x.hear e now) := ⟨h.lids, h.name⟩
theorem PtInv.drop {x : Itk} (h : PtInv x) (p : Ev → Bool) : PtInv (x.drop p) := ⟨(List.filter_sublist.map idOf).nodup h.lids, h.name⟩
theorem PtInv.took {x : Itk} {e : Ev} (h : PtInv x) (hm : mayB e = true) : PtInv (x.took e) := by
  unfold Itk.took
  split
  · rename_i hk
    refine PtInv.drop (x := { x.put e with gone := e.per :: x.gone }) ⟨h.lids, fun p hp => ?_⟩ _
    rcases List.mem_cons.1 hp with rfl | hp
    · exact (forget_kindP (may_forgetP hm hk)).2
    · exact h.name p hp
  · exact ⟨h.lids, h.name⟩
theorem PtInv.lates {x : Itk} (h : PtInv x) (e : Ev) : PtInv (x.lates e) := by
  unfold Itk.lates
  split
  · exact h
  · rename_i hn
    refine ⟨?_, h.name⟩
    show ((x.late ++ [e]).map idOf).Nodup
    rw [List.map_append, List.nodup_append]
    refine ⟨h.lids, by simp, fun a ha b hb hab => ?_⟩
    simp at hb; subst hb; subst hab; exact hn ha
theorem PtInv.offer {x : Itk} (h : PtInv x) (e : Ev) (now : Int) : PtInv (x.offer e now) := by
  unfold Itk.offer
  split
  · exact h.tick now
  · rename_i hr
    have hm := (not_refused (show (x.tick now).refuses e = false by simpa using hr)).1
    split
    · exact ((h.tick now).hear e now).took hm
    · exact ((h.tick now).hear e now).lates e
theorem PtInv.admits {x : Itk} (h : PtInv x) (e : Ev) : PtInv (x.admits e) := by
  unfold Itk.admits
  split
  · exact h
  · rename_i hr
    exact (h.hear e _).took (not_refused (show x.refuses e = false by simpa using hr)).1
theorem PtInv.deed {x : Itk} (h : PtInv x) (d : Dd) : PtInv (x.deed d) := by
  unfold Itk.deed
  split
  · exact h.offer _ _
  split
  · exact h.admits _
  split
  · exact h.tick _
  split
  · exact h.drop _
  · exact h
theorem PtInv.grown (slack idle : Int) (ds : List Dd) : PtInv (Itk.grown slack idle ds) := by
  unfold Itk.grown
  have key : ∀ (ds : List Dd) (x : Itk), PtInv x → PtInv (ds.foldl Itk.deed x) := fun ds => by
    induction ds with
    | nil => exact fun x h => h
    | cons d ds ih => exact fun x h => ih _ (h.deed d)
  exact key ds _ (PtInv.new slack idle)
/-- what any deeds leave may be taken apart and put together -/
theorem PlayInv.right {x : Itk} (h : PlayInv x) (h2 : PtInv x) (hl : x.taken.length ≤ 1048576) : RightOk x.gone x.had x.taken x.late := by
  refine ⟨hl, fun k hk => ?_, fun k hk => ?_⟩
  · have hm : x.taken[k] ∈ x.taken := List.getElem_mem hk
    unfold tkB
    rw [h.may _ (.inl hm), h.kept _ hm]
    have h1 : idOf x.taken[k] ∉ (x.taken.take k).map idOf := fun hc => by
      obtain ⟨a, ha, he⟩ := List.mem_map.1 hc
      obtain ⟨i, hi, rfl⟩ := List.getElem_of_mem ha
      rw [List.length_take] at hi
      rw [List.getElem_take] at he
      have := (List.pairwise_iff_getElem.1 h.ids) i k (by simp; omega) (by simp; omega) (by omega)
      rw [List.getElem_map, List.getElem_map] at this
      exact this he
    have h2 : staysB x.gone x.taken[k] = true := by
      unfold staysB
      by_cases hg : x.taken[k].per ∈ x.gone
      · have := h.inv.stay _ (.inl hm) hg; simp [this]
      · simp [hg]
    have h3 : (decide (k = 0) || (cmpE x.taken[k] (x.taken.getD (k - 1) x.taken[k]) == 1)) = true := by
      by_cases h0 : k = 0
      · simp [h0]
      · have hk1 : k - 1 < x.taken.length := by omega
        have e1 : x.taken.getD (k - 1) x.taken[k] = x.taken[k - 1] := by rw [List.getD_eq_getElem?_getD, List.getElem?_eq_getElem hk1]; rfl
        rw [e1]
        have hle := (List.pairwise_iff_getElem.1 h.sorted) (k - 1) k hk1 hk (by omega)
        have hne := (List.pairwise_iff_getElem.1 h.ids) (k - 1) k (by simp; omega) (by simp; omega) (by omega)
        rw [List.getElem_map, List.getElem_map] at hne
        have : LtE x.taken[k - 1] x.taken[k] := by
          by_cases hlt : LtE x.taken[k - 1] x.taken[k]
          · exact hlt
          · rcases LtE.total hlt with h' | ⟨_, e2, e3⟩
            · exact absurd h' hle
            · exact absurd (by unfold idOf; rw [e2, e3]) hne
        have := cmpE_one.1 (cmpE_pos.2 this)
        simp [this]
    have h4 : (!(x.taken[k].kind == 14) || decide (x.taken[k].per ∈ x.gone)) = true := by
      by_cases h14 : x.taken[k].kind = 14
      · have := h.inv.forg _ hm h14; simp [this]
      · simp [h14]
    rw [h2, h3, h4]
    simpa using h1
  · have hm : x.late[k] ∈ x.late := List.getElem_mem hk
    unfold ltB
    rw [h.may _ (.inr hm)]
    have h1 : idOf x.late[k] ∉ (x.late.take k).map idOf := fun hc => by
      obtain ⟨a, ha, he⟩ := List.mem_map.1 hc
      obtain ⟨i, hi, rfl⟩ := List.getElem_of_mem ha
      rw [List.length_take] at hi
      rw [List.getElem_take] at he
      have := (List.pairwise_iff_getElem.1 h2.lids) i k (by simp; omega) (by simp; omega) (by omega)
      rw [List.getElem_map, List.getElem_map] at this
      exact this he
    have h3 : staysB x.gone x.late[k] = true := by
      unfold staysB
      by_cases hg : x.late[k].per ∈ x.gone
      · have := h.inv.stay _ (.inr hm) hg; simp [this]
      · simp [hg]
    rw [h3]
    simpa using h1
/-- people gone, told rising, may be told again -/
theorem gone_ok {x : Itk} (h : PtInv x) {r : List (List UInt8)} (hr : Rising r x.gone) : GoneOk r :=
  ⟨fun j hj => h.name _ ((hr.2 _).1 (List.getElem_mem hj)), fun j hj h0 => by
    have := (List.pairwise_iff_getElem.1 hr.1) (j - 1) j (by omega) hj (by omega)
    rcases bb_total (fun e => lt_irr _ (e ▸ this) : r[j - 1]'(by omega) ≠ r[j]) with h' | h'
    · exact h'
    · exact absurd (bb_lt h') (fun h2 => lt_asy this h2)⟩
end Go.Proofs.YtdjoaboalknlkaaGreatDoor
namespace Go.Proofs.YtdjoaboalknlkaaGreatDoor
open Go.RowKit Go.Maps Go.Sort

set_option maxRecDepth 100000 in
set_option maxHeartbeats 1000000 in
theorem stays_any (w : World) (g bi bg n : Nat) (gone : List (List UInt8)) (e : Ev) (hs : e.small) (hc : w.cell? ⟨g, 0, none⟩ = some (.pointer (some ⟨bi, 0, none⟩))) (hb5 : w.cell? ⟨bi, 5, none⟩ = some (.map (some bg))) (hset : SetB w bg n gone) :
    Calls Tryz.prog 74 #[e.agg, .pointer (some ⟨g, 0, none⟩)] w (Says (staysB gone e) w) := by
  obtain ⟨s1, s2, s3, s4⟩ := hs
  have hg : g < w.heap.size := World.block_lt_of_cell? w ⟨g, 0, none⟩ hc
  have hbi : bi < w.heap.size := World.block_lt_of_cell? w ⟨bi, 5, none⟩ hb5
  have hc' : (w.alloc (evObj e)).cell? ⟨g, 0, none⟩ = _ := (World.cell?_alloc_lt w (evObj e) _ hg).trans hc
  have hb5' : (w.alloc (evObj e)).cell? ⟨bi, 5, none⟩ = _ := (World.cell?_alloc_lt w (evObj e) _ hbi).trans hb5
  have hl : ∀ k, (Instr.lookup 59 (.map (some bg)) (.string ⟨e.per.toArray⟩) false).run Tryz.prog ((w.alloc (evObj e)).drewN k) = .ok (.bool (decide (e.per ∈ gone))) ((w.alloc (evObj e)).drewN k) := fun k => ((hset.alloc (evObj e)).drewN k).look e.per (by unfold maxLen; omega)
  have hb : Below w.heap.size w (w.alloc (evObj e)) := (Below.refl _ _).alloc (Nat.le_refl _) _
  have HO := Lib.hid (show staysB gone e = (!decide (e.per ∈ gone) || (e.kind == 14)) from rfl)
  obtain ⟨e0, e1, e2, e3, e4, e5, e6, e7⟩ := EvIn.new w e
  clear hset hc hb5
  unfold Ev.agg
  generalize hd : decide (e.per ∈ gone) = d at *
  clear hd
  go_enter Tryz.func74, Tryz.ntmps74
  cases d
  · go_wp2
    go_quiet (fail)
    go_wp2
    go_ret
    exact ⟨by rw [HO.out]; rfl, below_drewN hb _⟩
  · go_wp2
    go_quiet (fail)
    go_wp2
    go_ret
    exact ⟨by rw [HO.out]; rfl, below_drewN hb _⟩
theorem call_stays (args : Array Value) (w : World) : (callFunc 74 args).run Tryz.prog w = .ok (.enter 74 args) w := by kernel_rfl
end Go.Proofs.YtdjoaboalknlkaaGreatDoor
