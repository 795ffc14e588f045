/-
  The document's names (layers 2, 6, 7).
  Layer 2, the document's: place, Maker, Parts, Tags.
  Layer 2, the document's: Parts, Tags, Label.
  Layer 2, the document's: Tags, Label, In.
-/
import Derived.Test.YtgbagjpokpchpaaGreatDoorRHadPlain
import Derived.Test.YtgbagjpokpchpaaGreatDoorREvListing
namespace Go.Proofs.YtgbagjpokpchpaaGreatDoor
open Go.RowKit

set_option maxHeartbeats 1000000 in
theorem rn02 (w : World) (l : List UInt8) (hm : l.length ≤ 1000000000) :
    Calls Tryz.prog 90 #[.string ⟨l.toArray⟩] w fun e w' => e = .returned (.bool (nameB l)) ∧ w = w' := by
  by_cases h0 : l.length < 1
  · go_enter Tryz.func90, Tryz.ntmps90
    go_wp2
    go_ret
    rw [nameB_short (.inl h0)]
    exact ⟨rfl, rfl⟩
  by_cases h24 : 24 < l.length
  · go_enter Tryz.func90, Tryz.ntmps90
    go_wp2
    go_ret
    rw [nameB_short (.inr h24)]
    exact ⟨rfl, rfl⟩
  have d0 : decide ((l.length : Int) < 1) = false := decide_eq_false (by omega)
  have d1 : decide (24 < (l.length : Int)) = false := decide_eq_false (by omega)
  go_enter Tryz.func90, Tryz.ntmps90
  go_wp2
  go_loop [3] (fun i => ∃ k : Nat, i = .int .i64 k ∧ k ≤ l.length ∧ Hid (∀ j (hj : j < l.length), j < k → nameC l[j] = true)) (fun i => l.length - (intOf i).toNat)
  case atStart => exact ⟨0, rfl, Nat.zero_le _, fun j _ h => by omega⟩
  case round =>
    obtain ⟨k, rfl, hk, HK⟩ := hrel
    by_cases hkn : k < l.length
    · have g0 : (⟨l.toArray⟩ : ByteArray)[k]'(by simpa [ByteArray.size] using hkn) = l[k] := rfl
      have HC := Lib.hid (show nameC l[k] = ((decide (97 ≤ l[k].toNat) && decide (l[k].toNat ≤ 122)) || (decide (48 ≤ l[k].toNat) && decide (l[k].toNat ≤ 57)) || decide (l[k].toNat = 45)) from rfl)
      have HB := Lib.hid (fun h => nameB_bad (l := l) k hkn h)
      have HN := Lib.hid (show ∀ h : nameC l[k] = true, ∀ j (hj : j < l.length), j < k + 1 → nameC l[j] = true from fun h j hj hlt => by
        by_cases e : j = k
        · subst e; exact h
        · exact HK.out j hj (by omega))
      have hx := l[k].toNat_lt
      generalize hc : nameC l[k] = cc at *
      clear hc
      generalize hxx : l[k] = x at *
      clear hxx
      have hcc : cc = true ∨ cc = false := by cases cc <;> simp
      rcases hcc with hcc | hcc
      · have HCC : Hid (((97 ≤ x.toNat ∧ x.toNat ≤ 122) ∨ (48 ≤ x.toNat ∧ x.toNat ≤ 57)) ∨ x.toNat = 45) := by
          have := HC.out; rw [hcc] at this; unfold Hid; simpa using this.symm
        have HN' := Lib.hid (HN.out hcc)
        clear hcc HC HB HN
        have e45 : Hid ((x.toNat : Int) = 45 ↔ x.toNat = 45) := by unfold Hid; omega
        rcases HCC.out with (⟨a1, a2⟩ | ⟨a1, a2⟩) | a1
        · have b1 : decide (97 ≤ (x.toNat : Int)) = true := decide_eq_true (by omega)
          have b2 : decide ((x.toNat : Int) ≤ 122) = true := decide_eq_true (by omega)
          go_wp2
          go_round
          case rel => exact ⟨k + 1, by go_num, by omega, HN'.out⟩
          case measure => simp [intOf]; omega
        · have b1 : decide (97 ≤ (x.toNat : Int)) = false := decide_eq_false (by omega)
          have b2 : decide (48 ≤ (x.toNat : Int)) = true := decide_eq_true (by omega)
          have b3 : decide ((x.toNat : Int) ≤ 57) = true := decide_eq_true (by omega)
          go_wp2
          go_round
          case rel => exact ⟨k + 1, by go_num, by omega, HN'.out⟩
          case measure => simp [intOf]; omega
        · have b1 : decide (97 ≤ (x.toNat : Int)) = false := decide_eq_false (by omega)
          have b2 : decide (48 ≤ (x.toNat : Int)) = false := decide_eq_false (by omega)
          have b3 : ((x.toNat : Int) == 45) = true := by simp; omega
          have A1 := Lib.hid a1; clear a1
          go_wp2
          go_round
          case rel => exact ⟨k + 1, by go_num, by omega, HN'.out⟩
          case measure => simp [intOf]; omega
      · have HCC : Hid (¬ (((97 ≤ x.toNat ∧ x.toNat ≤ 122) ∨ (48 ≤ x.toNat ∧ x.toNat ≤ 57)) ∨ x.toNat = 45)) := by
          have := HC.out; rw [hcc] at this; unfold Hid; intro hh
          have h2 : (decide (97 ≤ x.toNat) && decide (x.toNat ≤ 122) || decide (48 ≤ x.toNat) && decide (x.toNat ≤ 57) || decide (x.toNat = 45)) = true := by simpa using hh
          rw [h2] at this; cases this
        have hB := HB.out hcc
        have HB' := Lib.hid hB
        clear hcc HC HN HB hB
        have b5 : ((x.toNat : Int) == 45) = false := by have := HCC.out; simp; omega
        have hcases : (123 ≤ x.toNat) ∨ (97 > x.toNat ∧ 58 ≤ x.toNat) ∨ (x.toNat < 48) := by have := HCC.out; omega
        rcases hcases with a1 | ⟨a1, a2⟩ | a1
        · have b1 : decide (97 ≤ (x.toNat : Int)) = true := decide_eq_true (by omega)
          have b2 : decide ((x.toNat : Int) ≤ 122) = false := decide_eq_false (by omega)
          have b3 : decide (48 ≤ (x.toNat : Int)) = true := decide_eq_true (by omega)
          have b4 : decide ((x.toNat : Int) ≤ 57) = false := decide_eq_false (by omega)
          go_wp2
          go_ret
          rw [HB'.out]
          exact ⟨rfl, rfl⟩
        · have b1 : decide (97 ≤ (x.toNat : Int)) = false := decide_eq_false (by omega)
          have b3 : decide (48 ≤ (x.toNat : Int)) = true := decide_eq_true (by omega)
          have b4 : decide ((x.toNat : Int) ≤ 57) = false := decide_eq_false (by omega)
          go_wp2
          go_ret
          rw [HB'.out]
          exact ⟨rfl, rfl⟩
        · have b1 : decide (97 ≤ (x.toNat : Int)) = false := decide_eq_false (by omega)
          have b3 : decide (48 ≤ (x.toNat : Int)) = false := decide_eq_false (by omega)
          go_wp2
          go_ret
          rw [HB'.out]
          exact ⟨rfl, rfl⟩
    · have hB : nameB l = true := nameB_good (by omega) (by omega) (fun j hj => HK.out j hj (by omega))
      have HB' := Lib.hid hB; clear hB
      go_wp2
      go_ret
      rw [HB'.out]
      exact ⟨rfl, rfl⟩

end Go.Proofs.YtgbagjpokpchpaaGreatDoor
namespace Go.Proofs.YtgbagjpokpchpaaGreatDoor
open Go.RowKit Go.Maps Go.Sort

theorem idx_hit {c : UInt8} : ∀ {s : List UInt8} (k : Nat) (hk : k < s.length), s[k] = c → (∀ j (hj : j < s.length), j < k → s[j] ≠ c) → Lib.index s [c] = k
  | [], k, hk, _, _ => by simp at hk
  | b :: l, 0, _, h, _ => by
    have hb : b = c := h
    subst hb
    rw [Lib.index]; simp [List.isPrefixOf]
  | b :: l, k + 1, hk, h, hn => by
    have hb : b ≠ c := hn 0 (by simp) (by omega)
    have hp : ([c] : List UInt8).isPrefixOf (b :: l) = false := by simp [List.isPrefixOf, Ne.symm hb]
    have ih := idx_hit (s := l) k (by simpa using hk) (by simpa using h) (fun j hj hjk => hn (j + 1) (by simpa using hj) (by omega))
    rw [Lib.index, hp, ih]
    have : ((k : Int) == -1) = false := by rw [beq_eq_false_iff_ne]; omega
    simp [this]
theorem idx_miss {c : UInt8} : ∀ {s : List UInt8}, (∀ j (hj : j < s.length), s[j] ≠ c) → Lib.index s [c] = -1
  | [], _ => by simp [Lib.index]
  | b :: l, hn => by
    have hb : b ≠ c := hn 0 (by simp)
    have hp : ([c] : List UInt8).isPrefixOf (b :: l) = false := by simp [List.isPrefixOf, Ne.symm hb]
    have ih := idx_miss (s := l) (fun j hj => hn (j + 1) (by simpa using hj))
    rw [Lib.index, hp, ih]; rfl
/-- a text, parted at a sign -/
def partsL (c : UInt8) : List UInt8 → List (List UInt8)
  | [] => [[]]
  | x :: r => if x = c then [] :: partsL c r else (x :: (partsL c r).headD []) :: (partsL c r).tail
theorem partsL_miss {c : UInt8} : ∀ {a : List UInt8}, c ∉ a → partsL c a = [a]
  | [], _ => rfl
  | x :: a, h => by
    simp only [List.mem_cons, not_or] at h
    rw [partsL, if_neg (Ne.symm h.1), partsL_miss h.2]; rfl
theorem partsL_hit {c : UInt8} (b : List UInt8) : ∀ {a : List UInt8}, c ∉ a → partsL c (a ++ c :: b) = a :: partsL c b
  | [], _ => by rw [List.nil_append, partsL, if_pos rfl]
  | x :: a, h => by
    simp only [List.mem_cons, not_or] at h
    rw [List.cons_append, partsL, if_neg (Ne.symm h.1), partsL_hit b h.2]; rfl
theorem partsL_split (c : UInt8) : ∀ s : List UInt8, Lib.splitK [c] 0 (Lib.count s [c]) s = partsL c s
  | [] => by rw [Lib.count_miss (by simp [Lib.index])]; rfl
  | b :: l => by
    have ih := partsL_split c l
    by_cases h : b = c
    · subst h
      have hix : Lib.index (b :: l) [b] = 0 := by rw [Lib.index]; simp [List.isPrefixOf]
      rw [Lib.count_cons_eq, Nat.add_comm, Lib.splitK, hix, partsL, if_pos rfl, ← ih]
      rfl
    · have hp : ([c] : List UInt8).isPrefixOf (b :: l) = false := by simp [List.isPrefixOf, Ne.symm h]
      have hix : Lib.index (b :: l) [c] = if Lib.index l [c] == -1 then -1 else Lib.index l [c] + 1 := by rw [Lib.index, hp]; simp
      rw [Lib.count_cons_ne b c l h, partsL, if_neg h, ← ih]
      by_cases hm : Lib.index l [c] = -1
      · rw [Lib.count_miss hm]; rfl
      · have hge := Lib.index_ge l [c]
        obtain ⟨j, hj⟩ : ∃ j : Nat, Lib.index l [c] = j := ⟨(Lib.index l [c]).toNat, by omega⟩
        have hne : (Lib.index l [c] == -1) = false := by rw [beq_eq_false_iff_ne]; exact hm
        have hne2 : (((j : Int) + 1) == -1) = false := by rw [beq_eq_false_iff_ne]; omega
        have hne3 : ((j : Int) == -1) = false := by rw [beq_eq_false_iff_ne]; omega
        rw [Lib.count_hit (by simp) hj, Nat.add_comm, Lib.splitK, Lib.splitK, hix, hne, hj]
        simp only [Bool.false_eq_true, if_false, hne2, List.headD_cons, List.tail_cons, List.length_singleton, Nat.add_zero]
        rw [show ((j : Int) + 1).toNat = j + 1 by omega, show ((j : Int)).toNat = j by omega]
        rfl
theorem tagsL_eq (s : List UInt8) : tagsL s = if (restL s).isEmpty then [] else partsL 44 (restL s) := by
  unfold tagsL
  split
  · rfl
  · rw [Lib.splitB_data, ← partsL_split]; try rfl

set_option maxHeartbeats 1000000 in
theorem rplace_any (w : World) (l : List UInt8) (hm : l.length ≤ 1000000000) :
    Calls Tryz.prog 136 #[.string ⟨l.toArray⟩] w fun e w' => e = .returned (.int .i64 (Lib.index l [59])) ∧ w = w' := by
  go_enter Tryz.func136, Tryz.ntmps136
  go_wp2
  go_loop [3] (fun i => ∃ k : Nat, i = .int .i64 k ∧ k ≤ l.length ∧ Hid (∀ j (hj : j < l.length), j < k → l[j] ≠ 59)) (fun i => l.length - (intOf i).toNat)
  case atStart => exact ⟨0, rfl, Nat.zero_le _, fun j _ h => by omega⟩
  case round =>
    obtain ⟨k, rfl, hk, HK⟩ := hrel
    by_cases hkn : k < l.length
    · have g0 : (⟨l.toArray⟩ : ByteArray)[k]'(by simpa [ByteArray.size] using hkn) = l[k] := rfl
      by_cases h59 : l[k] = 59
      · have HI := Lib.hid (idx_hit k hkn h59 HK.out)
        have b1 : ((l[k].toNat : Int) == 59) = true := by rw [h59]; rfl
        clear h59
        generalize l[k] = x at *
        go_wp2
        go_ret
        exact ⟨ret_int HI.out.symm, rfl⟩
      · have HN := Lib.hid (show ∀ j (hj : j < l.length), j < k + 1 → l[j] ≠ 59 from fun j hj hlt => by
          by_cases e : j = k
          · subst e; exact h59
          · exact HK.out j hj (by omega))
        have b1 : ((l[k].toNat : Int) == 59) = false := by
          rw [beq_eq_false_iff_ne]
          intro e
          exact h59 (UInt8.toNat_inj.1 (by have : l[k].toNat = 59 := by omega
                                           rw [this]; rfl))
        clear h59
        generalize l[k] = x at *
        go_wp2
        go_round
        case rel => exact ⟨k + 1, by go_num, by omega, HN.out⟩
        case measure => simp [intOf]; omega
    · have HI := Lib.hid (idx_miss (c := 59) (s := l) (fun j hj => HK.out j hj (by omega)))
      go_wp2
      go_ret
      exact ⟨ret_int HI.out.symm, rfl⟩

theorem rmaker_any (w : World) (l : List UInt8) (hm : l.length ≤ 1000000000) :
    Calls Tryz.prog 137 #[.string ⟨l.toArray⟩] w fun e w' => e = .returned (.string ⟨(Lib.cut l [59]).1.toArray⟩) ∧ w = w' := by
  have HC := Lib.hid (show Lib.cut l [59] = if 0 ≤ Lib.index l [59] then (l.take (Lib.index l [59]).toNat, l.drop ((Lib.index l [59]).toNat + 1), true) else (l, [], false) from rfl)
  have hroom := Lib.index_room l [59]
  go_enter Tryz.func137, Tryz.ntmps137
  go_wp2_with fail
  refine (rplace_any w l hm).mono ?_
  rintro r w1 ⟨rfl, rfl⟩
  by_cases h0 : 0 ≤ Lib.index l [59]
  · obtain ⟨k, hk⟩ : ∃ k : Nat, Lib.index l [59] = k := ⟨(Lib.index l [59]).toNat, by omega⟩
    have hkl := hroom h0
    have HC' := Lib.hid (show (Lib.cut l [59]).1 = l.take k by rw [HC.out, if_pos h0, hk]; rfl)
    rw [hk] at *
    simp only [List.length_singleton] at hkl
    have hkl' : k < l.length := by omega
    have hsl : ∀ wx, (Instr.slice 9 (.string ⟨l.toArray⟩) none (some (.int .i64 (k : Int))) none).run Tryz.prog wx = .ok (.string ⟨(l.take k).toArray⟩) wx := fun wx => str_to _ Tryz.underlying9 l k k rfl (by omega) wx
    clear hk hroom HC hkl h0
    go_wp2
    go_ret
    rw [HC'.out]
    first | exact ⟨rfl, rfl⟩ | (rw [str_cut]; simp)
  · have HC' := Lib.hid (show (Lib.cut l [59]).1 = l by rw [HC.out, if_neg h0])
    clear hroom HC
    go_wp2
    go_ret
    rw [HC'.out]
    exact ⟨rfl, rfl⟩
end Go.Proofs.YtgbagjpokpchpaaGreatDoor
namespace Go.Proofs.YtgbagjpokpchpaaGreatDoor
open Go.RowKit Go.Maps Go.Sort

theorem mid_not {c : UInt8} {s : List UInt8} {f k : Nat} (hk : k ≤ s.length) (h : ∀ j (hj : j < s.length), f ≤ j → j < k → s[j] ≠ c) : c ∉ (s.drop f).take (k - f) := by
  intro hc
  obtain ⟨i, hi, he⟩ := List.getElem_of_mem hc
  rw [List.length_take, List.length_drop] at hi
  rw [List.getElem_take, List.getElem_drop] at he
  exact h (f + i) (by omega) (by omega) (by omega) he
theorem parts_last {c : UInt8} {s : List UInt8} {f : Nat} (h : ∀ j (hj : j < s.length), f ≤ j → j < s.length → s[j] ≠ c) : partsL c (s.drop f) = [(s.drop f).take (s.length - f)] := by
  have e : (s.drop f).take (s.length - f) = s.drop f := List.take_of_length_le (by simp)
  have := mid_not (Nat.le_refl _) h
  rw [e] at this ⊢
  exact partsL_miss this
theorem parts_next {c : UInt8} {s : List UInt8} {f k : Nat} (hf : f ≤ k) (hk : k < s.length) (hc : s[k] = c) (h : ∀ j (hj : j < s.length), f ≤ j → j < k → s[j] ≠ c) :
    partsL c (s.drop f) = (s.drop f).take (k - f) :: partsL c (s.drop (k + 1)) := by
  have e : s.drop f = (s.drop f).take (k - f) ++ c :: s.drop (k + 1) := by
    have e1 : (s.drop f).drop (k - f) = s[k] :: s.drop (k + 1) := by
      rw [List.drop_drop, show f + (k - f) = k by omega]; exact List.drop_eq_getElem_cons hk
    conv => lhs; rw [← List.take_append_drop (k - f) (s.drop f), e1, hc]
  conv => lhs; rw [e]
  exact partsL_hit _ (mid_not (Nat.le_of_lt hk) h)

/-- how far the parts are told -/
def PtRel (w : World) (s : List UInt8) (c : UInt8) (v f i : Value) (wr : World) : Prop :=
  ∃ (k f' : Nat) (out : List (List UInt8)), i = .int .i64 k ∧ f = .int .i64 f' ∧ wr.ownsRow w.heap.size 9 1 v out.length (out.map encStr) ∧ Below w.heap.size w wr ∧ out.length ≤ k ∧ k ≤ s.length + 1 ∧
    ((k ≤ s.length ∧ f' ≤ k ∧ out ++ partsL c (s.drop f') = partsL c s ∧ ∀ j (hj : j < s.length), f' ≤ j → j < k → s[j] ≠ c) ∨ (k = s.length + 1 ∧ out = partsL c s))
def StrsPost (w : World) (ss : List (List UInt8)) (e : Ending) (w' : World) : Prop := ∃ A c, e = .returned (.slice A ss.length c) ∧ Strs w' w'.heap.size A ss.length c ss ∧ Below w.heap.size w w'

set_option maxRecDepth 100000 in
set_option maxHeartbeats 2000000 in
theorem rparts_any (w : World) (s : List UInt8) (hs : s.length ≤ 1000000000) (c : UInt8) :
    Calls Tryz.prog 178 #[.string ⟨s.toArray⟩, .int .u8 c.toNat] w (StrsPost w (partsL c s)) := by
  obtain ⟨i0, hi, hz0, hz1, hz2⟩ := info_parts str_info
  have HI := Lib.hid hi; have HZ0 := Lib.hid hz0; have HZ1 := Lib.hid hz1; have HZ2 := Lib.hid hz2
  clear hi hz0 hz1 hz2
  have hsz : (⟨s.toArray⟩ : ByteArray).size = s.length := by simp [ByteArray.size]
  go_enter Tryz.func178, Tryz.ntmps178
  go_wp2
  go_loopw [5, 6, 7] (fun v f i wr => PtRel w s c v f i wr) (fun _ _ i _ => s.length + 1 - (intOf i).toNat)
  case atStart => exact ⟨0, 0, [], rfl, rfl, World.ownsRow_lit w #[] 0 (Nat.le_refl _) (by simp [maxLen]) rfl, (Below.refl _ _).alloc (Nat.le_refl _) _, by simp, by omega, .inl ⟨by omega, by omega, by simp, fun j _ _ h => by omega⟩⟩
  case round =>
    obtain ⟨k, f, out, rfl, rfl, hown, hbel, hol, hks, hor⟩ := hrel
    have HO := Lib.hid hown; clear hown
    have HOR := Lib.hid hor; clear hor
    have hbs := hbel.size
    by_cases hkn : k ≤ s.length
    · have t1 : (k : Int) ≤ s.length := by omega
      obtain ⟨_, hfk, hpp, hno⟩ : k ≤ s.length ∧ f ≤ k ∧ out ++ partsL c (s.drop f) = partsL c s ∧ ∀ j (hj : j < s.length), f ≤ j → j < k → s[j] ≠ c := by
        rcases HOR.out with h | h
        · exact h
        · omega
      have HPP := Lib.hid hpp; have HNO := Lib.hid hno
      clear hpp hno HOR
      have hmid : ∀ wx, (Instr.slice 9 (.string ⟨s.toArray⟩) (some (.int .i64 (f : Int))) (some (.int .i64 (k : Int))) none).run Tryz.prog wx = .ok (.string ⟨((s.drop f).take (k - f)).toArray⟩) wx := fun wx => str_mid _ Tryz.underlying9 s f k f k rfl rfl hfk (by omega) wx
      by_cases hke : k = s.length
      · have HE := Lib.hid (show out ++ [(s.drop f).take (k - f)] = partsL c s by
          rw [← HPP.out, hke, parts_last (fun j hj h1 h2 => HNO.out j hj h1 (by omega))])
        have b1 : ((k : Int) == (s.length : Int)) = true := by simp [hke]
        have HKK := Lib.hid hke
        clear hke
        generalize (s.drop f).take (k - f) = pc at *
        go_wp2_with (at_builtin; refine wpList_app (P := Tryz.prog) rfl (.tmp 26) (.tmp 31) 38 rfl 9 i0 (.string ByteArray.empty) 1 16 Tryz.underlying38 HI.out HZ0.out HZ1.out HZ2.out rfl (by decide) w.heap.size _ out.length (out.map encStr) rfl ?c1 (wr.heap.size + 1) _ _ _ [.string ⟨pc.toArray⟩] rfl ?c2 ?c3 ?c4 ?c5 ?c6 ?_)
        case c1 => exact World.ownsRow.alloc HO.out _
        case c2 => exact Cel.new wr #[.string ⟨pc.toArray⟩] _ (by unfold maxLen; omega) rfl
        case c3 => simp [Value.oneCell']
        case c4 => unfold maxLen; omega
        case c5 => omega
        case c6 => first | omega | (simp; omega)
        intro v2 w2 hown2 hg2 _
        have hb2 : Below w.heap.size w w2 := Below.grown (hbel.alloc hbs (.cells #[.string ⟨pc.toArray⟩] 9)) hg2 (by simp; omega) (fun j hj => (HO.out.lt j hj).1)
        have HR := Lib.hid (show PtRel w s c v2 (.int .i64 ((k + 1 : Nat) : Int)) (.int .i64 ((k + 1 : Nat) : Int)) w2 from ⟨k + 1, k + 1, out ++ [pc], rfl, rfl, by
          rw [List.map_append, List.length_append]; exact hown2, hb2, by simp; omega, by omega, .inr ⟨by have := HKK.out; omega, HE.out⟩⟩)
        clear hown2 hg2 hb2 hmid
        go_wp2
        go_roundw
        case rel => exact HR.out
        case measure => simp [intOf]; omega
      · have hklt : k < s.length := by omega
        have g0 : (⟨s.toArray⟩ : ByteArray)[k]'(by simpa [ByteArray.size] using hklt) = s[k] := rfl
        have b1 : ((k : Int) == (s.length : Int)) = false := by rw [beq_eq_false_iff_ne]; omega
        by_cases hc : s[k] = c
        · have HE := Lib.hid (show out ++ [(s.drop f).take (k - f)] ++ partsL c (s.drop (k + 1)) = partsL c s by
            rw [← HPP.out, parts_next hfk hklt hc HNO.out]; simp)
          have b2 : ((s[k].toNat : Int) == (c.toNat : Int)) = true := by simp [hc]
          clear hc hke
          generalize (s.drop f).take (k - f) = pc at *
          generalize s[k] = x at *
          go_wp2_with (at_builtin; refine wpList_app (P := Tryz.prog) rfl (.tmp 26) (.tmp 31) 38 rfl 9 i0 (.string ByteArray.empty) 1 16 Tryz.underlying38 HI.out HZ0.out HZ1.out HZ2.out rfl (by decide) w.heap.size _ out.length (out.map encStr) rfl ?c1 (wr.heap.size + 1) _ _ _ [.string ⟨pc.toArray⟩] rfl ?c2 ?c3 ?c4 ?c5 ?c6 ?_)
          case c1 => exact World.ownsRow.alloc HO.out _
          case c2 => exact Cel.new wr #[.string ⟨pc.toArray⟩] _ (by unfold maxLen; omega) rfl
          case c3 => simp [Value.oneCell']
          case c4 => unfold maxLen; omega
          case c5 => omega
          case c6 => first | omega | (simp; omega)
          intro v2 w2 hown2 hg2 _
          have hb2 : Below w.heap.size w w2 := Below.grown (hbel.alloc hbs (.cells #[.string ⟨pc.toArray⟩] 9)) hg2 (by simp; omega) (fun j hj => (HO.out.lt j hj).1)
          have HR := Lib.hid (show PtRel w s c v2 (.int .i64 ((k + 1 : Nat) : Int)) (.int .i64 ((k + 1 : Nat) : Int)) w2 from ⟨k + 1, k + 1, out ++ [pc], rfl, rfl, by
            rw [List.map_append, List.length_append]; exact hown2, hb2, by simp; omega, by omega, .inl ⟨by omega, Nat.le_refl _, HE.out, fun j _ h1 h2 => by omega⟩⟩)
          clear hown2 hg2 hb2 hmid
          go_wp2
          go_roundw
          case rel => exact HR.out
          case measure => simp [intOf]; omega
        · have b2 : ((s[k].toNat : Int) == (c.toNat : Int)) = false := by
            rw [beq_eq_false_iff_ne]
            intro e
            exact hc (UInt8.toNat_inj.1 (by omega))
          have HR := Lib.hid (show PtRel w s c u5 (.int .i64 (f : Int)) (.int .i64 ((k + 1 : Nat) : Int)) wr from ⟨k + 1, f, out, rfl, rfl, HO.out, hbel, by omega, by omega, .inl ⟨by omega, by omega, HPP.out, fun j hj h1 h2 => by
            by_cases e : j = k
            · subst e; exact hc
            · exact HNO.out j hj h1 (by omega)⟩⟩)
          clear hc hke hmid
          generalize s[k] = x at *
          go_wp2
          go_roundw
          case rel => exact HR.out
          case measure => simp [intOf]; omega
    · have t1 : ¬ (k : Int) ≤ s.length := by omega
      have hout : out = partsL c s := by
        rcases HOR.out with h | h
        · exact absurd h.1 hkn
        · exact h.2
      obtain ⟨A3, c3, hv⟩ := ownsRow_form HO.out
      have HR := Lib.hid (show StrsPost w (partsL c s) (.returned u5) wr from ⟨A3, c3, by rw [← hout, hv], by
        have := HO.out
        rw [hv] at this
        rw [← hout]
        exact Cel.of_own this, hbel⟩)
      clear hout hv HOR
      go_wp2
      go_ret
      exact HR.out
end Go.Proofs.YtgbagjpokpchpaaGreatDoor
namespace Go.Proofs.YtgbagjpokpchpaaGreatDoor
open Go.RowKit Go.Maps Go.Sort

theorem str_from {P : Program} (t : TypeId) (h : P.underlying t = some .string) (l : List UInt8) (i : Int) (a : Nat) (hi : i = (a : Int)) (h2 : a ≤ l.length) (w : World) :
    (Instr.slice t (.string ⟨l.toArray⟩) (some (.int .i64 i)) none none).run P w = .ok (.string ⟨(l.drop a).toArray⟩) w := by
  subst hi
  rw [run_slice_string_from_if w t ⟨l.toArray⟩ .i64 a h, if_pos ⟨by omega, by simpa [ByteArray.size] using h2⟩]
  have : (⟨l.toArray⟩ : ByteArray).size = l.length := by simp [ByteArray.size]
  rw [this, str_cut]
  simp [List.take_of_length_le]

set_option maxHeartbeats 1000000 in
theorem rtags_any (w : World) (l : List UInt8) (hm : l.length ≤ 1000000000) :
    Calls Tryz.prog 138 #[.string ⟨l.toArray⟩] w (StrsPost w (tagsL l)) := by
  have HC := Lib.hid (show Lib.cut l [59] = if 0 ≤ Lib.index l [59] then (l.take (Lib.index l [59]).toNat, l.drop ((Lib.index l [59]).toNat + 1), true) else (l, [], false) from rfl)
  have HT := Lib.hid (tagsL_eq l)
  have HRL := Lib.hid (show restL l = (Lib.cut l [59]).2.1 from rfl)
  have hroom := Lib.index_room l [59]
  have HNIL := Lib.hid (show ∀ wx : World, Below w.heap.size w wx → StrsPost w [] (.returned (.slice (some ⟨wx.heap.size, 0, none⟩) 0 0)) (wx.alloc (.cells #[] 9)) from fun wx hbx => ⟨_, 0, rfl, Cel.nil _ _ _ _ _ (by unfold maxLen; omega), hbx.alloc hbx.size _⟩)
  go_enter Tryz.func138, Tryz.ntmps138
  go_wp2_with fail
  refine (rplace_any w l hm).mono ?_
  rintro r w1 ⟨rfl, rfl⟩
  by_cases h0 : 0 ≤ Lib.index l [59]
  · obtain ⟨k, hk⟩ : ∃ k : Nat, Lib.index l [59] = k := ⟨(Lib.index l [59]).toNat, by omega⟩
    have hkl := hroom h0
    have HR := Lib.hid (show restL l = l.drop (k + 1) by rw [HRL.out, HC.out, if_pos h0, hk]; rfl)
    rw [hk] at *
    simp only [List.length_singleton] at hkl
    have hkl' : k < l.length := by omega
    by_cases hl : k + 1 = l.length
    · have HE := Lib.hid (show tagsL l = [] by rw [HT.out, HR.out, List.drop_of_length_le (by omega)]; rfl)
      have b1 : ((k : Int) == (l.length : Int) - 1) = true := by rw [beq_iff_eq]; omega
      have b0 : ¬ (k : Int) < 0 := by omega
      clear hk hroom HC hkl h0 hl HT HR HRL
      go_wp2
      go_ret
      rw [HE.out]
      exact HNIL.out w (Below.refl _ _)
    · have HE := Lib.hid (show tagsL l = partsL 44 (l.drop (k + 1)) by
        rw [HT.out, HR.out, if_neg]
        rw [List.isEmpty_iff, List.drop_eq_nil_iff]
        omega)
      have b1 : ((k : Int) == (l.length : Int) - 1) = false := by rw [beq_eq_false_iff_ne]; omega
      have b0 : ¬ (k : Int) < 0 := by omega
      have hsl : ∀ wx, (Instr.slice 9 (.string ⟨l.toArray⟩) (some (.int .i64 ((k : Int) + 1))) none none).run Tryz.prog wx = .ok (.string ⟨(l.drop (k + 1)).toArray⟩) wx := fun wx => str_from _ Tryz.underlying9 l _ (k + 1) (by omega) (by omega) wx
      have hpl : (l.drop (k + 1)).length ≤ 1000000000 := by simp; omega
      clear hk hroom HC hkl h0 hl HT HR HRL HNIL
      generalize l.drop (k + 1) = pl at *
      go_wp2_with fail
      refine (rparts_any w pl hpl 44).mono ?_
      rintro r w2 ⟨A, c, rfl, hst, hb⟩
      have HP := Lib.hid (show StrsPost w (partsL 44 pl) (.returned (.slice A (partsL 44 pl).length c)) w2 from ⟨A, c, rfl, hst, hb⟩)
      clear hst hb
      generalize partsL 44 pl = ps at *
      go_wp2
      go_ret
      rw [HE.out]
      exact HP.out
  · have HE := Lib.hid (show tagsL l = [] by rw [HT.out, HRL.out, HC.out, if_neg h0]; rfl)
    have b0 : Lib.index l [59] < 0 := by omega
    clear hroom HC HT HRL h0
    generalize Lib.index l [59] = ix at *
    go_wp2
    go_ret
    rw [HE.out]
    exact HNIL.out w (Below.refl _ _)

theorem rin_any (w : World) (n lo hi : Int) : Calls Tryz.prog 91 #[.int .i64 n, .int .i64 lo, .int .i64 hi] w fun e w' => e = .returned (.bool (decide (lo ≤ n) && decide (n ≤ hi))) ∧ w' = w := by
  by_cases h : lo ≤ n
  · go_enter Tryz.func91, Tryz.ntmps91
    go_wp2
    go_ret
    exact ⟨ret_bool (by simp [h]), rfl⟩
  · go_enter Tryz.func91, Tryz.ntmps91
    go_wp2
    go_ret
    exact ⟨ret_bool (by simp; omega), rfl⟩

def LbRel (ts : List (List UInt8)) (w2 : World) (i : Value) (wr : World) : Prop := ∃ k q : Nat, i = .int .i64 k ∧ k ≤ ts.length ∧ wr = w2.drewN q ∧ Hid (∀ j, j < k → tagB ts j = true)
theorem rn02q (w : World) (l : List UInt8) (hm : l.length ≤ 1000000000) : Calls Tryz.prog 90 #[.string ⟨l.toArray⟩] w fun e w' => e = .returned (.bool (nameB l)) ∧ w' = w :=
  (rn02 w l hm).mono fun _ _ h => ⟨h.1, h.2.symm⟩
theorem partsL_len (c : UInt8) : ∀ s : List UInt8, ∀ t ∈ partsL c s, t.length ≤ s.length
  | [], t, ht => by simp [partsL] at ht; simp [ht]
  | x :: r, t, ht => by
    have ih := partsL_len c r
    rw [partsL] at ht
    split at ht
    · rcases List.mem_cons.1 ht with rfl | ht
      · simp
      · have := ih t ht; simp; omega
    · rcases List.mem_cons.1 ht with rfl | ht
      · cases hp : partsL c r with
        | nil => simp
        | cons a b => have := ih a (by rw [hp]; simp); simp; omega
      · have := ih t (List.mem_of_mem_tail ht); simp; omega
theorem tagsL_len (s : List UInt8) : ∀ t ∈ tagsL s, t.length ≤ s.length := fun t ht => by
  rw [tagsL_eq] at ht
  split at ht
  · simp at ht
  · have := partsL_len 44 _ t ht
    have := restL_length s
    omega

set_option maxRecDepth 100000 in
set_option maxHeartbeats 2000000 in
theorem rlabel_any (w : World) (s : List UInt8) (hs : s.length ≤ 1000000000) :
    Calls Tryz.prog 92 #[.string ⟨s.toArray⟩] w (Says (listingB s) w) := by
  have HLB := Lib.hid (show listingB s = ((Lib.cut s [59]).2.2 && nameB (Lib.cut s [59]).1 && decide ((tagsL s).length ≤ 8) && tagsB (tagsL s)) from rfl)
  have HC2 := Lib.hid (show (Lib.cut s [59]).2.2 = decide (0 ≤ Lib.index s [59]) by unfold Lib.cut; split <;> simp [*])
  have hcl := cut1_length s
  have HTL := Lib.hid (tagsL_len s)
  go_enter Tryz.func92, Tryz.ntmps92
  go_wp2_with fail
  refine (rplace_any w s hs).mono ?_
  rintro r w1 ⟨rfl, rfl⟩
  by_cases h0 : 0 ≤ Lib.index s [59]
  case neg =>
    have HF := Lib.hid (show listingB s = false by rw [HLB.out, HC2.out, decide_eq_false h0]; rfl)
    have b0 : Lib.index s [59] < 0 := by omega
    clear h0
    generalize Lib.index s [59] = ix at *
    go_wp2
    go_ret
    exact ⟨ret_bool HF.out.symm, Below.refl _ _⟩
  have b0 : ¬ Lib.index s [59] < 0 := by omega
  have HLB2 := Lib.hid (show listingB s = (nameB (Lib.cut s [59]).1 && decide ((tagsL s).length ≤ 8) && tagsB (tagsL s)) by rw [HLB.out, HC2.out, decide_eq_true h0]; simp)
  clear h0 HLB HC2
  generalize Lib.index s [59] = ix at *
  go_wp2_with fail
  refine (rmaker_any w s hs).mono ?_
  rintro r w1 ⟨rfl, rfl⟩
  generalize (Lib.cut s [59]).1 = mk at *
  go_wp2_with fail
  refine (rn02 w mk (by omega)).mono ?_
  rintro r w1 ⟨rfl, rfl⟩
  generalize nameB mk = nm at *
  cases nm
  · go_wp2
    go_ret
    exact ⟨ret_bool (by rw [HLB2.out]; rfl), Below.refl _ _⟩
  go_wp2_with fail
  refine (rtags_any w s hs).mono ?_
  rintro q w2 ⟨A, c, rfl, hst, hb2⟩
  have HS := Lib.hid hst; clear hst
  generalize tagsL s = ts at *
  have hcm : ts.length ≤ 9223372036854775807 := by have h1 := Cel.cap HS.out; have h2 := Cel.max HS.out; unfold maxLen at h2; omega
  go_wp2
  go_loopw [4] (fun i wr => LbRel ts w2 i wr) (fun i _ => ts.length - (intOf i).toNat)
  case atStart => exact ⟨0, 0, rfl, Nat.zero_le _, rfl, fun j h => by omega⟩
  case round =>
    obtain ⟨k, q, rfl, hk, rfl, HK⟩ := hrel
    have hbq : Below w.heap.size w (w2.drewN q) := below_drewN hb2 q
    have HSQ := Lib.hid (show Strs (w2.drewN q) w2.heap.size A ts.length c ts from HS.out.drewN q)
    have HQQ := Lib.hid (show ∀ m, ∃ q', (w2.drewN q).drewN m = w2.drewN q' from fun m => ⟨_, World.drewN_drewN ..⟩)
    generalize w2.drewN q = wr at *
    by_cases hkn : k < ts.length
    · obtain ⟨b, off, rfl, hb, hc⟩ := HSQ.out.at_ k hkn
      have HB := Lib.hid (show tagB ts k = (nameB ts[k] && (k == 0 || Op.bytesLess (ts.getD (k - 1) []) ts[k])) by unfold tagB; simp [List.getD, List.getElem?_eq_getElem hkn])
      have HNO := Lib.hid (show tagB ts k = false → tagsB ts = false from fun h => by
        unfold tagsB; rw [List.all_eq_false]; exact ⟨k, by simpa using hkn, by simp [h]⟩)
      have HYES := Lib.hid (show tagB ts k = true → ∀ j, j < k + 1 → tagB ts j = true from fun h j hj => by
        by_cases e : j = k
        · subst e; exact h
        · exact HK.out j (by omega))
      have HC1 := Lib.hid (show 0 < k → wr.cell? ⟨b, off + (k - 1), none⟩ = some (.string ⟨(ts.getD (k - 1) []).toArray⟩) from fun h0 => by
        obtain ⟨b', off', e', _, hc'⟩ := HSQ.out.at_ (k - 1) (by omega)
        injection e' with e'; injection e' with e1 e2
        subst e1 e2
        rw [hc']; simp [List.getD, List.getElem?_eq_getElem (show k - 1 < ts.length by omega)])
      have htl : ts[k].length ≤ 1000000000 := by have := HTL.out _ (List.getElem_mem hkn); omega
      generalize ts.getD (k - 1) [] = p at *
      have t1 : (k : Int) < ts.length := by omega
      generalize ts[k] = t at *
      have HQ := Lib.hid (show ∀ wx, Calls Tryz.prog 90 #[.string ⟨t.toArray⟩] wx fun e w' => e = .returned (.bool (nameB t)) ∧ w' = wx from fun wx => rn02q wx t htl)
      generalize nameB t = nt at *
      cases nt
      · have HF := Lib.hid (HNO.out (by rw [HB.out]; rfl))
        go_wp2
        go_quiet ((go_at_call 90; exact Calls.quiet_of_same (HQ.out _)))
        go_wp2
        go_ret
        exact ⟨ret_bool (by rw [HLB2.out, HF.out]; simp), below_drewN hbq _⟩
      by_cases k0 : k = 0
      · subst k0
        rw [Nat.add_zero] at hc
        have HY := Lib.hid (HYES.out (by rw [HB.out]; rfl))
        go_wp2
        go_quiet ((go_at_call 90; exact Calls.quiet_of_same (HQ.out _)))
        go_wp2
        go_roundw
        case rel => obtain ⟨q', hq'⟩ := HQQ.out nq; exact ⟨1, q', by go_num, by omega, hq', HY.out⟩
        case measure => simp [intOf]; omega
      · have hc1 := HC1.out (by omega)
        have k1 : (0 : Int) < k := by omega
        have ek : (k : Int) - 1 = ((k - 1 : Nat) : Int) := by omega
        have kd : decide (0 < (k : Int)) = true := decide_eq_true k1
        have kd' : decide (0 < k) = true := decide_eq_true (by omega)
        have kn : 0 < k := by omega
        have HBL := Lib.hid (show tagB ts k = Op.bytesLess p t by rw [HB.out]; simp [k0])
        cases hbl : Op.bytesLess p t
        · have HF := Lib.hid (HNO.out (HBL.out.trans hbl))
          go_wp2
          go_quiet ((go_at_call 90; exact Calls.quiet_of_same (HQ.out _)))
          go_wp2
          go_ret
          exact ⟨ret_bool (by rw [HLB2.out, HF.out]; simp), below_drewN hbq _⟩
        · have HY := Lib.hid (HYES.out (HBL.out.trans hbl))
          go_wp2
          go_quiet ((go_at_call 90; exact Calls.quiet_of_same (HQ.out _)))
          go_wp2
          go_roundw
          case rel => obtain ⟨q', hq'⟩ := HQQ.out nq; exact ⟨k + 1, q', by go_num, by omega, hq', HY.out⟩
          case measure => simp [intOf]; omega
    · have HT := Lib.hid (show tagsB ts = true by
        unfold tagsB; rw [List.all_eq_true]; intro j hj; exact HK.out j (by have : j < ts.length := by simpa using hj
                                                                            omega))
      go_wp2
      go_ret
      exact ⟨ret_bool (by rw [HLB2.out, HT.out]; simp; omega), hbq⟩
end Go.Proofs.YtgbagjpokpchpaaGreatDoor
