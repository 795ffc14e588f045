/-
  Layer 5, plain: how many entries a crash leaves that leaves one number of bytes of each file.
  Layer 5: a row of one number, pieces of the document's row; what Open finds behind a crash.
-/
import Derived.Test.YtejjfhhppjdcaaaGreatDoorOCrPlain
import Derived.Test.YtejjfhhppjdcaaaGreatDoorOJPlays
import Derived.Test.YtejjfhhppjdcaaaGreatDoorORJl9
import Derived.Test.YtejjfhhppjdcaaaGreatDoorOOpGood
namespace Go.Proofs.YtejjfhhppjdcaaaGreatDoor
open Go.RowKit Go.Maps Go.Sort

/-- bytes that are sure, and those that may be lost, of the last segment -/
def sureN (L : List (Option Ev)) (b m : Nat) : Nat := (bytesL ((L.take m).drop b)).length
def looseN (L : List (Option Ev)) (b m : Nat) : Nat := (bytesL (L.drop b)).length - sureN L b m
theorem sureN_le (L : List (Option Ev)) (b m : Nat) : sureN L b m ≤ (bytesL (L.drop b)).length := by
  unfold sureN
  rw [List.drop_take]; exact bytesL_take_le _ _
theorem sureN_none {L : List (Option Ev)} {b m : Nat} (h : m ≤ b) : sureN L b m = 0 := by
  unfold sureN; rw [List.drop_eq_nil_of_le (by rw [List.length_take]; omega)]; rfl
/-- how many are left -/
def keepN (L : List (Option Ev)) (b m : Nat) (keep : Int) : Nat := b + wholeB (L.drop b) (sureN L b m + (min (max keep 0) (looseN L b m : Int)).toNat)
theorem leftN_keep {j : Jl} (h : j.Good) (keep : Int) : leftN j.dk.files j.name j.per j.files j.lasts j.es (List.replicate j.dk.files.length keep) = keepN j.es (autoN j.es.length j.per) j.lasts keep := by
  have hi : DInv j.dk.files j.name j.per j.files j.es j.lasts := h.inv
  have hp := hi.per1
  have ha : (j.files - 1) * j.per = autoN j.es.length j.per := by rw [h.fc]; exact nseg_auto hp
  unfold leftN keepN
  by_cases h0 : j.files = 0
  · have hl := hi.last
    rw [h0] at hl
    have he : j.es = [] := List.eq_nil_of_length_eq_zero (by omega)
    rw [if_pos h0, he]
    rfl
  · obtain ⟨st, hg, _⟩ := hi.here (j.files - 1) (by omega)
    have hk := kOf_same keep j.dk.files j.dk.files.length (segF j.name (j.files - 1)) (Nat.le_refl _) ⟨_, getB_mem hg, rfl⟩
    have hs1 : segL j.per (j.files - 1) j.es = j.es.drop (autoN j.es.length j.per) := by
      rw [segL_last _ (by rw [show j.files - 1 + 1 = j.files by omega]; exact hi.last), ha]
    have hs2 : segL j.per (j.files - 1) (j.es.take j.lasts) = (j.es.take j.lasts).drop (autoN j.es.length j.per) := by
      rw [segL_last _ (by rw [show j.files - 1 + 1 = j.files by omega]; exact Nat.le_trans (by rw [List.length_take]; omega) hi.last), ha]
    have hle := sureN_le j.es (autoN j.es.length j.per) j.lasts
    have hq : keptB j.dk.files j.name j.per j.files j.lasts j.es (List.replicate j.dk.files.length keep) = sureN j.es (autoN j.es.length j.per) j.lasts + (min (max keep 0) (looseN j.es (autoN j.es.length j.per) j.lasts : Int)).toNat := by
      unfold keptB Fl.kept
      rw [hk, hs1, hs2]
      show (((sureN j.es (autoN j.es.length j.per) j.lasts : Nat) : Int) + min (max keep 0) (((bytesL (j.es.drop (autoN j.es.length j.per))).length : Int) - (sureN j.es (autoN j.es.length j.per) j.lasts : Nat))).toNat = _
      unfold looseN
      omega
    rw [if_neg h0, hq, ha, hs1]
end Go.Proofs.YtejjfhhppjdcaaaGreatDoor
namespace Go.Proofs.YtejjfhhppjdcaaaGreatDoor
open Go.RowKit Go.Maps Go.Sort Go.Shelf

/-- the row of one number grows -/
def KpRel (w9 : World) (N : Nat) (keep : Int) (v i : Value) (W : World) : Prop :=
  ∃ k : Nat, i = .int .i64 k ∧ k ≤ N ∧ OwnI W w9.heap.size v (List.replicate k keep) ∧ RowKit.Below w9.heap.size w9 W
/-- what Open finds behind such a crash -/
theorem CrOut.opened {d : Dk} {s : List UInt8} {per m n : Nat} {L : List (Option Ev)} (h : CrOut d s per m L n) : ∃ fc t, OpIn d s per fc (L.take n) t ∧ (Jl.opened d s per fc (L.take n) t).Fine := by
  obtain ⟨fc, t, ho, hst⟩ := h.op
  exact ⟨fc, t, ho, ho.fine hst⟩
theorem OwnI.keepB {w w' : World} {base : Nat} {v : Value} {l : List Int} (h : OwnI w base v l) (hb : ∀ b, v.ownBlock = some b → w'.heap[b]? = w.heap[b]?) : OwnI w' base v l := by
  refine ⟨h.1, ?_⟩
  rcases h.2 with ⟨e, hl⟩ | ⟨g, cap, cur, e, hb', hg, hr⟩
  · exact .inl ⟨e, hl⟩
  · exact .inr ⟨g, cap, cur, e, hb', (hb g (by rw [e]; rfl)).trans hg, hr⟩
theorem Ents.mid {w : World} {B n c : Nat} {A : Option Addr} {l : List (Option Ev)} (h : Ents w B A n c l) (lo m : Nat) (hm : lo + m ≤ n) :
    Ents w B (if c = lo then A else A.map (·.add (lo * 9))) m (c - lo) ((l.drop lo).take m) := by
  have := Cel.mid h lo m hm
  unfold Ents
  rw [entCells_dropN, entCells_takeN] at this
  exact this
theorem Ents.upto {w : World} {B n c : Nat} {A : Option Addr} {l : List (Option Ev)} (h : Ents w B A n c l) (m : Nat) (hm : m ≤ n) : Ents w B A m c (l.take m) := by
  have := Cel.upto h m hm
  unfold Ents
  rw [entCells_takeN] at this
  exact this
theorem Ents.from_ {w : World} {B n c : Nat} {A : Option Addr} {l : List (Option Ev)} (h : Ents w B A n c l) (m : Nat) (hm : m ≤ n) :
    Ents w B (if c = m then A else A.map (·.add (m * 9))) (n - m) (c - m) (l.drop m) := by
  have := Cel.from_ h m hm
  unfold Ents
  rw [entCells_dropN] at this
  exact this
theorem autoN_le (n p : Nat) : autoN n p ≤ n := by
  unfold autoN
  split
  · omega
  · have := Nat.div_mul_le_self (n - 1) p; omega
/-- a piece of the document's row -/
def LastP (w : World) (n : Nat) (l : List (Option Ev)) (v : Value) (wc : World) : Prop := ∃ A c, v = .slice A n c ∧ Ents w w.heap.size A n c l ∧ w = wc
/-- one event more -/
theorem Jl.Fine.more {j : Jl} (h : j.Fine) (hn : j.es.length ≤ 80) (e : Ev) (hm : mayB e = true) : j.app [e] = j.puts [e] ∧ j.appN [e] = j.es.length ∧ j.appE [e] = 0 ∧ (j.puts [e]).es.length = j.es.length + 1 := by
  have h1 : [e].all mayB = true := by rw [List.all_cons, hm]; rfl
  have hl : ∀ x ∈ [e], (encE x).length ≤ 1229 := fun x hx => by rw [List.mem_singleton] at hx; subst hx; exact (mayB_fit hm).len
  obtain ⟨_, h3, h4, _⟩ := Jl.Fine.puts [e] h (by show j.es.length + 1 ≤ 100; omega) hl
  unfold Jl.app Jl.appN Jl.appE
  simp only [h.free, ne_eq, not_true_eq_false, if_false, h1, if_true]
  exact ⟨trivial, trivial, h3, by rw [h4, List.length_append, List.length_map]; rfl⟩
end Go.Proofs.YtejjfhhppjdcaaaGreatDoor
