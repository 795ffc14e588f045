/-
  Layer 5: done: Sync.
  Layer 5: done's boxes; what an Append leaves.
-/
import Derived.Test.YtejjfhhppjdcaaaGreatDoorJJAsk
import Derived.Test.YtejjfhhppjdcaaaGreatDoorJJl5
import Derived.Deep.RegionHeld3
import Derived.Test.YtejjfhhppjdcaaaGreatDoorJJLives
import Derived.Test.YtejjfhhppjdcaaaGreatDoorJStepApp
namespace Go.Proofs.YtejjfhhppjdcaaaGreatDoor
open Go.RowKit Go.Maps Go.Sort

/-- a journal, and the document's entries beside it -/
structure DoneSt (w : World) (G F : Nat → Prop) (bj bd : Nat) (v : Value) (j : Jl) : Prop where
  jl : JlIn w G F bj bd j
  row : OwnR w 0 v j.es
  ap : ∀ b, v.ownBlock = some b → ¬ G b ∧ ¬ F b
def DonePost (w : World) (G F : Nat → Prop) (bj bd : Nat) (j' : Jl) (e : Ending) (w' : World) : Prop :=
  ∃ v' G' F', e = .returned (.tuple #[.agg #[v', .int .i64 j'.lasts], .bool true]) ∧ DoneSt w' G' F' bj bd v' j' ∧ (∀ b, G' b → G b ∨ w.heap.size ≤ b) ∧ (∀ b, F' b → F b ∨ w.heap.size ≤ b) ∧ Keep (fun b => G b ∨ F b) w w'
theorem OwnR.keepB {w w' : World} {base : Nat} {v : Value} {l : List (Option Ev)} (h : OwnR w base v l) (hb : ∀ b, v.ownBlock = some b → w'.heap[b]? = w.heap[b]?) : OwnR w' base v l := by
  refine ⟨h.1, ?_⟩
  rcases h.2 with ⟨e, hl⟩ | ⟨g, cap, cur, e, hb', hg, hr⟩
  · exact .inl ⟨e, hl⟩
  · exact .inr ⟨g, cap, cur, e, hb', (hb g (by rw [e]; rfl)).trans hg, hr⟩
/-- the journal's deed is done, and the document's state lies in the result's box -/
theorem DoneSt.fin {w w3 w' w5 : World} {G F : Nat → Prop} {bj bd : Nat} {v : Value} {j j' : Jl} (h : DoneSt w G F bj bd v j) (hb3 : RowKit.Below w.heap.size w w3) (hjd : JlD w3 G F bj bd j' w') (hes : j'.es = j.es)
    (h5 : w'.heap.size ≤ w5.heap.size) (hblk : ∀ b, (b < w.heap.size ∨ w3.heap.size ≤ b) → w5.heap[b]? = w'.heap[b]?) (hk5 : Keep (fun b => G b ∨ F b) w w' → Keep (fun b => G b ∨ F b) w w5) :
    DonePost w G F bj bd j' (.returned (.tuple #[.agg #[v, .int .i64 j'.lasts], .bool true])) w5 := by
  obtain ⟨G', F', hi, hG, hF, hk⟩ := hjd
  have hsz := hk.size
  have hs3 := hb3.size
  have hlt := h.jl.lt
  have hown : ∀ b, v.ownBlock = some b → b < w.heap.size := fun b hb => (World.ownsRow.lt h.row b hb).2
  have hkw : Keep (fun b => G b ∨ F b) w w' := (Keep.of_below (F := fun b => G b ∨ F b) hb3).trans hk (fun _ _ h => h)
  refine ⟨v, G', F', rfl, ⟨hi.keep h5 (fun b hb => hblk b ?_), ?_, fun b hb => ⟨fun hg => ?_, fun hf => ?_⟩⟩, fun b hb => (hG b hb).imp id (fun h => by omega), fun b hb => (hF b hb).imp id (fun h => by omega), hk5 hkw⟩
  · rcases hb with hb | hb
    · exact (hG b hb).imp (fun h => hlt b (.inl h)) id
    · exact (hF b hb).imp (fun h => hlt b (.inr h)) id
  · rw [hes]
    exact h.row.keepB fun b hb => (hblk b (.inl (hown b hb))).trans (hkw.block b (hown b hb) (fun hgf => hgf.elim (h.ap b hb).1 (h.ap b hb).2))
  · rcases hG b hg with h1 | h1
    · exact (h.ap b hb).1 h1
    · have := hown b hb; omega
  · rcases hF b hf with h1 | h1
    · exact (h.ap b hb).2 h1
    · have := hown b hb; omega
abbrev djObj (k : Int) (A : Option Addr) (n c : Nat) (p : List UInt8) (f m : Int) : Obj := .cells #[.int .u8 k, .slice A n c, .string ⟨p.toArray⟩, .int .i64 f, .int .i64 m] 61
set_option maxRecDepth 100000 in
set_option maxHeartbeats 4000000 in
theorem jdone_sync (w : World) (G F : Nat → Prop) (bj bd : Nat) (v : Value) (j : Jl) (h : DoneSt w G F bj bd v j) (hfl : j.files ≤ 99) (he : j.syncAE = 0) (hes : j.syncA.es = j.es) (hla : j.syncA.lasts = j.es.length) (per : Int) (A : Option Addr) (n c : Nat) (p : List UInt8) (f m : Int) :
    Calls Tryz.prog 83 #[.pointer (some ⟨bj, 0, none⟩), .agg #[v, .int .i64 j.lasts], .int .i64 per, .agg #[.int .u8 2, .slice A n c, .string ⟨p.toArray⟩, .int .i64 f, .int .i64 m]] w (DonePost w G F bj bd j.syncA) := by
  obtain ⟨Av, cv, hv⟩ := ownsRow_form h.row
  have HS := Lib.hid h
  subst hv
  obtain ⟨z, hz⟩ : ∃ z, z = j.es.length := ⟨_, rfl⟩
  rw [← hz]
  have HZ := Lib.hid hz
  clear hz
  go_enter Tryz.func83, Tryz.ntmps83
  go_upto_region 15 with fail
  obtain ⟨w3, hw3⟩ : ∃ w3, w3 = (((w.alloc (.cells #[.slice Av z cv, .int .i64 (z : Int)] 55)).alloc (djObj 2 A n c p f m)).alloc (.cells #[.slice none 0 0, .int .i64 0] 55)) := ⟨_, rfl⟩
  rw [← hw3]
  have hs3 : w3.heap.size = w.heap.size + 3 := by rw [hw3]; simp
  have hb3 : RowKit.Below w.heap.size w w3 := by rw [hw3]; exact (((Below.refl _ _).alloc (Nat.le_refl _) _).alloc (by simp) _).alloc (by simp; omega) _
  have g5 : w3.heap[w.heap.size]? = some (.cells #[.slice Av z cv, .int .i64 (z : Int)] 55) := by
    rw [hw3]; exact (heap_alloc_old _ _ (by simp; omega)).trans ((heap_alloc_old _ _ (by simp)).trans (heap_alloc_new w _))
  have g8 : w3.heap[w.heap.size + 1 + 1]? = some (.cells #[.slice none 0 0, .int .i64 0] 55) := by
    rw [hw3]
    have := heap_alloc_new ((w.alloc (.cells #[.slice Av z cv, .int .i64 (z : Int)] 55)).alloc (djObj 2 A n c p f m)) (.cells #[.slice none 0 0, .int .i64 0] 55)
    simpa using this
  clear hw3
  have c50 : w3.cell? ⟨w.heap.size, 0, none⟩ = some (.slice Av z cv) := cell_of_row w3 _ 0 _ _ (0, 0) g5
  have c51 : w3.cell? ⟨w.heap.size, 1, none⟩ = some (.int .i64 (z : Int)) := cell_of_row w3 _ 1 _ _ (0, 0) g5
  have hap := HS.out.ap
  have hlt := HS.out.jl.lt
  have HSY := Lib.hid (show Calls Tryz.prog 35 #[.pointer (some ⟨bj, 0, none⟩)] w3.drew fun r w' => r = .returned (.int .i64 0) ∧ JlD w3.drew G F bj bd j.syncA w' from by
    have := jlsyncA_any w3.drew G F bj bd j (HS.out.jl.up (below_drewN hb3 1)) hfl
    rw [he] at this; exact this)
  have HKB := Lib.hid (show ∀ w', Keep (fun b => G b ∨ F b) w3.drew w' → ∀ b, w.heap.size ≤ b → b < w3.heap.size → w'.heap[b]? = w3.heap[b]? from fun w' hk b h1 h2 => hk.block b h2 (fun hg => by have := hlt b hg; omega))
  have HFIN := Lib.hid (show ∀ w', JlD w3.drew G F bj bd j.syncA w' → DonePost w G F bj bd j.syncA (.returned (.tuple #[.agg #[.slice Av z cv, .int .i64 (z : Int)], .bool true])) ((w'.setCell ⟨w.heap.size + 1 + 1, 0, none⟩ (.slice Av z cv)).setCell ⟨w.heap.size + 1 + 1, 1, none⟩ (.int .i64 (z : Int))) from fun w' hjd => by
    have := HS.out.fin (below_drewN hb3 1) hjd hes (w5 := (w'.setCell ⟨w.heap.size + 1 + 1, 0, none⟩ (.slice Av z cv)).setCell ⟨w.heap.size + 1 + 1, 1, none⟩ (.int .i64 (z : Int))) (by simp [World.setCell]) (fun b hb => by
      have hne : b ≠ w.heap.size + 1 + 1 := by rcases hb with hb | hb; omega; (have : (w3.drewN 1).heap.size = w3.heap.size := rfl; omega)
      exact (Below.heap_setCell _ ⟨w.heap.size + 1 + 1, 1, none⟩ _ b hne).trans (Below.heap_setCell _ ⟨w.heap.size + 1 + 1, 0, none⟩ _ b hne)) (fun hk => (hk.setCell (p := ⟨w.heap.size + 1 + 1, 0, none⟩) (fun h => by simp at h; omega) _).setCell (p := ⟨w.heap.size + 1 + 1, 1, none⟩) (fun h => by simp at h; omega) _)
    rw [hla, ← HZ.out] at this
    exact this)
  have H5 := Lib.hid g5; have H8 := Lib.hid g8
  clear h hap hlt g5 g8 hb3
  have HST3 := Lib.hid (show ∀ w2 : World, (w2.cell? ⟨w.heap.size, 0, none⟩ = some (.slice Av z cv) ∧ w2.cell? ⟨w.heap.size, 1, none⟩ = some (.int .i64 (z : Int))) → (((w2.setCell ⟨w.heap.size + 1 + 1, 0, none⟩ (.slice Av z cv)).setCell ⟨w.heap.size + 1 + 1, 1, none⟩ (.int .i64 (z : Int))).cell? ⟨w.heap.size, 0, none⟩ = some (.slice Av z cv) ∧ ((w2.setCell ⟨w.heap.size + 1 + 1, 0, none⟩ (.slice Av z cv)).setCell ⟨w.heap.size + 1 + 1, 1, none⟩ (.int .i64 (z : Int))).cell? ⟨w.heap.size, 1, none⟩ = some (.int .i64 (z : Int))) from fun w2 hS2 => by
    have hx := (Below.heap_setCell (w2.setCell ⟨w.heap.size + 1 + 1, 0, none⟩ (.slice Av z cv)) ⟨w.heap.size + 1 + 1, 1, none⟩ (.int .i64 (z : Int)) w.heap.size (by show w.heap.size ≠ w.heap.size + 1 + 1; omega)).trans (Below.heap_setCell w2 ⟨w.heap.size + 1 + 1, 0, none⟩ (.slice Av z cv) w.heap.size (by show w.heap.size ≠ w.heap.size + 1 + 1; omega))
    exact ⟨(World.cell?_of_block (w := w2) (a := ⟨w.heap.size, 0, none⟩) hx).trans hS2.1, (World.cell?_of_block (w := w2) (a := ⟨w.heap.size, 1, none⟩) hx).trans hS2.2⟩)
  go_region_held3 (fun wx => wx.cell? ⟨w.heap.size, 0, none⟩ = some (.slice Av z cv) ∧ wx.cell? ⟨w.heap.size, 1, none⟩ = some (.int .i64 (z : Int))) (first | assumption | go_keep) (first
    | (go_at_call 35; (with_reducible refine HSY.out.mono ?_); rintro r9 w2 ⟨rfl, hjd⟩;
        have hk5 := HKB.out w2 hjd.choose_spec.choose_spec.2.2.2 w.heap.size (Nat.le_refl _) (by omega);
        have hk8 := HKB.out w2 hjd.choose_spec.choose_spec.2.2.2 (w.heap.size + 1 + 1) (by omega) (by omega);
        rw [H5.out] at hk5; rw [H8.out] at hk8;
        have hS2 : w2.cell? ⟨w.heap.size, 0, none⟩ = some (.slice Av z cv) ∧ w2.cell? ⟨w.heap.size, 1, none⟩ = some (.int .i64 (z : Int)) := ⟨cell_of_row w2 _ 0 _ _ (0, 0) hk5, cell_of_row w2 _ 1 _ _ (0, 0) hk5⟩;
        have x80 : w2.cell? ⟨w.heap.size + 1 + 1, 0, none⟩ = some (.slice none 0 0) := cell_of_row w2 _ 0 _ _ (0, 0) hk8;
        have x81 : w2.cell? ⟨w.heap.size + 1 + 1, 1, none⟩ = some (.int .i64 0) := cell_of_row w2 _ 1 _ _ (0, 0) hk8;
        have z80 : w2.frozen? ⟨w.heap.size + 1 + 1, 0, none⟩ = false := frozen_of_row w2 _ 0 _ _ hk8;
        have z81 : w2.frozen? ⟨w.heap.size + 1 + 1, 1, none⟩ = false := frozen_of_row w2 _ 1 _ _ hk8;
        have hS3 := HST3.out w2 hS2;
        have HJD := Lib.hid hjd; have H8W := Lib.hid hk8; clear hjd hk5 hk8))
  have r80 : ((w2.setCell ⟨w.heap.size + 1 + 1, 0, none⟩ (.slice Av z cv)).setCell ⟨w.heap.size + 1 + 1, 1, none⟩ (.int .i64 (z : Int))).cell? ⟨w.heap.size + 1 + 1, 0, none⟩ = some (.slice Av z cv) := by
    exact cell_of_row _ _ 0 _ _ (0, 0) (heap_set_row (heap_set_row H8W.out))
  have r81 : ((w2.setCell ⟨w.heap.size + 1 + 1, 0, none⟩ (.slice Av z cv)).setCell ⟨w.heap.size + 1 + 1, 1, none⟩ (.int .i64 (z : Int))).cell? ⟨w.heap.size + 1 + 1, 1, none⟩ = some (.int .i64 (z : Int)) := by
    exact cell_of_row _ _ 1 _ _ (0, 0) (heap_set_row (heap_set_row H8W.out))
  have HR := Lib.hid (HFIN.out w2 HJD.out)
  clear hS2 hS3 x80 x81 z80 z81 c50 c51
  generalize (w2.setCell ⟨w.heap.size + 1 + 1, 0, none⟩ (.slice Av z cv)).setCell ⟨w.heap.size + 1 + 1, 1, none⟩ (.int .i64 (z : Int)) = w5 at *
  go_wp2
  exact bodyPost_ret (v := .tuple #[.agg #[.slice Av z cv, .int .i64 (z : Int)], .bool true]) (by simp [results, Tryz.results83, go_sem, r80, r81]) rfl HR.out
end Go.Proofs.YtejjfhhppjdcaaaGreatDoor
namespace Go.Proofs.YtejjfhhppjdcaaaGreatDoor
open Go.RowKit Go.Maps Go.Sort

theorem OwnR.down {w : World} {base base' : Nat} {v : Value} {l : List (Option Ev)} (h : OwnR w base v l) (hb : base' ≤ base) : OwnR w base' v l := by
  refine ⟨h.1, ?_⟩
  rcases h.2 with ⟨e, hl⟩ | ⟨g, cap, cur, e, hb', hg, hr⟩
  · exact .inl ⟨e, hl⟩
  · exact .inr ⟨g, cap, cur, e, Nat.le_trans hb hb', hg, hr⟩
theorem OwnRz.up {w w' : World} {base z : Nat} {v : Value} {xs : List Value} (h : w.ownsRow base 72 9 v z xs) (hb : RowKit.Below w.heap.size w w') : w'.ownsRow base 72 9 v z xs := by
  refine ⟨h.1, ?_⟩
  have hl := World.ownsRow.lt h
  rcases h.2 with ⟨e, hl⟩ | ⟨g, cap, cur, e, hb', hg, hr⟩
  · exact .inl ⟨e, hl⟩
  · exact .inr ⟨g, cap, cur, e, hb', (hb.block g (hl g (by rw [e]; rfl)).2).trans hg, hr⟩
/-- a deed is done, and the document's state is a new row in the result's box -/
theorem DoneSt.finA {w w3 w5 w8 w9 : World} {G F : Nat → Prop} {bj bd base bs b8 : Nat} {v v8 : Value} {j j' : Jl} (h : DoneSt w G F bj bd v j) (hb3 : RowKit.Below w.heap.size w w3) (hjd : JlD w3 G F bj bd j' w5) (hb8 : RowKit.Below w5.heap.size w5 w8)
    (ho : OwnR w8 base v8 j'.es) (hbase : w5.heap.size ≤ base) (h1 : w.heap.size ≤ bs ∧ bs < w3.heap.size) (h2 : w.heap.size ≤ b8 ∧ b8 < w3.heap.size)
    (h9 : w8.heap.size ≤ w9.heap.size) (hblk : ∀ b, b ≠ bs → b ≠ b8 → w9.heap[b]? = w8.heap[b]?) (hk9 : Keep (fun b => G b ∨ F b) w w8 → Keep (fun b => G b ∨ F b) w w9) :
    DonePost w G F bj bd j' (.returned (.tuple #[.agg #[v8, .int .i64 j'.lasts], .bool true])) w9 := by
  obtain ⟨G', F', hi, hG, hF, hk⟩ := hjd
  have hsz := hk.size
  have hs3 := hb3.size
  have hs8 := hb8.size
  have hlt := h.jl.lt
  have hGo : ∀ b, G' b ∨ F' b → b < w5.heap.size ∧ (b < w.heap.size ∨ w3.heap.size ≤ b) := fun b hb => ⟨hi.lt b hb, by
    rcases hb with hb | hb
    · exact (hG b hb).imp (fun h => hlt b (.inl h)) id
    · exact (hF b hb).imp (fun h => hlt b (.inr h)) id⟩
  have hown : ∀ b, v8.ownBlock = some b → w5.heap.size ≤ b := fun b hb => Nat.le_trans hbase (World.ownsRow.lt ho b hb).1
  have hkw : Keep (fun b => G b ∨ F b) w w5 := (Keep.of_below (F := fun b => G b ∨ F b) hb3).trans hk (fun _ _ h => h)
  refine ⟨v8, G', F', rfl, ⟨(hi.up hb8).keep h9 (fun b hb => hblk b ?_ ?_), ?_, fun b hb => ⟨fun hg => ?_, fun hf => ?_⟩⟩, fun b hb => (hG b hb).imp id (fun h => by omega), fun b hb => (hF b hb).imp id (fun h => by omega), hk9 (hkw.trans (Keep.of_below (F := fun _ => False) hb8) (fun _ _ h => h.elim))⟩
  · have := (hGo b hb).2; omega
  · have := (hGo b hb).2; omega
  · exact OwnR.down (ho.keepB fun b hb => hblk b (by have := hown b hb; omega) (by have := hown b hb; omega)) (Nat.zero_le _)
  · have := hown b hb; have := (hGo b (.inl hg)).1; omega
  · have := hown b hb; have := (hGo b (.inr hf)).1; omega
/-- the document's row has grown, and stands in the state's box -/
def AppMid (w6 : World) (bs : Nat) (L : List (Option Ev)) (wc : World) : Prop := ∃ A c W8, OwnR W8 w6.heap.size (.slice A L.length c) L ∧ RowKit.Below w6.heap.size w6 W8 ∧ wc = W8.setCell ⟨bs, 0, none⟩ (.slice A L.length c)
/-- done's boxes: the state, the deed, the result -/
structure DnBox (W : World) (bs : Nat) (A : Option Addr) (n c lz : Nat) (k : Int) (B : Option Addr) (m d : Nat) (p : List UInt8) (f q : Int) : Prop where
  st : W.heap[bs]? = some (stObj A n c lz)
  dj : W.heap[bs + 1]? = some (djObj k B m d p f q)
  re : W.heap[bs + 1 + 1]? = some (stObj none 0 0 0)
theorem DnBox.keep {W W' : World} {bs : Nat} {A : Option Addr} {n c lz : Nat} {k : Int} {B : Option Addr} {m d : Nat} {p : List UInt8} {f q : Int} (h : DnBox W bs A n c lz k B m d p f q) (hk : ∀ b, bs ≤ b → b < bs + 3 → W'.heap[b]? = W.heap[b]?) : DnBox W' bs A n c lz k B m d p f q :=
  ⟨(hk _ (by omega) (by omega)).trans h.st, (hk _ (by omega) (by omega)).trans h.dj, (hk _ (by omega) (by omega)).trans h.re⟩
theorem DnBox.cells {W : World} {bs : Nat} {A : Option Addr} {n c lz : Nat} {k : Int} {B : Option Addr} {m d : Nat} {p : List UInt8} {f q : Int} (h : DnBox W bs A n c lz k B m d p f q) :
    W.cell? ⟨bs, 0, none⟩ = some (.slice A n c) ∧ W.cell? ⟨bs, 1, none⟩ = some (.int .i64 lz) ∧ W.cell? ⟨bs + 1, 1, none⟩ = some (.slice B m d) ∧ W.cell? ⟨bs + 1 + 1, 0, none⟩ = some (.slice none 0 0) ∧ W.cell? ⟨bs + 1 + 1, 1, none⟩ = some (.int .i64 0) ∧ W.frozen? ⟨bs + 1 + 1, 0, none⟩ = false ∧ W.frozen? ⟨bs + 1 + 1, 1, none⟩ = false :=
  ⟨cell_of_row W _ 0 _ _ (0, 0) h.st, cell_of_row W _ 1 _ _ (0, 0) h.st, cell_of_row W _ 1 _ _ (0, 0) h.dj, cell_of_row W _ 0 _ _ (0, 0) h.re, cell_of_row W _ 1 _ _ (0, 0) h.re, frozen_of_row W _ 0 _ _ h.re, frozen_of_row W _ 1 _ _ h.re⟩
theorem DnBox.new (w : World) (A : Option Addr) (n c lz : Nat) (k : Int) (B : Option Addr) (m d : Nat) (p : List UInt8) (f q : Int) : DnBox (((w.alloc (stObj A n c lz)).alloc (djObj k B m d p f q)).alloc (stObj none 0 0 0)) w.heap.size A n c lz k B m d p f q := by
  refine ⟨?_, ?_, ?_⟩
  · exact (heap_alloc_old _ _ (by simp; omega)).trans ((heap_alloc_old _ _ (by simp)).trans (heap_alloc_new w _))
  · have := heap_alloc_new (w.alloc (stObj A n c lz)) (djObj k B m d p f q)
    exact (heap_alloc_old _ _ (by simp)).trans (by simpa using this)
  · have := heap_alloc_new ((w.alloc (stObj A n c lz)).alloc (djObj k B m d p f q)) (stObj none 0 0 0)
    simpa using this
theorem entCells_ones (l : List (Option Ev)) : ∀ u ∈ entCells l, u.oneCell' = true := fun u hu => by
  unfold entCells at hu
  obtain ⟨x, _, hx⟩ := List.mem_flatMap.1 hu
  rw [entC_eq] at hx
  rcases List.mem_append.1 hx with hx | hx
  · exact cells_one _ u hx
  · simp at hx; subst hx; rfl
end Go.Proofs.YtejjfhhppjdcaaaGreatDoor
