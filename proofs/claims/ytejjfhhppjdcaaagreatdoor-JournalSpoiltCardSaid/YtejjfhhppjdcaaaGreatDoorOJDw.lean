/-
  Layer 5: done: Sync.
  Layer 5: done's boxes; what an Append leaves.
  Layer 5: done's Rewrite: the document's row is gone through.
-/
import Derived.Test.YtejjfhhppjdcaaaGreatDoorOJAsk
import Derived.Test.YtejjfhhppjdcaaaGreatDoorOJlLd0
import Derived.Deep.RegionHeld3
import Derived.Test.YtejjfhhppjdcaaaGreatDoorOJLives
import Derived.Test.YtejjfhhppjdcaaaGreatDoorOStepApp
import Derived.Test.YtejjfhhppjdcaaaGreatDoorOPerAsk
namespace Go.Proofs.YtejjfhhppjdcaaaGreatDoor
open Go.RowKit Go.Maps Go.Sort

/-- a journal, and the document's entries beside it -/
structure DoneSt (w : World) (G F : Nat → Prop) (bj bd : Nat) (v : Value) (j : Jl) : Prop where
  jl : JlIn w G F bj bd j
  row : OwnR w 0 v j.es
  ap : ∀ b, v.ownBlock = some b → ¬ G b ∧ ¬ F b
def DonePost (w : World) (G F : Nat → Prop) (bj bd : Nat) (j' : Jl) (e : Ending) (w' : World) : Prop :=
  ∃ v' G' F', e = .returned (.tuple #[.agg #[v', .int .i64 j'.lasts], .bool true]) ∧ DoneSt w' G' F' bj bd v' j' ∧ (∀ b, G' b → G b ∨ w.heap.size ≤ b) ∧ (∀ b, F' b → F b ∨ w.heap.size ≤ b) ∧ Keep (fun b => G b ∨ F b) w w'
theorem OwnR.keepB {w w' : World} {base : Nat} {v : Value} {l : List (Option Ev)} (h : OwnR w base v l) (hb : ∀ b, v.ownBlock = some b → w'.heap[b]? = w.heap[b]?) : OwnR w' base v l := by
  refine ⟨h.1, ?_⟩
  rcases h.2 with ⟨e, hl⟩ | ⟨g, cap, cur, e, hb', hg, hr⟩
  · exact .inl ⟨e, hl⟩
  · exact .inr ⟨g, cap, cur, e, hb', (hb g (by rw [e]; rfl)).trans hg, hr⟩
/-- the journal's deed is done, and the document's state lies in the result's box -/
theorem DoneSt.fin {w w3 w' w5 : World} {G F : Nat → Prop} {bj bd : Nat} {v : Value} {j j' : Jl} (h : DoneSt w G F bj bd v j) (hb3 : RowKit.Below w.heap.size w w3) (hjd : JlD w3 G F bj bd j' w') (hes : j'.es = j.es)
    (h5 : w'.heap.size ≤ w5.heap.size) (hblk : ∀ b, (b < w.heap.size ∨ w3.heap.size ≤ b) → w5.heap[b]? = w'.heap[b]?) (hk5 : Keep (fun b => G b ∨ F b) w w' → Keep (fun b => G b ∨ F b) w w5) :
    DonePost w G F bj bd j' (.returned (.tuple #[.agg #[v, .int .i64 j'.lasts], .bool true])) w5 := by
  obtain ⟨G', F', hi, hG, hF, hk⟩ := hjd
  have hsz := hk.size
  have hs3 := hb3.size
  have hlt := h.jl.lt
  have hown : ∀ b, v.ownBlock = some b → b < w.heap.size := fun b hb => (World.ownsRow.lt h.row b hb).2
  have hkw : Keep (fun b => G b ∨ F b) w w' := (Keep.of_below (F := fun b => G b ∨ F b) hb3).trans hk (fun _ _ h => h)
  refine ⟨v, G', F', rfl, ⟨hi.keep h5 (fun b hb => hblk b ?_), ?_, fun b hb => ⟨fun hg => ?_, fun hf => ?_⟩⟩, fun b hb => (hG b hb).imp id (fun h => by omega), fun b hb => (hF b hb).imp id (fun h => by omega), hk5 hkw⟩
  · rcases hb with hb | hb
    · exact (hG b hb).imp (fun h => hlt b (.inl h)) id
    · exact (hF b hb).imp (fun h => hlt b (.inr h)) id
  · rw [hes]
    exact h.row.keepB fun b hb => (hblk b (.inl (hown b hb))).trans (hkw.block b (hown b hb) (fun hgf => hgf.elim (h.ap b hb).1 (h.ap b hb).2))
  · rcases hG b hg with h1 | h1
    · exact (h.ap b hb).1 h1
    · have := hown b hb; omega
  · rcases hF b hf with h1 | h1
    · exact (h.ap b hb).2 h1
    · have := hown b hb; omega
abbrev djObj (k : Int) (A : Option Addr) (n c : Nat) (p : List UInt8) (f m : Int) : Obj := .cells #[.int .u8 k, .slice A n c, .string ⟨p.toArray⟩, .int .i64 f, .int .i64 m] 61
set_option maxRecDepth 100000 in
set_option maxHeartbeats 4000000 in
theorem jdone_sync (w : World) (G F : Nat → Prop) (bj bd : Nat) (v : Value) (j : Jl) (h : DoneSt w G F bj bd v j) (hfl : j.files ≤ 99) (he : j.syncAE = 0) (hes : j.syncA.es = j.es) (hla : j.syncA.lasts = j.es.length) (per : Int) (A : Option Addr) (n c : Nat) (p : List UInt8) (f m : Int) :
    Calls Tryz.prog 83 #[.pointer (some ⟨bj, 0, none⟩), .agg #[v, .int .i64 j.lasts], .int .i64 per, .agg #[.int .u8 2, .slice A n c, .string ⟨p.toArray⟩, .int .i64 f, .int .i64 m]] w (DonePost w G F bj bd j.syncA) := by
  obtain ⟨Av, cv, hv⟩ := ownsRow_form h.row
  have HS := Lib.hid h
  subst hv
  obtain ⟨z, hz⟩ : ∃ z, z = j.es.length := ⟨_, rfl⟩
  rw [← hz]
  have HZ := Lib.hid hz
  clear hz
  go_enter Tryz.func83, Tryz.ntmps83
  go_upto_region 15 with fail
  obtain ⟨w3, hw3⟩ : ∃ w3, w3 = (((w.alloc (.cells #[.slice Av z cv, .int .i64 (z : Int)] 55)).alloc (djObj 2 A n c p f m)).alloc (.cells #[.slice none 0 0, .int .i64 0] 55)) := ⟨_, rfl⟩
  rw [← hw3]
  have hs3 : w3.heap.size = w.heap.size + 3 := by rw [hw3]; simp
  have hb3 : RowKit.Below w.heap.size w w3 := by rw [hw3]; exact (((Below.refl _ _).alloc (Nat.le_refl _) _).alloc (by simp) _).alloc (by simp; omega) _
  have g5 : w3.heap[w.heap.size]? = some (.cells #[.slice Av z cv, .int .i64 (z : Int)] 55) := by
    rw [hw3]; exact (heap_alloc_old _ _ (by simp; omega)).trans ((heap_alloc_old _ _ (by simp)).trans (heap_alloc_new w _))
  have g8 : w3.heap[w.heap.size + 1 + 1]? = some (.cells #[.slice none 0 0, .int .i64 0] 55) := by
    rw [hw3]
    have := heap_alloc_new ((w.alloc (.cells #[.slice Av z cv, .int .i64 (z : Int)] 55)).alloc (djObj 2 A n c p f m)) (.cells #[.slice none 0 0, .int .i64 0] 55)
    simpa using this
  clear hw3
  have c50 : w3.cell? ⟨w.heap.size, 0, none⟩ = some (.slice Av z cv) := cell_of_row w3 _ 0 _ _ (0, 0) g5
  have c51 : w3.cell? ⟨w.heap.size, 1, none⟩ = some (.int .i64 (z : Int)) := cell_of_row w3 _ 1 _ _ (0, 0) g5
  have hap := HS.out.ap
  have hlt := HS.out.jl.lt
  have HSY := Lib.hid (show Calls Tryz.prog 35 #[.pointer (some ⟨bj, 0, none⟩)] w3.drew fun r w' => r = .returned (.int .i64 0) ∧ JlD w3.drew G F bj bd j.syncA w' from by
    have := jlsyncA_any w3.drew G F bj bd j (HS.out.jl.up (below_drewN hb3 1)) hfl
    rw [he] at this; exact this)
  have HKB := Lib.hid (show ∀ w', Keep (fun b => G b ∨ F b) w3.drew w' → ∀ b, w.heap.size ≤ b → b < w3.heap.size → w'.heap[b]? = w3.heap[b]? from fun w' hk b h1 h2 => hk.block b h2 (fun hg => by have := hlt b hg; omega))
  have HFIN := Lib.hid (show ∀ w', JlD w3.drew G F bj bd j.syncA w' → DonePost w G F bj bd j.syncA (.returned (.tuple #[.agg #[.slice Av z cv, .int .i64 (z : Int)], .bool true])) ((w'.setCell ⟨w.heap.size + 1 + 1, 0, none⟩ (.slice Av z cv)).setCell ⟨w.heap.size + 1 + 1, 1, none⟩ (.int .i64 (z : Int))) from fun w' hjd => by
    have := HS.out.fin (below_drewN hb3 1) hjd hes (w5 := (w'.setCell ⟨w.heap.size + 1 + 1, 0, none⟩ (.slice Av z cv)).setCell ⟨w.heap.size + 1 + 1, 1, none⟩ (.int .i64 (z : Int))) (by simp [World.setCell]) (fun b hb => by
      have hne : b ≠ w.heap.size + 1 + 1 := by rcases hb with hb | hb; omega; (have : (w3.drewN 1).heap.size = w3.heap.size := rfl; omega)
      exact (Below.heap_setCell _ ⟨w.heap.size + 1 + 1, 1, none⟩ _ b hne).trans (Below.heap_setCell _ ⟨w.heap.size + 1 + 1, 0, none⟩ _ b hne)) (fun hk => (hk.setCell (p := ⟨w.heap.size + 1 + 1, 0, none⟩) (fun h => by simp at h; omega) _).setCell (p := ⟨w.heap.size + 1 + 1, 1, none⟩) (fun h => by simp at h; omega) _)
    rw [hla, ← HZ.out] at this
    exact this)
  have H5 := Lib.hid g5; have H8 := Lib.hid g8
  clear h hap hlt g5 g8 hb3
  have HST3 := Lib.hid (show ∀ w2 : World, (w2.cell? ⟨w.heap.size, 0, none⟩ = some (.slice Av z cv) ∧ w2.cell? ⟨w.heap.size, 1, none⟩ = some (.int .i64 (z : Int))) → (((w2.setCell ⟨w.heap.size + 1 + 1, 0, none⟩ (.slice Av z cv)).setCell ⟨w.heap.size + 1 + 1, 1, none⟩ (.int .i64 (z : Int))).cell? ⟨w.heap.size, 0, none⟩ = some (.slice Av z cv) ∧ ((w2.setCell ⟨w.heap.size + 1 + 1, 0, none⟩ (.slice Av z cv)).setCell ⟨w.heap.size + 1 + 1, 1, none⟩ (.int .i64 (z : Int))).cell? ⟨w.heap.size, 1, none⟩ = some (.int .i64 (z : Int))) from fun w2 hS2 => by
    have hx := (Below.heap_setCell (w2.setCell ⟨w.heap.size + 1 + 1, 0, none⟩ (.slice Av z cv)) ⟨w.heap.size + 1 + 1, 1, none⟩ (.int .i64 (z : Int)) w.heap.size (by show w.heap.size ≠ w.heap.size + 1 + 1; omega)).trans (Below.heap_setCell w2 ⟨w.heap.size + 1 + 1, 0, none⟩ (.slice Av z cv) w.heap.size (by show w.heap.size ≠ w.heap.size + 1 + 1; omega))
    exact ⟨(World.cell?_of_block (w := w2) (a := ⟨w.heap.size, 0, none⟩) hx).trans hS2.1, (World.cell?_of_block (w := w2) (a := ⟨w.heap.size, 1, none⟩) hx).trans hS2.2⟩)
  go_region_held3 (fun wx => wx.cell? ⟨w.heap.size, 0, none⟩ = some (.slice Av z cv) ∧ wx.cell? ⟨w.heap.size, 1, none⟩ = some (.int .i64 (z : Int))) (first | assumption | go_keep) (first
    | (go_at_call 35; (with_reducible refine HSY.out.mono ?_); rintro r9 w2 ⟨rfl, hjd⟩;
        have hk5 := HKB.out w2 hjd.choose_spec.choose_spec.2.2.2 w.heap.size (Nat.le_refl _) (by omega);
        have hk8 := HKB.out w2 hjd.choose_spec.choose_spec.2.2.2 (w.heap.size + 1 + 1) (by omega) (by omega);
        rw [H5.out] at hk5; rw [H8.out] at hk8;
        have hS2 : w2.cell? ⟨w.heap.size, 0, none⟩ = some (.slice Av z cv) ∧ w2.cell? ⟨w.heap.size, 1, none⟩ = some (.int .i64 (z : Int)) := ⟨cell_of_row w2 _ 0 _ _ (0, 0) hk5, cell_of_row w2 _ 1 _ _ (0, 0) hk5⟩;
        have x80 : w2.cell? ⟨w.heap.size + 1 + 1, 0, none⟩ = some (.slice none 0 0) := cell_of_row w2 _ 0 _ _ (0, 0) hk8;
        have x81 : w2.cell? ⟨w.heap.size + 1 + 1, 1, none⟩ = some (.int .i64 0) := cell_of_row w2 _ 1 _ _ (0, 0) hk8;
        have z80 : w2.frozen? ⟨w.heap.size + 1 + 1, 0, none⟩ = false := frozen_of_row w2 _ 0 _ _ hk8;
        have z81 : w2.frozen? ⟨w.heap.size + 1 + 1, 1, none⟩ = false := frozen_of_row w2 _ 1 _ _ hk8;
        have hS3 := HST3.out w2 hS2;
        have HJD := Lib.hid hjd; have H8W := Lib.hid hk8; clear hjd hk5 hk8))
  have r80 : ((w2.setCell ⟨w.heap.size + 1 + 1, 0, none⟩ (.slice Av z cv)).setCell ⟨w.heap.size + 1 + 1, 1, none⟩ (.int .i64 (z : Int))).cell? ⟨w.heap.size + 1 + 1, 0, none⟩ = some (.slice Av z cv) := by
    exact cell_of_row _ _ 0 _ _ (0, 0) (heap_set_row (heap_set_row H8W.out))
  have r81 : ((w2.setCell ⟨w.heap.size + 1 + 1, 0, none⟩ (.slice Av z cv)).setCell ⟨w.heap.size + 1 + 1, 1, none⟩ (.int .i64 (z : Int))).cell? ⟨w.heap.size + 1 + 1, 1, none⟩ = some (.int .i64 (z : Int)) := by
    exact cell_of_row _ _ 1 _ _ (0, 0) (heap_set_row (heap_set_row H8W.out))
  have HR := Lib.hid (HFIN.out w2 HJD.out)
  clear hS2 hS3 x80 x81 z80 z81 c50 c51
  generalize (w2.setCell ⟨w.heap.size + 1 + 1, 0, none⟩ (.slice Av z cv)).setCell ⟨w.heap.size + 1 + 1, 1, none⟩ (.int .i64 (z : Int)) = w5 at *
  go_wp2
  exact bodyPost_ret (v := .tuple #[.agg #[.slice Av z cv, .int .i64 (z : Int)], .bool true]) (by simp [results, Tryz.results83, go_sem, r80, r81]) rfl HR.out
end Go.Proofs.YtejjfhhppjdcaaaGreatDoor
namespace Go.Proofs.YtejjfhhppjdcaaaGreatDoor
open Go.RowKit Go.Maps Go.Sort

theorem OwnR.down {w : World} {base base' : Nat} {v : Value} {l : List (Option Ev)} (h : OwnR w base v l) (hb : base' ≤ base) : OwnR w base' v l := by
  refine ⟨h.1, ?_⟩
  rcases h.2 with ⟨e, hl⟩ | ⟨g, cap, cur, e, hb', hg, hr⟩
  · exact .inl ⟨e, hl⟩
  · exact .inr ⟨g, cap, cur, e, Nat.le_trans hb hb', hg, hr⟩
theorem OwnRz.up {w w' : World} {base z : Nat} {v : Value} {xs : List Value} (h : w.ownsRow base 72 9 v z xs) (hb : RowKit.Below w.heap.size w w') : w'.ownsRow base 72 9 v z xs := by
  refine ⟨h.1, ?_⟩
  have hl := World.ownsRow.lt h
  rcases h.2 with ⟨e, hl⟩ | ⟨g, cap, cur, e, hb', hg, hr⟩
  · exact .inl ⟨e, hl⟩
  · exact .inr ⟨g, cap, cur, e, hb', (hb.block g (hl g (by rw [e]; rfl)).2).trans hg, hr⟩
/-- a deed is done, and the document's state is a new row in the result's box -/
theorem DoneSt.finA {w w3 w5 w8 w9 : World} {G F : Nat → Prop} {bj bd base bs b8 : Nat} {v v8 : Value} {j j' : Jl} (h : DoneSt w G F bj bd v j) (hb3 : RowKit.Below w.heap.size w w3) (hjd : JlD w3 G F bj bd j' w5) (hb8 : RowKit.Below w5.heap.size w5 w8)
    (ho : OwnR w8 base v8 j'.es) (hbase : w5.heap.size ≤ base) (h1 : w.heap.size ≤ bs ∧ bs < w3.heap.size) (h2 : w.heap.size ≤ b8 ∧ b8 < w3.heap.size)
    (h9 : w8.heap.size ≤ w9.heap.size) (hblk : ∀ b, b ≠ bs → b ≠ b8 → w9.heap[b]? = w8.heap[b]?) (hk9 : Keep (fun b => G b ∨ F b) w w8 → Keep (fun b => G b ∨ F b) w w9) :
    DonePost w G F bj bd j' (.returned (.tuple #[.agg #[v8, .int .i64 j'.lasts], .bool true])) w9 := by
  obtain ⟨G', F', hi, hG, hF, hk⟩ := hjd
  have hsz := hk.size
  have hs3 := hb3.size
  have hs8 := hb8.size
  have hlt := h.jl.lt
  have hGo : ∀ b, G' b ∨ F' b → b < w5.heap.size ∧ (b < w.heap.size ∨ w3.heap.size ≤ b) := fun b hb => ⟨hi.lt b hb, by
    rcases hb with hb | hb
    · exact (hG b hb).imp (fun h => hlt b (.inl h)) id
    · exact (hF b hb).imp (fun h => hlt b (.inr h)) id⟩
  have hown : ∀ b, v8.ownBlock = some b → w5.heap.size ≤ b := fun b hb => Nat.le_trans hbase (World.ownsRow.lt ho b hb).1
  have hkw : Keep (fun b => G b ∨ F b) w w5 := (Keep.of_below (F := fun b => G b ∨ F b) hb3).trans hk (fun _ _ h => h)
  refine ⟨v8, G', F', rfl, ⟨(hi.up hb8).keep h9 (fun b hb => hblk b ?_ ?_), ?_, fun b hb => ⟨fun hg => ?_, fun hf => ?_⟩⟩, fun b hb => (hG b hb).imp id (fun h => by omega), fun b hb => (hF b hb).imp id (fun h => by omega), hk9 (hkw.trans (Keep.of_below (F := fun _ => False) hb8) (fun _ _ h => h.elim))⟩
  · have := (hGo b hb).2; omega
  · have := (hGo b hb).2; omega
  · exact OwnR.down (ho.keepB fun b hb => hblk b (by have := hown b hb; omega) (by have := hown b hb; omega)) (Nat.zero_le _)
  · have := hown b hb; have := (hGo b (.inl hg)).1; omega
  · have := hown b hb; have := (hGo b (.inr hf)).1; omega
/-- the document's row has grown, and stands in the state's box -/
def AppMid (w6 : World) (bs : Nat) (L : List (Option Ev)) (wc : World) : Prop := ∃ A c W8, OwnR W8 w6.heap.size (.slice A L.length c) L ∧ RowKit.Below w6.heap.size w6 W8 ∧ wc = W8.setCell ⟨bs, 0, none⟩ (.slice A L.length c)
/-- done's boxes: the state, the deed, the result -/
structure DnBox (W : World) (bs : Nat) (A : Option Addr) (n c lz : Nat) (k : Int) (B : Option Addr) (m d : Nat) (p : List UInt8) (f q : Int) : Prop where
  st : W.heap[bs]? = some (stObj A n c lz)
  dj : W.heap[bs + 1]? = some (djObj k B m d p f q)
  re : W.heap[bs + 1 + 1]? = some (stObj none 0 0 0)
theorem DnBox.keep {W W' : World} {bs : Nat} {A : Option Addr} {n c lz : Nat} {k : Int} {B : Option Addr} {m d : Nat} {p : List UInt8} {f q : Int} (h : DnBox W bs A n c lz k B m d p f q) (hk : ∀ b, bs ≤ b → b < bs + 3 → W'.heap[b]? = W.heap[b]?) : DnBox W' bs A n c lz k B m d p f q :=
  ⟨(hk _ (by omega) (by omega)).trans h.st, (hk _ (by omega) (by omega)).trans h.dj, (hk _ (by omega) (by omega)).trans h.re⟩
theorem DnBox.cells {W : World} {bs : Nat} {A : Option Addr} {n c lz : Nat} {k : Int} {B : Option Addr} {m d : Nat} {p : List UInt8} {f q : Int} (h : DnBox W bs A n c lz k B m d p f q) :
    W.cell? ⟨bs, 0, none⟩ = some (.slice A n c) ∧ W.cell? ⟨bs, 1, none⟩ = some (.int .i64 lz) ∧ W.cell? ⟨bs + 1, 1, none⟩ = some (.slice B m d) ∧ W.cell? ⟨bs + 1 + 1, 0, none⟩ = some (.slice none 0 0) ∧ W.cell? ⟨bs + 1 + 1, 1, none⟩ = some (.int .i64 0) ∧ W.frozen? ⟨bs + 1 + 1, 0, none⟩ = false ∧ W.frozen? ⟨bs + 1 + 1, 1, none⟩ = false :=
  ⟨cell_of_row W _ 0 _ _ (0, 0) h.st, cell_of_row W _ 1 _ _ (0, 0) h.st, cell_of_row W _ 1 _ _ (0, 0) h.dj, cell_of_row W _ 0 _ _ (0, 0) h.re, cell_of_row W _ 1 _ _ (0, 0) h.re, frozen_of_row W _ 0 _ _ h.re, frozen_of_row W _ 1 _ _ h.re⟩
theorem DnBox.new (w : World) (A : Option Addr) (n c lz : Nat) (k : Int) (B : Option Addr) (m d : Nat) (p : List UInt8) (f q : Int) : DnBox (((w.alloc (stObj A n c lz)).alloc (djObj k B m d p f q)).alloc (stObj none 0 0 0)) w.heap.size A n c lz k B m d p f q := by
  refine ⟨?_, ?_, ?_⟩
  · exact (heap_alloc_old _ _ (by simp; omega)).trans ((heap_alloc_old _ _ (by simp)).trans (heap_alloc_new w _))
  · have := heap_alloc_new (w.alloc (stObj A n c lz)) (djObj k B m d p f q)
    exact (heap_alloc_old _ _ (by simp)).trans (by simpa using this)
  · have := heap_alloc_new ((w.alloc (stObj A n c lz)).alloc (djObj k B m d p f q)) (stObj none 0 0 0)
    simpa using this
theorem entCells_ones (l : List (Option Ev)) : ∀ u ∈ entCells l, u.oneCell' = true := fun u hu => by
  unfold entCells at hu
  obtain ⟨x, _, hx⟩ := List.mem_flatMap.1 hu
  rw [entC_eq] at hx
  rcases List.mem_append.1 hx with hx | hx
  · exact cells_one _ u hx
  · simp at hx; subst hx; rfl
end Go.Proofs.YtejjfhhppjdcaaaGreatDoor
namespace Go.Proofs.YtejjfhhppjdcaaaGreatDoor
open Go.RowKit Go.Maps Go.Sort

theorem OwnE.low0 {w : World} {base : Nat} {v : Value} {l : List Ev} (h : OwnE w base v l) : OwnE w 0 v l := by
  refine ⟨h.1, ?_⟩
  rcases h.2 with ⟨e, hl⟩ | ⟨g, cap, cur, e, hb', hg, hr⟩
  · exact .inl ⟨e, hl⟩
  · exact .inr ⟨g, cap, cur, e, Nat.zero_le _, hg, hr⟩
/-- how many last, k entries having been gone through -/
def lasK (kb : Ev → Bool) (z a lz : Nat) (es : List (Option Ev)) (k : Nat) : Nat := if cntE kb ((es.take k).drop a) ≠ 0 then z else lz
theorem lasK_zero (kb : Ev → Bool) (z a lz : Nat) (es : List (Option Ev)) : lasK kb z a lz es 0 = lz := by simp [lasK, cntE]
theorem lasK_le {kb : Ev → Bool} {z a lz : Nat} {es : List (Option Ev)} {k : Nat} (h : lz ≤ z) : lasK kb z a lz es k ≤ z := by
  unfold lasK; split
  · exact Nat.le_refl _
  · exact h
theorem lasK_succ (kb : Ev → Bool) (z a lz : Nat) (es : List (Option Ev)) (k : Nat) (hk : k < es.length) : lasK kb z a lz es (k + 1) = if a ≤ k ∧ goesB kb es[k] = true then z else lasK kb z a lz es k := by
  unfold lasK
  have ht : es.take (k + 1) = es.take k ++ [es[k]] := by rw [List.take_add_one, List.getElem?_eq_getElem hk, Option.toList_some]
  have hl : (es.take k).length = k := by rw [List.length_take]; omega
  by_cases ha : a ≤ k
  · rw [ht, List.drop_append_of_le_length (by omega), cntE_snoc]
    cases hg : goesB kb es[k]
    · simp
    · rw [if_pos (by simp), if_pos ⟨ha, rfl⟩]
  · rw [List.drop_eq_nil_of_le (by rw [List.length_take]; omega), if_neg (show ¬ (a ≤ k ∧ _) from fun h => ha h.1), List.drop_eq_nil_of_le (by omega)]
theorem same_seg {k z pr : Nat} (hk : k < z) (hp : 1 ≤ pr) : k / pr = (z - 1) / pr ↔ autoN z pr ≤ k := by
  unfold autoN
  rw [if_neg (by omega)]
  constructor
  · intro h; rw [← h]; exact Nat.div_mul_le_self _ _
  · intro h
    have h1 : (z - 1) / pr ≤ k / pr := (Nat.le_div_iff_mul_le (by omega)).2 h
    have h2 : k / pr ≤ (z - 1) / pr := Nat.div_le_div_right (by omega)
    omega
/-- the document's new row (v14), what it wants asked (v16), the state's box (at s); w4 is the world ahead of the loop -/
structure DwS (w4 : World) (s : Nat) (A : Option Addr) (z c las : Nat) (L : List (Option Ev)) (X : List Ev) (v14 v16 : Value) (W : World) : Prop where
  e : OwnR W (s + 3) v14 L
  x : OwnE W (s + 5) v16 X
  b14 : ∀ b, v14.ownBlock = some b → b = s + 3 ∨ s + 7 ≤ b
  b16 : ∀ b, v16.ownBlock = some b → b = s + 5 ∨ s + 7 ≤ b
  st : W.heap[s]? = some (stObj A z c las)
  kp : Keep (fun b => b = s ∨ b = s + 3 ∨ b = s + 5) w4 W
  w4s : w4.heap.size = s + 7
section
variable {w4 W W' : World} {s z c las : Nat} {A : Option Addr} {L : List (Option Ev)} {X : List Ev} {v14 v16 : Value}
theorem DwS.size (h : DwS w4 s A z c las L X v14 v16 W) : s + 7 ≤ W.heap.size := by have := h.kp.size; rw [h.w4s] at this; exact this
theorem DwS.n14 (h : DwS w4 s A z c las L X v14 v16 W) : ∀ b, v14.ownBlock = some b → b < W.heap.size ∧ b ≠ s := fun b hb => ⟨(World.ownsRow.lt h.e b hb).2, by have := (World.ownsRow.lt h.e b hb).1; omega⟩
theorem DwS.n16 (h : DwS w4 s A z c las L X v14 v16 W) : ∀ b, v16.ownBlock = some b → b < W.heap.size ∧ b ≠ s := fun b hb => ⟨(World.ownsRow.lt h.x b hb).2, by have := (World.ownsRow.lt h.x b hb).1; omega⟩
theorem DwS.up (h : DwS w4 s A z c las L X v14 v16 W) (hb : RowKit.Below W.heap.size W W') : DwS w4 s A z c las L X v14 v16 W' :=
  ⟨h.e.keepB fun b hb' => hb.block b (h.n14 b hb').1, h.x.keepB fun b hb' => hb.block b (h.n16 b hb').1, h.b14, h.b16, (hb.block s (by have := h.size; omega)).trans h.st, h.kp.trans (Keep.of_below (F := fun _ => False) hb) (fun _ _ h => h.elim), h.w4s⟩
/-- the entry's box is written -/
theorem DwS.box (h : DwS w4 s A z c las L X v14 v16 W) {p : Addr} (hp : s + 7 ≤ p.block) (h14 : v14.ownBlock ≠ some p.block) (h16 : v16.ownBlock ≠ some p.block) (u : Value) : DwS w4 s A z c las L X v14 v16 (W.setCell p u) :=
  ⟨h.e.keepB fun b hb => Below.heap_setCell _ _ _ b (fun e => h14 (by rw [← e]; exact hb)), h.x.keepB fun b hb => Below.heap_setCell _ _ _ b (fun e => h16 (by rw [← e]; exact hb)), h.b14, h.b16,
    (Below.heap_setCell _ _ _ s (by omega)).trans h.st, h.kp.setCell (fun hl => by rw [h.w4s] at hl; omega) u, h.w4s⟩
/-- how many last is written -/
theorem DwS.lasts (h : DwS w4 s A z c las L X v14 v16 W) (l' : Nat) : DwS w4 s A z c l' L X v14 v16 (W.setCell ⟨s, 1, none⟩ (.int .i64 (l' : Int))) :=
  ⟨h.e.keepB fun b hb => Below.heap_setCell _ _ _ b (h.n14 b hb).2, h.x.keepB fun b hb => Below.heap_setCell _ _ _ b (h.n16 b hb).2, h.b14, h.b16, heap_set_row h.st, h.kp.setCell (fun _ => .inl rfl) _, h.w4s⟩
theorem DwS.app14 (h : DwS w4 s A z c las L X v14 v16 W) {x : Option Ev} {v' : Value} {n : Nat} (hn : n = (L ++ [x]).length) (ho : W'.ownsRow (s + 3) 72 9 v' n (entCells L ++ entC x)) (hg : W.grownBy W' v14.ownBlock) (hv : v'.ownBlock = v14.ownBlock ∨ v'.ownBlock = some W.heap.size) : DwS w4 s A z c las (L ++ [x]) X v' v16 W' := by
  have hsz := h.size
  refine ⟨by unfold OwnR; rw [entCells_one, ← hn]; exact ho, World.ownsRow.kept h.x hg (ownsRow_apart h.x h.e (by decide)), fun b hb => ?_, h.b16, ?_, h.kp.trans (Keep.of_grown (F := fun b => b = s + 3 ∨ s + 7 ≤ b) hg (fun k e => h.b14 k e)) (fun b hb hb' => ?_), h.w4s⟩
  · rcases hv with h1 | h1
    · exact h.b14 b (h1 ▸ hb)
    · rw [h1] at hb; injection hb with hb; omega
  · exact (hg.block s (by omega) (fun e => (h.n14 s e.symm).2 rfl)).trans h.st
  · rw [h.w4s] at hb; omega
theorem DwS.app16 (h : DwS w4 s A z c las L X v14 v16 W) {x : Ev} {v' : Value} {n : Nat} (hn : n = (X ++ [x]).length) (ho : W'.ownsRow (s + 5) 36 8 v' n (evCells X ++ x.cells)) (hg : W.grownBy W' v16.ownBlock) (hv : v'.ownBlock = v16.ownBlock ∨ v'.ownBlock = some W.heap.size) : DwS w4 s A z c las L (X ++ [x]) v14 v' W' := by
  have hsz := h.size
  refine ⟨World.ownsRow.kept h.e hg (ownsRow_apart h.e h.x (by decide)), by unfold OwnE; rw [evCells_one, ← hn]; exact ho, h.b14, fun b hb => ?_, ?_, h.kp.trans (Keep.of_grown (F := fun b => b = s + 5 ∨ s + 7 ≤ b) hg (fun k e => h.b16 k e)) (fun b hb hb' => ?_), h.w4s⟩
  · rcases hv with h1 | h1
    · exact h.b16 b (h1 ▸ hb)
    · rw [h1] at hb; injection hb with hb; omega
  · exact (hg.block s (by omega) (fun e => (h.n16 s e.symm).2 rfl)).trans h.st
  · rw [h.w4s] at hb; omega
end
def DwRel (w4 : World) (s : Nat) (A : Option Addr) (z c a lz : Nat) (kb : Ev → Bool) (es : List (Option Ev)) (v14 v16 n i : Value) (W : World) : Prop :=
  ∃ k : Nat, i = .int .i64 k ∧ k ≤ z ∧ n = .int .i64 (cntE kb (es.take k) : Nat) ∧ DwS w4 s A z c (lasK kb z a lz es k) ((es.take k).map (erE kb)) (rdEv (es.take k)) v14 v16 W
theorem DwRel.next {w4 W : World} {s z c a lz k m las : Nat} {A : Option Addr} {kb : Ev → Bool} {es : List (Option Ev)} {v14 v16 : Value} {x : Option Ev} {X : List Ev} {y : Option Ev} (hk : k < es.length) (hz : es.length = z) (hx : es[k] = x)
    (h : DwS w4 s A z c las ((es.take k).map (erE kb) ++ [y]) X v14 v16 W) (hy : y = erE kb x) (hX : X = rdEv (es.take k) ++ x.toList) (hm : m = cntE kb (es.take k) + if goesB kb x = true then 1 else 0) (hl : las = if a ≤ k ∧ goesB kb x = true then z else lasK kb z a lz es k) :
    DwRel w4 s A z c a lz kb es v14 v16 (.int .i64 (m : Int)) (.int .i64 ((k : Int) + 1)) W := by
  have ht : es.take (k + 1) = es.take k ++ [x] := by rw [List.take_add_one, List.getElem?_eq_getElem hk, Option.toList_some, hx]
  refine ⟨k + 1, rfl, by omega, ?_, ?_⟩
  · rw [ht, cntE_snoc, hm]
  · rw [lasK_succ _ _ _ _ _ _ hk, hx, ← hl, ht, List.map_append, rdEv_snoc, ← hX, List.map_cons, List.map_nil, ← hy]; exact h
/-- an entry's box is wiped -/
theorem rent_wipe {W : World} {t : Nat} {x : Option Ev} (h : W.heap[t]? = some (rentObj x)) : (((((((((W.setCell ⟨t, 0, none⟩ (.string ⟨#[]⟩)).setCell ⟨t, 1, none⟩ (.int .i64 0)).setCell ⟨t, 2, none⟩ (.int .i64 0)).setCell ⟨t, 3, none⟩ (.int .i64 0)).setCell ⟨t, 4, none⟩ (.string ⟨#[]⟩)).setCell ⟨t, 5, none⟩ (.string ⟨#[]⟩)).setCell ⟨t, 6, none⟩ (.int .i64 0)).setCell ⟨t, 7, none⟩ (.string ⟨#[]⟩)).setCell ⟨t, 8, none⟩ (.bool true)).heap[t]? = some (rentObj none) := by
  have h0 := heap_set_row (o := 0) (u := .string ⟨#[]⟩) h
  have h1 := heap_set_row (o := 1) (u := .int .i64 0) h0
  have h2 := heap_set_row (o := 2) (u := .int .i64 0) h1
  have h3 := heap_set_row (o := 3) (u := .int .i64 0) h2
  have h4 := heap_set_row (o := 4) (u := .string ⟨#[]⟩) h3
  have h5 := heap_set_row (o := 5) (u := .string ⟨#[]⟩) h4
  have h6 := heap_set_row (o := 6) (u := .int .i64 0) h5
  have h7 := heap_set_row (o := 7) (u := .string ⟨#[]⟩) h6
  have h8 := heap_set_row (o := 8) (u := .bool true) h7
  simp only [List.setIfInBounds_toArray, List.set_cons_zero, List.set_cons_succ] at h8
  exact h8
theorem DwS.wipe {w4 W : World} {s z c las t : Nat} {A : Option Addr} {L : List (Option Ev)} {X : List Ev} {v14 v16 : Value} (h : DwS w4 s A z c las L X v14 v16 W) (ht : s + 7 ≤ t) (h14 : v14.ownBlock ≠ some t) (h16 : v16.ownBlock ≠ some t) : DwS w4 s A z c las L X v14 v16 (((((((((W.setCell ⟨t, 0, none⟩ (.string ⟨#[]⟩)).setCell ⟨t, 1, none⟩ (.int .i64 0)).setCell ⟨t, 2, none⟩ (.int .i64 0)).setCell ⟨t, 3, none⟩ (.int .i64 0)).setCell ⟨t, 4, none⟩ (.string ⟨#[]⟩)).setCell ⟨t, 5, none⟩ (.string ⟨#[]⟩)).setCell ⟨t, 6, none⟩ (.int .i64 0)).setCell ⟨t, 7, none⟩ (.string ⟨#[]⟩)).setCell ⟨t, 8, none⟩ (.bool true)) := by
  have key : ∀ {W : World} (o : Nat) (u : Value), DwS w4 s A z c las L X v14 v16 W → DwS w4 s A z c las L X v14 v16 (W.setCell ⟨t, o, none⟩ u) := fun o u h => h.box (p := ⟨t, o, none⟩) ht h14 h16 u
  exact key _ _ (key _ _ (key _ _ (key _ _ (key _ _ (key _ _ (key _ _ (key _ _ (key _ _ (h)))))))))
/-- a Rewrite is done, and the document's new row stands in the result's box -/
theorem finR {w w5 w6 w7 w9 : World} {G F G' F' H : Nat → Prop} {bj bd base b8 : Nat} {v14 : Value} {j' : Jl} (hb5 : RowKit.Below w.heap.size w w5) (hlt : ∀ b, G b ∨ F b → b < w.heap.size) (hjl : JlIn w6 G' F' bj bd j')
    (hG : ∀ b, G' b → G b ∨ w5.heap.size ≤ b) (hF : ∀ b, F' b → F b ∨ w5.heap.size ≤ b) (hH : ∀ b, H b → w.heap.size ≤ b) (hk6 : Keep (fun b => G b ∨ F b ∨ H b) w5 w6) (ho : OwnR w5 base v14 j'.es)
    (hn14 : ∀ b, v14.ownBlock = some b → w.heap.size ≤ b ∧ ¬ H b ∧ b ≠ b8) (hb7 : RowKit.Below w6.heap.size w6 w7) (h8 : w.heap.size ≤ b8 ∧ b8 < w5.heap.size)
    (h9 : w7.heap.size ≤ w9.heap.size) (hblk : ∀ b, b ≠ b8 → w9.heap[b]? = w7.heap[b]?) (hk9 : Keep (fun b => G b ∨ F b) w w7 → Keep (fun b => G b ∨ F b) w w9) :
    DonePost w G F bj bd j' (.returned (.tuple #[.agg #[v14, .int .i64 j'.lasts], .bool true])) w9 := by
  have hs5 := hb5.size
  have hs6 := hk6.size
  have hs7 := hb7.size
  have hno : ∀ b, w.heap.size ≤ b → b < w5.heap.size → ¬ (G' b ∨ F' b) := fun b h1 h2 hb => by
    rcases hb with hb | hb
    · rcases hG b hb with h | h
      · have := hlt b (.inl h); omega
      · omega
    · rcases hF b hb with h | h
      · have := hlt b (.inr h); omega
      · omega
  have hown : ∀ b, v14.ownBlock = some b → b < w5.heap.size := fun b hb => (World.ownsRow.lt ho b hb).2
  have hkw : Keep (fun b => G b ∨ F b) w w6 := (Keep.of_below (F := fun b => G b ∨ F b) hb5).trans hk6 (fun b hb h => by
    rcases h with h | h | h
    · exact .inl h
    · exact .inr h
    · have := hH b h; omega)
  refine ⟨v14, G', F', rfl, ⟨(hjl.up hb7).keep h9 (fun b hb => hblk b (fun e => hno b8 h8.1 h8.2 (e ▸ hb))), ?_, fun b hb => ⟨fun hg => hno b (hn14 b hb).1 (hown b hb) (.inl hg), fun hg => hno b (hn14 b hb).1 (hown b hb) (.inr hg)⟩⟩, fun b hb => (hG b hb).imp id (fun h => by omega), fun b hb => (hF b hb).imp id (fun h => by omega), hk9 (hkw.trans (Keep.of_below (F := fun _ => False) hb7) (fun _ _ h => h.elim))⟩
  refine OwnR.down (ho.keepB fun b hb => (hblk b (hn14 b hb).2.2).trans ((hb7.block b (by have := hown b hb; omega)).trans (hk6.block b (hown b hb) fun h => ?_))) (Nat.zero_le _)
  have h14 := hn14 b hb
  rcases h with h | h | h
  · have := hlt b (.inl h); omega
  · have := hlt b (.inr h); omega
  · exact h14.2.1 h
end Go.Proofs.YtejjfhhppjdcaaaGreatDoor
