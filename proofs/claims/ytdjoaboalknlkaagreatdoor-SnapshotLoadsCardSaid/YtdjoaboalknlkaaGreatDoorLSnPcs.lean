/-
  Plain definitions and facts of layer 3 (frame): sums, frames, what bytes begin with. No program in sight.
  Plain laws of layer 3: a whole frame, a cut one, one with another byte, frames in a row. No program in sight.
  Layer 30, plain: a text in frames.
-/
namespace Frm

def adStep (p : Nat × Nat) (c : UInt8) : Nat × Nat := ((p.1 + c.toNat) % 65521, (p.2 + (p.1 + c.toNat) % 65521) % 65521)
def ad (l : List UInt8) : Nat × Nat := l.foldl adStep (1, 0)
def asum (l : List UInt8) : Nat := (ad l).2 * 65536 + (ad l).1

theorem ad_snoc (l : List UInt8) (c : UInt8) : ad (l ++ [c]) = adStep (ad l) c := by simp [ad, List.foldl_append]
theorem ad_take (l : List UInt8) (k : Nat) (h : k < l.length) : ad (l.take (k + 1)) = adStep (ad (l.take k)) l[k] := by
  rw [List.take_add_one, List.getElem?_eq_getElem h]; exact ad_snoc _ _
theorem ad_lt (l : List UInt8) : (ad l).1 < 65521 ∧ (ad l).2 < 65521 := by
  rcases List.eq_nil_or_concat l with rfl | ⟨l', c, rfl⟩
  · decide
  · rw [List.concat_eq_append, ad_snoc]; constructor <;> exact Nat.mod_lt _ (by decide)
theorem asum_lt (l : List UInt8) : asum l < 4294967296 := by
  have := ad_lt l; unfold asum; omega

def u8 (n : Nat) : UInt8 := UInt8.ofNat n
theorem u8_toNat (n : Nat) : (u8 n).toNat = n % 256 := by simp [u8]
def be3 (n : Nat) : List UInt8 := [u8 (n / 65536), u8 (n / 256), u8 n]
def be4 (n : Nat) : List UInt8 := [u8 (n / 16777216), u8 (n / 65536), u8 (n / 256), u8 n]
def front (p : List UInt8) : List UInt8 := be3 p.length ++ (be3 p.length).map (255 - ·) ++ p
def sealB (p : List UInt8) : List UInt8 := front p ++ be4 (asum (front p))

theorem front_length (p : List UInt8) : (front p).length = p.length + 6 := by simp [front, be3]
theorem sealB_length (p : List UInt8) : (sealB p).length = p.length + 10 := by simp [sealB, front_length, be4]

/-- the size that the first three bytes tell -/
def sz (l : List UInt8) : Nat := (l.getD 0 0).toNat * 65536 + (l.getD 1 0).toNat * 256 + (l.getD 2 0).toNat
def unlikeAt (l : List UInt8) (i : Nat) : Bool := decide (i < l.length) && (l.getD i 0 != 255 - l.getD (i - 3) 0)
def unlike (l : List UInt8) : Bool := unlikeAt l 3 || unlikeAt l 4 || unlikeAt l 5
def long (l : List UInt8) : Bool := decide (3 ≤ l.length) && decide (65536 < sz l)
def there (l : List UInt8) : Bool := decide (6 ≤ l.length) && decide (sz l + 10 ≤ l.length)
def wrong (l : List UInt8) : Bool := there l && ((l.drop (6 + sz l)).take 4 != be4 (asum (l.take (6 + sz l))))
def bad (l : List UInt8) : Bool := unlike l || long l || wrong l
def openB (l : List UInt8) : List UInt8 × Nat × Nat :=
  if bad l then ([], 0, 2) else if there l then ((l.drop 6).take (sz l), 6 + sz l + 4, 0) else ([], 0, 1)

theorem eq_255_sub (a b : UInt8) : a = 255 - b ↔ (a.toNat : Int) = 255 - (b.toNat : Int) := by
  rw [← UInt8.toNat_inj, UInt8.toNat_sub]
  have := a.toNat_lt; have := b.toNat_lt
  have e : (255 : UInt8).toNat = 255 := rfl
  rw [e]
  omega
theorem sub255 (b : UInt8) : (255 - b).toNat = 255 - b.toNat := by
  rw [UInt8.toNat_sub]
  have := b.toNat_lt
  have e : (255 : UInt8).toNat = 255 := rfl
  rw [e]
  omega
theorem unlikeAt_eq (l : List UInt8) (k : Nat) (h : k < l.length) : unlikeAt l k = ((l[k].toNat : Int) != 255 - (l[k - 3].toNat : Int)) := by
  have h3 : k - 3 < l.length := by omega
  have hb := l[k - 3].toNat_lt
  unfold unlikeAt
  simp only [List.getD, List.getElem?_eq_getElem h, List.getElem?_eq_getElem h3, Option.getD_some, h, decide_true, Bool.true_and]
  rw [Bool.eq_iff_iff]
  simp only [bne_iff_ne, ne_eq]
  rw [eq_255_sub]
theorem unlike_of (l : List UInt8) (k : Nat) (h3 : 3 ≤ k) (h6 : k < 6) (h : unlikeAt l k = true) : unlike l = true := by
  unfold unlike
  have : k = 3 ∨ k = 4 ∨ k = 5 := by omega
  rcases this with rfl | rfl | rfl <;> simp [h]
theorem unlikeAt_none (l : List UInt8) (k : Nat) (h : l.length ≤ k) : unlikeAt l k = false := by
  unfold unlikeAt; simp; omega
theorem unlike_not (l : List UInt8) (k : Nat) (h : ∀ j, 3 ≤ j → j < k → unlikeAt l j = false) (hl : l.length ≤ k) : unlike l = false := by
  unfold unlike
  have : ∀ j, 3 ≤ j → unlikeAt l j = false := fun j h3 => if e : j < k then h j h3 e else unlikeAt_none l j (by omega)
  simp [this]
theorem unlike_not6 (l : List UInt8) (k : Nat) (h : ∀ j, 3 ≤ j → j < k → unlikeAt l j = false) (hl : 6 ≤ k) : unlike l = false := by
  unfold unlike
  simp [h 3 (by omega) (by omega), h 4 (by omega) (by omega), h 5 (by omega) (by omega)]
theorem sz_lt (l : List UInt8) : sz l < 16777216 := by
  have h0 := (l.getD 0 0).toNat_lt; have h1 := (l.getD 1 0).toNat_lt; have h2 := (l.getD 2 0).toNat_lt
  unfold sz; omega

theorem openB_le (l : List UInt8) : (openB l).2.1 ≤ l.length := by
  unfold openB; split
  · simp
  · split
    · rename_i h; simp [there] at h; simp; omega
    · simp
theorem openB_pos (l : List UInt8) (h : (openB l).2.2 = 0) : 10 ≤ (openB l).2.1 := by
  unfold openB at *; split at h
  · simp at h
  · split at h
    · rename_i h1 h2; simp [h1, h2]
    · simp at h

/-- the payloads from the front on, with fuel -/
def allF : Nat → List UInt8 → List (List UInt8) × Nat × Nat
  | 0, _ => ([], 0, 0)
  | f + 1, l => if l = [] then ([], 0, 0) else
      if (openB l).2.2 ≠ 0 then ([], 0, (openB l).2.2) else
        let r := allF f (l.drop (openB l).2.1)
        ((openB l).1 :: r.1, (openB l).2.1 + r.2.1, r.2.2)
def allB (l : List UInt8) : List (List UInt8) × Nat × Nat := allF l.length l
theorem allF_succ (f : Nat) (l : List UInt8) : allF (f + 1) l = if l = [] then ([], 0, 0) else
      if (openB l).2.2 ≠ 0 then ([], 0, (openB l).2.2) else
        ((openB l).1 :: (allF f (l.drop (openB l).2.1)).1, (openB l).2.1 + (allF f (l.drop (openB l).2.1)).2.1, (allF f (l.drop (openB l).2.1)).2.2) := rfl

theorem allF_more (f : Nat) : ∀ (l : List UInt8) (g : Nat), l.length ≤ f → l.length ≤ g → allF f l = allF g l := by
  induction f with
  | zero => intro l g h1 h2; have : l = [] := List.eq_nil_of_length_eq_zero (by omega); subst this; cases g <;> simp [allF]
  | succ f ih =>
    intro l g h1 h2
    cases g with
    | zero => have : l = [] := List.eq_nil_of_length_eq_zero (by omega); subst this; simp [allF]
    | succ g =>
      unfold allF
      by_cases hl : l = []
      · simp [hl]
      · simp only [hl, if_false]
        by_cases hs : (openB l).2.2 ≠ 0
        · simp [hs]
        · have h10 := openB_pos l (by omega)
          have hl' := openB_le l
          rw [if_neg hs, if_neg hs, ih (l.drop (openB l).2.1) g (by simp; omega) (by simp; omega)]

theorem allF_le (f : Nat) : ∀ l : List UInt8, (allF f l).2.1 ≤ l.length ∧ (allF f l).1.length ≤ l.length := by
  induction f with
  | zero => intro l; simp [allF]
  | succ f ih =>
    intro l
    rw [allF_succ]
    split
    · simp
    · split
      · simp
      · rename_i h1 h2
        have h10 := openB_pos l (by omega)
        have hl' := openB_le l
        have := ih (l.drop (openB l).2.1)
        rw [List.length_drop] at this
        simp only [List.length_cons]
        omega
theorem allB_le (l : List UInt8) : (allB l).2.1 ≤ l.length ∧ (allB l).1.length ≤ l.length := allF_le _ l
theorem allB_stop (l : List UInt8) (h : l ≠ []) (hs : (openB l).2.2 ≠ 0) : allB l = ([], 0, (openB l).2.2) := by
  unfold allB
  obtain ⟨f, hf⟩ : ∃ f, l.length = f + 1 := ⟨l.length - 1, by have := List.length_pos_iff.2 h; omega⟩
  rw [hf]; unfold allF; rw [if_neg h, if_pos hs]
theorem allB_go (l : List UInt8) (h : l ≠ []) (hs : (openB l).2.2 = 0) :
    allB l = ((openB l).1 :: (allB (l.drop (openB l).2.1)).1, (openB l).2.1 + (allB (l.drop (openB l).2.1)).2.1, (allB (l.drop (openB l).2.1)).2.2) := by
  have h10 := openB_pos l hs
  have hl' := openB_le l
  obtain ⟨f, hf⟩ : ∃ f, l.length = f + 1 := ⟨l.length - 1, by have := List.length_pos_iff.2 h; omega⟩
  show allF l.length l = _
  rw [hf, allF_succ, if_neg h, if_neg (by omega)]
  rw [allB, allF_more f (l.drop (openB l).2.1) (l.drop (openB l).2.1).length (by simp; omega) (by omega)]
end Frm
namespace Frm

theorem getD_front (p : List UInt8) (r : List UInt8) :
    (sealB p ++ r).getD 0 0 = u8 (p.length / 65536) ∧ (sealB p ++ r).getD 1 0 = u8 (p.length / 256) ∧ (sealB p ++ r).getD 2 0 = u8 p.length ∧
    (sealB p ++ r).getD 3 0 = 255 - u8 (p.length / 65536) ∧ (sealB p ++ r).getD 4 0 = 255 - u8 (p.length / 256) ∧ (sealB p ++ r).getD 5 0 = 255 - u8 p.length := by
  simp [sealB, front, be3]

/-- what is seen of the first six bytes -/
theorem sz_seen (l : List UInt8) (n : Nat) (h0 : l.getD 0 0 = u8 (n / 65536)) (h1 : l.getD 1 0 = u8 (n / 256)) (h2 : l.getD 2 0 = u8 n) (hn : n < 16777216) : sz l = n := by
  unfold sz; rw [h0, h1, h2, u8_toNat, u8_toNat, u8_toNat]; omega

theorem openB_whole (p r : List UInt8) (hp : p.length ≤ 65536) : openB (sealB p ++ r) = (p, 6 + p.length + 4, 0) := by
  obtain ⟨h0, h1, h2, h3, h4, h5⟩ := getD_front p r
  have hs := sz_seen (sealB p ++ r) p.length h0 h1 h2 (by omega)
  have hl : (sealB p ++ r).length = p.length + 10 + r.length := by rw [List.length_append, sealB_length]
  have hu : unlike (sealB p ++ r) = false := by
    unfold unlike unlikeAt
    rw [h3, h4, h5, show 3 - 3 = 0 from rfl, show 4 - 3 = 1 from rfl, show 5 - 3 = 2 from rfl, h0, h1, h2]
    simp
  have hlo : long (sealB p ++ r) = false := by unfold long; rw [hs]; simp; omega
  have ht : there (sealB p ++ r) = true := by unfold there; rw [hs, hl]; simp; omega
  have hf : (sealB p ++ r).take (6 + p.length) = front p := by
    unfold sealB
    rw [List.append_assoc, List.take_append_of_le_length (by rw [front_length]; omega), List.take_of_length_le (by rw [front_length]; omega)]
  have hd : ((sealB p ++ r).drop (6 + p.length)).take 4 = be4 (asum (front p)) := by
    unfold sealB
    rw [List.append_assoc, List.drop_append, List.drop_eq_nil_of_le (by rw [front_length]; omega), front_length, show 6 + p.length - (p.length + 6) = 0 by omega]
    simp [be4]
  have hw : wrong (sealB p ++ r) = false := by unfold wrong; rw [hs, ht, hd, hf]; simp
  have hpay : ((sealB p ++ r).drop 6).take p.length = p := by
    simp [sealB, front, be3]
  unfold openB bad
  rw [hu, hlo, hw, ht, hs, hpay]
  rfl

theorem allB_cons (p r : List UInt8) (hp : p.length ≤ 65536) : allB (sealB p ++ r) = (p :: (allB r).1, 6 + p.length + 4 + (allB r).2.1, (allB r).2.2) := by
  have ho := openB_whole p r hp
  have hl := sealB_length p
  rw [allB_go _ (fun e => by have := congrArg List.length e; simp at this; rw [List.eq_nil_iff_length_eq_zero] at this; omega) (by rw [ho]), ho]
  have : List.drop (6 + p.length + 4) (sealB p ++ r) = r := by
    rw [List.drop_append, List.drop_eq_nil_of_le (by omega), hl, show 6 + p.length + 4 - (p.length + 10) = 0 by omega]; rfl
  simp only [this]

/-- frames one behind the other -/
def catB : List (List UInt8) → List UInt8
  | [] => []
  | p :: l => sealB p ++ catB l
end Frm
namespace Go.Proofs.YtdjoaboalknlkaaGreatDoor

def chunks : Nat → List UInt8 → List (List UInt8)
  | 0, _ => []
  | f + 1, l => if l = [] then [] else l.take 65536 :: chunks f (l.drop 65536)
def chunksB (l : List UInt8) : List (List UInt8) := chunks l.length l
/-- a text's frames -/
def piecesB (l : List UInt8) : List UInt8 := Frm.catB (chunksB l)
theorem chunks_more (f : Nat) : ∀ (l : List UInt8) (g : Nat), l.length ≤ f → l.length ≤ g → chunks f l = chunks g l := by
  induction f with
  | zero => intro l g h1 _; have : l = [] := List.eq_nil_of_length_eq_zero (by omega); subst this; cases g <;> simp [chunks]
  | succ f ih =>
    intro l g h1 h2
    cases g with
    | zero => have : l = [] := List.eq_nil_of_length_eq_zero (by omega); subst this; simp [chunks]
    | succ g =>
      unfold chunks
      by_cases hl : l = []
      · simp [hl]
      · have := List.length_pos_iff.2 hl
        rw [if_neg hl, if_neg hl, ih (l.drop 65536) g (by simp; omega) (by simp; omega)]
theorem chunksB_nil : chunksB [] = [] := rfl
theorem chunksB_cons (l : List UInt8) (h : l ≠ []) : chunksB l = l.take 65536 :: chunksB (l.drop 65536) := by
  have hp := List.length_pos_iff.2 h
  unfold chunksB
  obtain ⟨f, hf⟩ : ∃ f, l.length = f + 1 := ⟨l.length - 1, by omega⟩
  rw [hf, chunks, if_neg h, chunks_more f _ (l.drop 65536).length (by simp; omega) (Nat.le_refl _)]
theorem chunksB_le (l : List UInt8) : ∀ p ∈ chunksB l, p.length ≤ 65536 := by
  have key : ∀ (f : Nat) (l : List UInt8), ∀ p ∈ chunks f l, p.length ≤ 65536 := fun f => by
    induction f with
    | zero => intro l p hp; simp [chunks] at hp
    | succ f ih =>
      intro l p hp
      unfold chunks at hp
      split at hp
      · simp at hp
      · rcases List.mem_cons.1 hp with rfl | hp
        · rw [List.length_take]; omega
        · exact ih _ p hp
  exact key _ l
theorem chunksB_flat (l : List UInt8) : (chunksB l).flatten = l := by
  have key : ∀ (f : Nat) (l : List UInt8), l.length ≤ f → (chunks f l).flatten = l := fun f => by
    induction f with
    | zero => intro l h; have : l = [] := List.eq_nil_of_length_eq_zero (by omega); subst this; rfl
    | succ f ih =>
      intro l h
      unfold chunks
      split
      · rename_i h1; rw [h1]; rfl
      · rename_i h1
        have := List.length_pos_iff.2 h1
        rw [List.flatten_cons, ih _ (by simp; omega), List.take_append_drop]
  exact key _ l (Nat.le_refl _)
theorem allB_catB : ∀ ls : List (List UInt8), (∀ p ∈ ls, p.length ≤ 65536) → Frm.allB (Frm.catB ls) = (ls, (Frm.catB ls).length, 0)
  | [], _ => rfl
  | p :: ls, h => by
    have e : Frm.catB (p :: ls) = Frm.sealB p ++ Frm.catB ls := rfl
    rw [e, Frm.allB_cons p _ (h p (by simp)), allB_catB ls fun x hx => h x (by simp [hx])]
    rw [List.length_append, Frm.sealB_length]
    simp only [Prod.mk.injEq, and_true, true_and]
    omega
theorem allB_pieces (l : List UInt8) : Frm.allB (piecesB l) = (chunksB l, (piecesB l).length, 0) := allB_catB _ (chunksB_le l)
theorem piecesB_step {l : List UInt8} {q : Nat} (h : l ≠ []) (hq : q = min l.length 65536) : piecesB l = Frm.sealB (l.take q) ++ piecesB (l.drop q) := by
  unfold piecesB
  rw [chunksB_cons l h]
  show Frm.sealB (l.take 65536) ++ Frm.catB (chunksB (l.drop 65536)) = _
  by_cases h1 : l.length ≤ 65536
  · have : q = l.length := by omega
    subst this
    rw [List.take_of_length_le h1, List.take_length, List.drop_of_length_le h1, List.drop_length]
  · have : q = 65536 := by omega
    subst this; rfl
theorem catB_len : ∀ ls : List (List UInt8), (Frm.catB ls).length = ls.flatten.length + 10 * ls.length
  | [] => rfl
  | p :: ls => by
    have e : Frm.catB (p :: ls) = Frm.sealB p ++ Frm.catB ls := rfl
    rw [e, List.length_append, Frm.sealB_length, catB_len ls, List.flatten_cons, List.length_append, List.length_cons]
    omega
end Go.Proofs.YtdjoaboalknlkaaGreatDoor
