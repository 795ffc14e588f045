/-
  Layer 5: a journal on a disk with a fuse, and the row of what was sent to it.
-/
import Derived.Test.YtejjfhhppjdcaaaGreatDoorOFuse0
import Derived.Test.YtejjfhhppjdcaaaGreatDoorOJPlays
import Derived.Test.YtejjfhhppjdcaaaGreatDoorOCrPlain
namespace Go.Proofs.YtejjfhhppjdcaaaGreatDoor
open Go.RowKit Go.Maps Go.Sort Go.Shelf

/-- w: where the law began; S: what the journal was sent; sent: what its row has -/
structure FzM (w : World) (G F : Nat → Prop) (bj bd per : Nat) (j : Jl) (v : Value) (S : List (Option Ev)) (sent : List Ev) (W : World) : Prop where
  jl : JlIn W G F bj bd j
  fz : Fz j [106] per S
  row : OwnE W w.heap.size v sent
  ap : ∀ b, v.ownBlock = some b → ¬ (G b ∨ F b)
  lo : ∀ b, G b ∨ F b → w.heap.size ≤ b
  kp : RowKit.Below w.heap.size w W
section
variable {w W W' : World} {G F : Nat → Prop} {bj bd per : Nat} {j j' : Jl} {v : Value} {S S' : List (Option Ev)} {sent : List Ev}
theorem FzM.below (h : FzM w G F bj bd per j v S sent W) (hb : RowKit.Below W.heap.size W W') : FzM w G F bj bd per j v S sent W' :=
  ⟨h.jl.up hb, h.fz, h.row.keepB fun b hv => hb.block b (World.ownsRow.lt h.row b hv).2, h.ap, h.lo, h.kp.trans (hb.mono h.kp.size)⟩
theorem FzM.deed (h : FzM w G F bj bd per j v S sent W) (hd : JlD W G F bj bd j' W') (hf : Fz j' [106] per S') : ∃ G' F', FzM w G' F' bj bd per j' v S' sent W' := by
  obtain ⟨G', F', hi, hG, hF, hk⟩ := hd
  have hs := h.kp.size
  refine ⟨G', F', hi, hf, h.row.keepB fun b hv => hk.block b (World.ownsRow.lt h.row b hv).2 (h.ap b hv), fun b hv hb => ?_, fun b hb => ?_, h.kp.trans (hk.below hs (fun b hb hg => by have := h.lo b hg; omega))⟩
  · have := (World.ownsRow.lt h.row b hv).2
    rcases hb with hb | hb
    · rcases hG b hb with h' | h'
      · exact h.ap b hv (.inl h')
      · omega
    · rcases hF b hb with h' | h'
      · exact h.ap b hv (.inr h')
      · omega
  · rcases hb with hb | hb
    · rcases hG b hb with h' | h'
      · exact h.lo b (.inl h')
      · omega
    · rcases hF b hb with h' | h'
      · exact h.lo b (.inr h')
      · omega
theorem FzM.grow {l : List Ev} {v' : Value} (h : FzM w G F bj bd per j v S sent W) (ho : OwnE W' w.heap.size v' (sent ++ l)) (hg : World.grownBy W W' v.ownBlock) (hv : v'.ownBlock = v.ownBlock ∨ v'.ownBlock = some W.heap.size) : FzM w G F bj bd per j v' S (sent ++ l) W' := by
  have hs := h.kp.size
  refine ⟨h.jl.keep hg.size fun b hb => hg.block b (h.jl.lt b hb) (fun e => h.ap b e.symm hb), h.fz, ho, fun b hb hg' => ?_, h.lo, Below.grown h.kp hg hs (fun k hk => (World.ownsRow.lt h.row k hk).1)⟩
  rcases hv with e | e
  · exact h.ap b (by rw [← e]; exact hb) hg'
  · rw [e] at hb; injection hb with hb; have := h.jl.lt b hg'; omega
theorem FzM.num (h : FzM w G F bj bd per j v S sent W) : j.stuck = 0 ∨ j.stuck = 8 := h.fz.st.imp (fun h => h.1) (fun h => h.1)
end
/-- what the disk has of what was sent -/
theorem Fz.disk {j : Jl} {s : List UInt8} {per : Nat} {S : List (Option Ev)} (h : Fz j s per S) : ∃ fc L, DInv j.dk.files s per fc L j.lasts ∧ L <+: S := by
  rcases h.st with ⟨_, h2, h3⟩ | ⟨_, h2⟩
  · have hi : DInv j.dk.files j.name j.per j.files j.es j.lasts := h2.inv
    rw [h.nm, h.pr, h3] at hi
    exact ⟨_, _, hi, List.prefix_refl _⟩
  · exact h2
/-- a crash of such a disk -/
theorem Fz.crash {j : Jl} {s : List UInt8} {per : Nat} {sent : List Ev} (h : Fz j s per (sent.map some)) (hs : s.length ≤ 24) (hp2 : per ≤ 4096) (hn : sent.length ≤ 80) (hm : ∀ e ∈ sent, mayB e = true) (ks : List Int) :
    ∃ q, q ≤ sent.length ∧ j.lasts ≤ q ∧ CrOut (j.dk.crash ks) s per j.lasts ((sent.take q).map some) q := by
  obtain ⟨fc, L, hi, hL⟩ := h.disk
  have hlen := hL.length_le
  rw [List.length_map] at hlen
  have hsub : ∀ e, some e ∈ L → mayB e = true := fun e he => by
    have := hL.subset he
    obtain ⟨x, hx, hxe⟩ := List.mem_map.1 this
    injection hxe with hxe; subst hxe; exact hm x hx
  have hc := crash_open hi h.ok hs hp2 (by omega) hsub ks
  obtain ⟨q, hq⟩ : ∃ q, q = leftN j.dk.files s per fc j.lasts L ks := ⟨_, rfl⟩
  rw [← hq] at hc
  have hqL := hc.hi
  have he : L.take q = (sent.take q).map some := by
    obtain ⟨r, hr⟩ := hL
    rw [List.map_take, ← hr, List.take_append_of_le_length hqL]
  refine ⟨q, by omega, hc.lo, hc.lo, by simp; omega, ?_⟩
  obtain ⟨fc2, t, ho, hst⟩ := hc.op
  refine ⟨fc2, t, ?_, hst⟩
  rw [List.take_of_length_le (l := (sent.take q).map some) (by simp; omega), ← he]
  exact ho
theorem Jl.new_arm_fz (s : List UInt8) (per : Nat) (hs : s.length ≤ 24) (hp : 1 ≤ per) (d : Dk) (hd : d.files = []) (hok : d.Ok) (hdn : d.down = false) : Fz (Jl.new d s per) s per [] := by
  refine ⟨hok, rfl, rfl, Nat.le_refl _, Nat.le_refl _, .inl ⟨rfl, ?_, rfl⟩⟩
  have hu : d.used = 0 := by rw [hok.used, hd]; rfl
  refine ⟨⟨rfl, hdn, rfl, hp, hs, by show 0 ≤ d.used; omega, by show d.used ≤ 1300 * (0 : Int); omega, by show d.files.length ≤ 0 + 1; rw [hd]; simp, fun h0 => absurd rfl h0, Nat.zero_le _⟩, ?_, ?_, ⟨hok.up, hok.used, hok.max, Int.le_refl _, by show (0 : Int) ≤ 1000; omega, hok.num, hok.las⟩, fun e he => by cases he⟩
  · show DInv d.files s per 0 [] 0
    rw [hd]; exact DInv.new s per hp
  · show (0 : Nat) = nseg 0 per
    unfold nseg
    rw [Nat.div_eq_of_lt (by omega)]
end Go.Proofs.YtejjfhhppjdcaaaGreatDoor
