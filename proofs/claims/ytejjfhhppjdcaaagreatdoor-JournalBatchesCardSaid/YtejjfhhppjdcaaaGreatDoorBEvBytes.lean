/-
  Plain: groups of seven bits.
  Layer 2, plain: an event's bytes.
-/
import Derived.Test.YtejjfhhppjdcaaaGreatDoorBBase
import Derived.Test.YtejjfhhppjdcaaaGreatDoorBEv
namespace Go.Proofs.YtejjfhhppjdcaaaGreatDoor

/-- groups of seven bits -/
def numB (n : Nat) : List UInt8 := if n < 128 then [UInt8.ofNat n] else UInt8.ofNat (n % 128 + 128) :: numB (n / 128)
termination_by n
decreasing_by omega
theorem numB_lo {n : Nat} (h : n < 128) : numB n = [UInt8.ofNat n] := by rw [numB, if_pos h]
theorem numB_hi {n : Nat} (h : ¬ n < 128) : numB n = UInt8.ofNat (n % 128 + 128) :: numB (n / 128) := by rw [numB, if_neg h]
theorem numB_len (n : Nat) : (numB n).length ≤ n + 1 := by
  induction n using Nat.strongRecOn with
  | _ n ih =>
    by_cases h : n < 128
    · rw [numB_lo h]; simp
    · rw [numB_hi h]; have := ih (n / 128) (by omega); simp; omega
theorem numB_short {n : Nat} (h : n < 72057594037927936) : (numB n).length ≤ 8 := by
  have key : ∀ k n, n < 128 ^ (k + 1) → (numB n).length ≤ k + 1 := fun k => by
    induction k with
    | zero => intro n h; rw [numB_lo (by simpa using h)]; simp
    | succ k ih =>
      intro n h
      by_cases h1 : n < 128
      · rw [numB_lo h1]; simp
      · rw [numB_hi h1]
        have := ih (n / 128) (by rw [Nat.div_lt_iff_lt_mul (by omega)]; rw [Nat.pow_succ] at h; exact h)
        simp; omega
  exact key 7 n (by simpa using h)
end Go.Proofs.YtejjfhhppjdcaaaGreatDoor
namespace Go.Proofs.YtejjfhhppjdcaaaGreatDoor

/-- a text with its length ahead -/
def textB (s : List UInt8) : List UInt8 := UInt8.ofNat s.length :: s
/-- an event's bytes -/
def encE (e : Ev) : List UInt8 :=
  UInt8.ofNat e.kind.toNat :: (textB e.src ++ numB e.num.toNat ++ numB e.at_.toNat ++ textB e.per ++ textB e.item ++ numB e.val.toNat ++ textB e.text)
theorem encE_len {e : Ev} (h1 : e.src.length ≤ 300) (h2 : e.per.length ≤ 300) (h3 : e.item.length ≤ 300) (h4 : e.text.length ≤ 300) (n1 : e.num ≤ 1099511627776) (n2 : e.at_ ≤ 1099511627776) (n3 : e.val ≤ 1099511627776) : (encE e).length ≤ 1229 := by
  have a := numB_short (n := e.num.toNat) (by omega)
  have b := numB_short (n := e.at_.toNat) (by omega)
  have c := numB_short (n := e.val.toNat) (by omega)
  unfold encE textB
  simp only [List.length_cons, List.length_append]
  omega
end Go.Proofs.YtejjfhhppjdcaaaGreatDoor
