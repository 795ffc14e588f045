/-
  Layer 31: the document's Name, Own, Forgets (ciceroneref31, ciceroneref07).
  Layer 31: the document's rows of texts (ciceroneref16: in, Put, Same).
-/
import Derived.Test.YtejjfhhppjdcaaaGreatDoorOEvListing
import Derived.Test.YtejjfhhppjdcaaaGreatDoorOErGnV
import Derived.Test.YtejjfhhppjdcaaaGreatDoorORef02
namespace Go.Proofs.YtejjfhhppjdcaaaGreatDoor
open Go.RowKit

set_option maxHeartbeats 1000000 in
theorem rname7 (w : World) (l : List UInt8) (hm : l.length ≤ 1000000000) :
    Calls Tryz.prog 128 #[.string ⟨l.toArray⟩] w fun e w' => e = .returned (.bool (nameB l)) ∧ w = w' := by
  go_enter Tryz.func128, Tryz.ntmps128
  go_wp2
  go_loop [3] (fun i => ∃ k : Nat, i = .int .i64 k ∧ k ≤ l.length ∧ Hid (∀ j (hj : j < l.length), j < k → nameC l[j] = true)) (fun i => l.length - (intOf i).toNat)
  case atStart => exact ⟨0, rfl, Nat.zero_le _, fun j _ h => by omega⟩
  case round =>
    obtain ⟨k, rfl, hk, HK⟩ := hrel
    by_cases hkn : k < l.length
    · have g0 : (⟨l.toArray⟩ : ByteArray)[k]'(by simpa [ByteArray.size] using hkn) = l[k] := rfl
      have HC := Lib.hid (show nameC l[k] = ((decide (97 ≤ l[k].toNat) && decide (l[k].toNat ≤ 122)) || (decide (48 ≤ l[k].toNat) && decide (l[k].toNat ≤ 57)) || decide (l[k].toNat = 45)) from rfl)
      have HB := Lib.hid (fun h => nameB_bad (l := l) k hkn h)
      have HN := Lib.hid (show ∀ h : nameC l[k] = true, ∀ j (hj : j < l.length), j < k + 1 → nameC l[j] = true from fun h j hj hlt => by
        by_cases e : j = k
        · subst e; exact h
        · exact HK.out j hj (by omega))
      have hx := l[k].toNat_lt
      generalize hc : nameC l[k] = cc at *
      clear hc
      generalize hxx : l[k] = x at *
      clear hxx
      have hcc : cc = true ∨ cc = false := by cases cc <;> simp
      rcases hcc with hcc | hcc
      · have HCC : Hid (((97 ≤ x.toNat ∧ x.toNat ≤ 122) ∨ (48 ≤ x.toNat ∧ x.toNat ≤ 57)) ∨ x.toNat = 45) := by
          have := HC.out; rw [hcc] at this; unfold Hid; simpa using this.symm
        have HN' := Lib.hid (HN.out hcc)
        clear hcc HC HB HN
        rcases HCC.out with (⟨a1, a2⟩ | ⟨a1, a2⟩) | a1
        · have b1 : decide ((x.toNat : Int) < 97) = false := decide_eq_false (by omega)
          have b2 : decide (122 < (x.toNat : Int)) = false := decide_eq_false (by omega)
          go_wp2
          go_round
          case rel => exact ⟨k + 1, by go_num, by omega, HN'.out⟩
          case measure => simp [intOf]; omega
        · have b1 : decide ((x.toNat : Int) < 97) = true := decide_eq_true (by omega)
          have b2 : decide ((x.toNat : Int) < 48) = false := decide_eq_false (by omega)
          have b3 : decide (57 < (x.toNat : Int)) = false := decide_eq_false (by omega)
          go_wp2
          go_round
          case rel => exact ⟨k + 1, by go_num, by omega, HN'.out⟩
          case measure => simp [intOf]; omega
        · have b1 : decide ((x.toNat : Int) < 97) = true := decide_eq_true (by omega)
          have b2 : decide ((x.toNat : Int) < 48) = true := decide_eq_true (by omega)
          have b3 : ((x.toNat : Int) != 45) = false := by simp; omega
          have A1 := Lib.hid a1; clear a1
          go_wp2
          go_round
          case rel => exact ⟨k + 1, by go_num, by omega, HN'.out⟩
          case measure => simp [intOf]; omega
      · have HCC : Hid (¬ (((97 ≤ x.toNat ∧ x.toNat ≤ 122) ∨ (48 ≤ x.toNat ∧ x.toNat ≤ 57)) ∨ x.toNat = 45)) := by
          have := HC.out; rw [hcc] at this; unfold Hid; intro hh
          have h2 : (decide (97 ≤ x.toNat) && decide (x.toNat ≤ 122) || decide (48 ≤ x.toNat) && decide (x.toNat ≤ 57) || decide (x.toNat = 45)) = true := by simpa using hh
          rw [h2] at this; cases this
        have hB := HB.out hcc
        have HB' := Lib.hid hB
        clear hcc HC HN HB hB
        have b5 : ((x.toNat : Int) != 45) = true := by have := HCC.out; simp; omega
        have hcases : (123 ≤ x.toNat) ∨ (97 > x.toNat ∧ 58 ≤ x.toNat) ∨ (x.toNat < 48) := by have := HCC.out; omega
        rcases hcases with a1 | ⟨a1, a2⟩ | a1
        · have b1 : decide ((x.toNat : Int) < 97) = false := decide_eq_false (by omega)
          have b2 : decide (122 < (x.toNat : Int)) = true := decide_eq_true (by omega)
          have b3 : decide ((x.toNat : Int) < 48) = false := decide_eq_false (by omega)
          have b4 : decide (57 < (x.toNat : Int)) = true := decide_eq_true (by omega)
          go_wp2
          go_ret
          rw [HB'.out]
          exact ⟨rfl, rfl⟩
        · have b1 : decide ((x.toNat : Int) < 97) = true := decide_eq_true (by omega)
          have b3 : decide ((x.toNat : Int) < 48) = false := decide_eq_false (by omega)
          have b4 : decide (57 < (x.toNat : Int)) = true := decide_eq_true (by omega)
          go_wp2
          go_ret
          rw [HB'.out]
          exact ⟨rfl, rfl⟩
        · have b1 : decide ((x.toNat : Int) < 97) = true := decide_eq_true (by omega)
          have b3 : decide ((x.toNat : Int) < 48) = true := decide_eq_true (by omega)
          go_wp2
          go_ret
          rw [HB'.out]
          exact ⟨rfl, rfl⟩
    · by_cases h1 : l.length < 1
      · have hB := nameB_short (l := l) (.inl h1)
        have HB' := Lib.hid hB; clear hB
        have d1 : decide (1 ≤ (l.length : Int)) = false := decide_eq_false (by omega)
        go_wp2
        go_ret
        rw [HB'.out]
        exact ⟨rfl, rfl⟩
      by_cases h24 : 24 < l.length
      · have hB := nameB_short (l := l) (.inr h24)
        have HB' := Lib.hid hB; clear hB
        have d1 : decide (1 ≤ (l.length : Int)) = true := decide_eq_true (by omega)
        have d2 : decide ((l.length : Int) ≤ 24) = false := decide_eq_false (by omega)
        go_wp2
        go_ret
        rw [HB'.out]
        exact ⟨rfl, rfl⟩
      have hB : nameB l = true := nameB_good (by omega) (by omega) (fun j hj => HK.out j hj (by omega))
      have HB' := Lib.hid hB; clear hB
      have d1 : decide (1 ≤ (l.length : Int)) = true := decide_eq_true (by omega)
      have d2 : decide ((l.length : Int) ≤ 24) = true := decide_eq_true (by omega)
      go_wp2
      go_ret
      rw [HB'.out]
      exact ⟨rfl, rfl⟩

theorem rname (w : World) (l : List UInt8) (hm : l.length ≤ 1000000000) :
    Calls Tryz.prog 97 #[.string ⟨l.toArray⟩] w fun e w' => e = .returned (.bool (nameB l)) ∧ w = w' := by
  go_enter Tryz.func97, Tryz.ntmps97
  go_wp2_with fail
  refine (rname7 _ l hm).mono ?_
  rintro r w1 ⟨rfl, rfl⟩
  go_wp2
  go_ret
  exact ⟨rfl, rfl⟩

theorem rown_any (w : World) (p : List UInt8) (e : Ev) (hp : p.length ≤ 1000000000) :
    Calls Tryz.prog 58 #[e.agg, .string ⟨p.toArray⟩] w (Says (ownB p e) w) := by
  unfold Ev.agg
  have HO := Lib.hid (show ownB p e = (nameB p && (e.per == p) && (e.kind != 14)) from rfl)
  go_enter Tryz.func58, Tryz.ntmps58
  go_wp2_with fail
  refine (rname _ p hp).mono ?_
  rintro r w1 ⟨rfl, rfl⟩
  have hb : Below w.heap.size w (w.alloc (evObj e)) := (Below.refl _ _).alloc (Nat.le_refl _) _
  cases h1 : nameB p
  · have HN := Lib.hid h1; clear h1
    go_wp2
    go_ret
    exact ⟨ret_bool (by rw [HO.out, HN.out]; rfl), hb⟩
  · have HN := Lib.hid h1; clear h1
    cases h2 : (e.per == p)
    · have HP := Lib.hid h2
      go_wp2
      go_ret
      exact ⟨ret_bool (by rw [HO.out, HN.out, HP.out]; rfl), hb⟩
    · have HP := Lib.hid h2
      go_wp2
      go_ret
      exact ⟨ret_bool (by rw [HO.out, HN.out, HP.out]; rfl), hb⟩

set_option maxHeartbeats 2000000 in
theorem rforgets_any (w : World) (e : Ev) (hs : e.small) :
    Calls Tryz.prog 91 #[e.agg] w (Says (forgetB e) w) := by
  obtain ⟨s1, s2, s3, s4⟩ := hs
  unfold Ev.agg
  have HO := Lib.hid (show forgetB e = ((e.kind == 14) && (nameB e.src && decide (1 ≤ e.num) && decide (e.num ≤ 1099511627776) && decide (0 ≤ e.at_) && decide (e.at_ ≤ 1099511627776)) && nameB e.per && e.item.isEmpty && (e.val == 0) && e.text.isEmpty) from rfl)
  have hb : Below w.heap.size w (w.alloc (evObj e)) := (Below.refl _ _).alloc (Nat.le_refl _) _
  cases h0 : (e.kind == 14)
  · go_enter Tryz.func91, Tryz.ntmps91
    go_wp2
    go_ret
    exact ⟨by rw [HO.out, h0]; rfl, hb⟩
  go_enter Tryz.func91, Tryz.ntmps91
  go_wp2_with fail
  refine (rname _ e.src s1).mono ?_
  rintro r w1 ⟨rfl, rfl⟩
  rw [h0] at HO
  generalize nameB e.src = ns at *
  cases ns
  · go_wp2
    go_ret
    exact ⟨by rw [HO.out]; rfl, hb⟩
  cases d1 : decide (1 ≤ e.num)
  · go_wp2
    go_ret
    exact ⟨by rw [HO.out, d1]; rfl, hb⟩
  cases d2 : decide (e.num ≤ 1099511627776)
  · go_wp2
    go_ret
    exact ⟨by rw [HO.out, d1, d2]; rfl, hb⟩
  cases d3 : decide (0 ≤ e.at_)
  · go_wp2
    go_ret
    exact ⟨by rw [HO.out, d1, d2, d3]; rfl, hb⟩
  cases d4 : decide (e.at_ ≤ 1099511627776)
  · go_wp2
    go_ret
    exact ⟨by rw [HO.out, d1, d2, d3, d4]; rfl, hb⟩
  rw [d1, d2, d3, d4] at HO
  go_wp2_with fail
  refine (rname _ e.per s2).mono ?_
  rintro r w1 ⟨rfl, rfl⟩
  generalize nameB e.per = np at *
  cases np
  · go_wp2
    go_ret
    exact ⟨by rw [HO.out]; rfl, hb⟩
  cases hi : e.item.isEmpty
  · go_wp2
    go_ret
    exact ⟨by rw [HO.out, hi]; rfl, hb⟩
  cases hv : (e.val == 0)
  · go_wp2
    go_ret
    exact ⟨by rw [HO.out, hi, hv]; rfl, hb⟩
  go_wp2
  go_ret
  exact ⟨by rw [HO.out, hi, hv]; rfl, hb⟩
end Go.Proofs.YtejjfhhppjdcaaaGreatDoor
namespace Go.Proofs.YtejjfhhppjdcaaaGreatDoor
open Go.RowKit Go.Maps Go.Sort

set_option maxHeartbeats 1000000 in
theorem in_any (w : World) (B : Nat) (A : Option Addr) (n c : Nat) (ss : List (List UInt8)) (h : Strs w B A n c ss) (hn : n ≤ 100000) (s : List UInt8) :
    Calls Tryz.prog 120 #[.slice A n c, .string ⟨s.toArray⟩] w fun e w' => e = .returned (.bool (decide (s ∈ ss))) ∧ w = w' := by
  have HH := Lib.hid h; clear h
  go_enter Tryz.func120, Tryz.ntmps120
  go_wp2
  go_loop [5] (fun i => ∃ k : Nat, i = .int .i64 k ∧ k ≤ n ∧ Hid (∀ j (hj : j < ss.length), j < k → ss[j] ≠ s)) (fun i => n - (intOf i).toNat)
  case atStart => exact ⟨0, rfl, Nat.zero_le _, fun j _ h => by omega⟩
  case round =>
    obtain ⟨k, rfl, hk, HK⟩ := hrel
    by_cases hkn : k < n
    · have hkl : k < ss.length := by rw [HH.out.len]; exact hkn
      obtain ⟨b, off, rfl, hb, hc⟩ := HH.out.at_ k hkl
      have t1 : (k : Int) < n := by omega
      cases he : (ss[k] == s)
      · have hne : ss[k] ≠ s := by simpa using he
        have HN := Lib.hid hne; clear hne
        go_wp2
        go_round
        case rel => exact ⟨k + 1, by go_num, by omega, fun j hj hlt => by
          by_cases e : j = k
          · subst e; exact HN.out
          · exact HK.out j hj (by omega)⟩
        case measure => simp [intOf]; omega
      · have hin : s ∈ ss := by have : ss[k] = s := by simpa using he
                                rw [← this]; exact List.getElem_mem hkl
        have HI := Lib.hid hin; clear hin
        go_wp2
        go_ret
        exact ⟨ret_bool (decide_eq_true HI.out).symm, rfl⟩
    · have hni : s ∉ ss := fun hin => by
        obtain ⟨j, hj, e⟩ := List.getElem_of_mem hin
        exact HK.out j hj (by rw [HH.out.len] at hj; omega) e
      have HI := Lib.hid hni; clear hni
      go_wp2
      go_ret
      exact ⟨ret_bool (decide_eq_false HI.out).symm, rfl⟩

/-- a text more in a rising row, each once -/
def insL (s : List UInt8) : List (List UInt8) → List (List UInt8)
  | [] => [s]
  | x :: r => if s < x then s :: x :: r else x :: insL s r
def putL (ss : List (List UInt8)) (s : List UInt8) : List (List UInt8) := if s ∈ ss then ss else insL s ss

/-- the slice value v is one that reads as these texts -/
def StrsV (w : World) (v : Value) (ss : List (List UInt8)) : Prop := ∃ A c, v = .slice A ss.length c ∧ Strs w w.heap.size A ss.length c ss

def PutPost (w : World) (ss : List (List UInt8)) (s : List UInt8) (e : Ending) (w' : World) : Prop :=
  ∃ v, e = .returned v ∧ StrsV w' v (putL ss s) ∧ Below w.heap.size w w'

/-- how far the new row is behind k texts of the old one -/
def PutRel (w : World) (n : Nat) (ss : List (List UInt8)) (s : List UInt8) (v d i : Value) (wr : World) : Prop :=
  ∃ (k : Nat) (done : Bool) (out : List (List UInt8)), i = .int .i64 k ∧ k ≤ n ∧ d = .bool done ∧ wr.ownsRow w.heap.size 9 1 v out.length (out.map encStr) ∧ Below w.heap.size w wr ∧ out.length ≤ k + 1 ∧
    insL s ss = out ++ (if done then ss.drop k else insL s (ss.drop k)) ∧ (done = false → out.length ≤ k)

set_option maxRecDepth 100000 in
set_option maxHeartbeats 2000000 in
theorem put_any (w : World) (A : Option Addr) (n c : Nat) (ss : List (List UInt8)) (h : Strs w w.heap.size A n c ss) (hn : n ≤ 100000) (s : List UInt8) :
    Calls Tryz.prog 92 #[.slice A n c, .string ⟨s.toArray⟩] w (PutPost w ss s) := by
  have HH := Lib.hid h; clear h
  obtain ⟨i0, hi, hz0, hz1, hz2⟩ := info_parts str_info
  have HI := Lib.hid hi; have HZ0 := Lib.hid hz0; have HZ1 := Lib.hid hz1; have HZ2 := Lib.hid hz2
  clear hi hz0 hz1 hz2
  go_enter Tryz.func92, Tryz.ntmps92
  go_wp2_with fail
  refine (in_any w _ A n c ss HH.out hn s).mono ?_
  rintro r w1 ⟨rfl, rfl⟩
  by_cases hin : s ∈ ss
  · have HIN := Lib.hid hin
    rw [decide_eq_true hin]
    clear hin
    go_wp2
    go_ret
    refine ⟨.slice A n c, rfl, ?_, Below.refl _ _⟩
    have e : putL ss s = ss := by unfold putL; rw [if_pos HIN.out]
    rw [e]
    have hl := HH.out.len
    subst hl
    exact ⟨A, c, rfl, HH.out⟩
  have HIN := Lib.hid hin
  rw [decide_eq_false hin]
  clear hin
  go_wp2
  go_loopw [5, 6, 7] (fun v d i wr => PutRel w n ss s v d i wr) (fun _ _ i _ => n - (intOf i).toNat)
  case atStart => exact ⟨0, false, [], rfl, Nat.zero_le _, rfl, World.ownsRow_lit w #[] 0 (Nat.le_refl _) (by simp [maxLen]) rfl, (Below.refl _ _).alloc (Nat.le_refl _) _, by simp, by simp, by simp⟩
  case round =>
    obtain ⟨k, done, out, rfl, hk, rfl, hown, hbel, hlen, hins, hdl⟩ := hrel
    have HO := Lib.hid hown; have HX := Lib.hid hins; have HDL := Lib.hid hdl
    clear hown hins hdl
    have hsz := hbel.size
    by_cases hkn : k < n
    · have hkl : k < ss.length := by rw [HH.out.len]; exact hkn
      obtain ⟨b, off, rfl, hb, hc⟩ := HH.out.at_ k hkl
      have hc' : wr.cell? ⟨b, off + k, none⟩ = some (.string ⟨ss[k].toArray⟩) := (hbel.cell (p := ⟨b, off + k, none⟩) hb).trans hc
      have HDR := Lib.hid (show ss.drop k = ss[k] :: ss.drop (k + 1) from List.drop_eq_getElem_cons hkl)
      generalize ss[k] = x at *
      have t1 : (k : Int) < n := by omega
      clear hc
      cases done
      · have hdl := HDL.out rfl
        by_cases hlt : s < x
        · have hl1 : Op.bytesLess s x = true := by rw [bytesLess_eq]; exact decide_eq_true hlt
          have HLT := Lib.hid hlt; clear hlt
          go_wp2_with (at_builtin; refine wpList_app (P := Tryz.prog) rfl (.tmp 29) (.tmp 31) 37 rfl 9 i0 (.string ByteArray.empty) 1 16 Tryz.underlying37 HI.out HZ0.out HZ1.out HZ2.out rfl (by decide) w.heap.size _ out.length (out.map encStr) rfl ?c1 (wr.heap.size + 1) _ _ _ [.string ⟨s.toArray⟩] rfl ?c2 ?c3 ?c4 ?c5 ?c6 ?_)
          case c1 => exact World.ownsRow.alloc HO.out _
          case c2 => exact Cel.new wr #[.string ⟨s.toArray⟩] _ (by unfold maxLen; omega) rfl
          case c3 => simp [Value.oneCell']
          case c4 => unfold maxLen; omega
          case c5 => omega
          case c6 => first | omega | (simp; omega)
          intro v2 w2 hown2 hg2 _
          have hb2 : Below w.heap.size w w2 := Below.grown (hbel.alloc hsz (.cells #[.string ⟨s.toArray⟩] 9)) hg2 (by simp; omega) (fun j hj => (HO.out.lt j hj).1)
          have hs2 := hb2.size
          have hc2 : w2.cell? ⟨b, off + k, none⟩ = some (.string ⟨x.toArray⟩) := (hb2.cell (p := ⟨b, off + k, none⟩) hb).trans ((hbel.cell (p := ⟨b, off + k, none⟩) hb).symm.trans hc')
          have HO2 := Lib.hid hown2; clear hown2 hg2 hl1 hc'
          go_wp2_with (at_builtin; refine wpList_app (P := Tryz.prog) rfl (.tmp 33) (.tmp 38) 37 rfl 9 i0 (.string ByteArray.empty) 1 16 Tryz.underlying37 HI.out HZ0.out HZ1.out HZ2.out rfl (by decide) w.heap.size _ (out.length + 1) (out.map encStr ++ [.string ⟨s.toArray⟩]) rfl ?c1 (w2.heap.size + 1) _ _ _ [.string ⟨x.toArray⟩] rfl ?c2 ?c3 ?c4 ?c5 ?c6 ?_)
          case c1 => exact World.ownsRow.alloc HO2.out _
          case c2 => exact Cel.new w2 #[.string ⟨x.toArray⟩] _ (by unfold maxLen; omega) rfl
          case c3 => simp [Value.oneCell']
          case c4 => unfold maxLen; omega
          case c5 => omega
          case c6 => first | omega | (simp; omega)
          intro v3 w3 hown3 hg3 _
          have hb3 : Below w.heap.size w w3 := Below.grown (hb2.alloc hs2 (.cells #[.string ⟨x.toArray⟩] 9)) hg3 (by simp; omega) (fun j hj => (HO2.out.lt j hj).1)
          have HO3 := Lib.hid hown3; have HB3 := Lib.hid hb3; clear hown3 hg3 hc2 hb3
          go_wp2
          go_roundw
          case rel =>
            refine ⟨k + 1, true, out ++ [s] ++ [x], by go_num, by omega, rfl, ?_, HB3.out, by simp; omega, ?_, by simp⟩
            · have e : (out ++ [s] ++ [x]).map encStr = out.map encStr ++ [.string ⟨s.toArray⟩, .string ⟨x.toArray⟩] := by simp [encStr]
              have e2 : (out ++ [s] ++ [x]).length = out.length + 1 + 1 := by simp
              rw [e, e2]; exact HO3.out
            · rw [HX.out, HDR.out]; simp [insL, HLT.out]
          case measure => simp [intOf]; omega
        · have hl1 : Op.bytesLess s x = false := by rw [bytesLess_eq]; exact decide_eq_false hlt
          have HLT := Lib.hid hlt; clear hlt
          go_wp2_with (at_builtin; refine wpList_app (P := Tryz.prog) rfl (.tmp 33) (.tmp 38) 37 rfl 9 i0 (.string ByteArray.empty) 1 16 Tryz.underlying37 HI.out HZ0.out HZ1.out HZ2.out rfl (by decide) w.heap.size _ out.length (out.map encStr) rfl ?c1 (wr.heap.size + 1) _ _ _ [.string ⟨x.toArray⟩] rfl ?c2 ?c3 ?c4 ?c5 ?c6 ?_)
          case c1 => exact World.ownsRow.alloc HO.out _
          case c2 => exact Cel.new wr #[.string ⟨x.toArray⟩] _ (by unfold maxLen; omega) rfl
          case c3 => simp [Value.oneCell']
          case c4 => unfold maxLen; omega
          case c5 => omega
          case c6 => first | omega | (simp; omega)
          intro v3 w3 hown3 hg3 _
          have hb3 : Below w.heap.size w w3 := Below.grown (hbel.alloc hsz (.cells #[.string ⟨x.toArray⟩] 9)) hg3 (by simp; omega) (fun j hj => (HO.out.lt j hj).1)
          have HO3 := Lib.hid hown3; have HB3 := Lib.hid hb3; clear hown3 hg3 hb3 hl1
          go_wp2
          go_roundw
          case rel =>
            refine ⟨k + 1, false, out ++ [x], by go_num, by omega, rfl, ?_, HB3.out, by simp; omega, ?_, by simp; omega⟩
            · have e : (out ++ [x]).map encStr = out.map encStr ++ [.string ⟨x.toArray⟩] := by simp [encStr]
              have e2 : (out ++ [x]).length = out.length + 1 := by simp
              rw [e, e2]; exact HO3.out
            · rw [HX.out, HDR.out]; simp [insL, HLT.out]
          case measure => simp [intOf]; omega
      · 
        go_wp2_with (at_builtin; refine wpList_app (P := Tryz.prog) rfl (.tmp 33) (.tmp 38) 37 rfl 9 i0 (.string ByteArray.empty) 1 16 Tryz.underlying37 HI.out HZ0.out HZ1.out HZ2.out rfl (by decide) w.heap.size _ out.length (out.map encStr) rfl ?c1 (wr.heap.size + 1) _ _ _ [.string ⟨x.toArray⟩] rfl ?c2 ?c3 ?c4 ?c5 ?c6 ?_)
        case c1 => exact World.ownsRow.alloc HO.out _
        case c2 => exact Cel.new wr #[.string ⟨x.toArray⟩] _ (by unfold maxLen; omega) rfl
        case c3 => simp [Value.oneCell']
        case c4 => unfold maxLen; omega
        case c5 => omega
        case c6 => first | omega | (simp; omega)
        intro v3 w3 hown3 hg3 _
        have hb3 : Below w.heap.size w w3 := Below.grown (hbel.alloc hsz (.cells #[.string ⟨x.toArray⟩] 9)) hg3 (by simp; omega) (fun j hj => (HO.out.lt j hj).1)
        have HO3 := Lib.hid hown3; have HB3 := Lib.hid hb3; clear hown3 hg3 hb3
        go_wp2
        go_roundw
        case rel =>
          refine ⟨k + 1, true, out ++ [x], by go_num, by omega, rfl, ?_, HB3.out, by simp; omega, ?_, by simp⟩
          · have e : (out ++ [x]).map encStr = out.map encStr ++ [.string ⟨x.toArray⟩] := by simp [encStr]
            have e2 : (out ++ [x]).length = out.length + 1 := by simp
            rw [e, e2]; exact HO3.out
          · rw [HX.out, HDR.out]; simp
        case measure => simp [intOf]; omega
    · have hdr : ss.drop k = [] := List.drop_eq_nil_iff.2 (by rw [HH.out.len]; omega)
      have HDR := Lib.hid hdr; clear hdr
      have HPU := Lib.hid (show putL ss s = insL s ss by unfold putL; rw [if_neg HIN.out])
      cases done
      · have hdl := HDL.out rfl
        go_wp2_with (at_builtin; refine wpList_app (P := Tryz.prog) rfl (.tmp 42) (.tmp 44) 37 rfl 9 i0 (.string ByteArray.empty) 1 16 Tryz.underlying37 HI.out HZ0.out HZ1.out HZ2.out rfl (by decide) w.heap.size _ out.length (out.map encStr) rfl ?c1 (wr.heap.size + 1) _ _ _ [.string ⟨s.toArray⟩] rfl ?c2 ?c3 ?c4 ?c5 ?c6 ?_)
        case c1 => exact World.ownsRow.alloc HO.out _
        case c2 => exact Cel.new wr #[.string ⟨s.toArray⟩] _ (by unfold maxLen; omega) rfl
        case c3 => simp [Value.oneCell']
        case c4 => unfold maxLen; omega
        case c5 => omega
        case c6 => first | omega | (simp; omega)
        intro v3 w3 hown3 hg3 _
        have hb3 : Below w.heap.size w w3 := Below.grown (hbel.alloc hsz (.cells #[.string ⟨s.toArray⟩] 9)) hg3 (by simp; omega) (fun j hj => (HO.out.lt j hj).1)
        have HO3 := Lib.hid hown3; have HB3 := Lib.hid hb3; clear hown3 hg3 hb3
        go_wp2
        go_ret
        refine ⟨v3, rfl, ?_, HB3.out⟩
        have e : putL ss s = out ++ [s] := by rw [HPU.out, HX.out, HDR.out]; simp [insL]
        rw [e]
        obtain ⟨A3, c3, hv⟩ := ownsRow_form HO3.out
        have e1 : (out ++ [s]).length = out.length + 1 := by simp
        refine ⟨A3, c3, by rw [e1]; exact hv, ?_⟩
        have := HO3.out
        rw [hv] at this
        unfold Strs
        rw [e1, show (out ++ [s]).map encStr = out.map encStr ++ [.string ⟨s.toArray⟩] by simp [encStr]]
        exact Cel.of_own this
      · go_wp2
        go_ret
        refine ⟨u5, rfl, ?_, hbel⟩
        have e : putL ss s = out := by rw [HPU.out, HX.out, HDR.out]; simp
        rw [e]
        obtain ⟨A3, c3, hv⟩ := ownsRow_form HO.out
        refine ⟨A3, c3, hv, ?_⟩
        have := HO.out
        rw [hv] at this
        exact Cel.of_own this
end Go.Proofs.YtejjfhhppjdcaaaGreatDoor
