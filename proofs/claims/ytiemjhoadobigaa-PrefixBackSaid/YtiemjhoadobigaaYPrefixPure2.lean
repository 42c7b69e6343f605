/- The codes are the document's. It has no conditions. -/
import Derived.Test.YtiemjhoadobigaaYPrefixCodes
import Derived.BigRegion
import Derived.RegionTactic
import Derived.ChangeAlike
import Derived.Deep.RegionWith
import Derived.Deep.RegionLaw
import Derived.Laws.Tables
import Derived.Deep.QuietTactic
import Derived.BigQuiet
import Derived.Deep.RegionHeld3
import Derived.Deep.AppendLies
import Derived.Deep.DrawnRows
import Derived.Laws.CopyOwn
import Derived.Deep.MidRow
import Derived.Laws.ResultCell
import Derived.ChangeKeysEq
namespace Go.Proofs.Ytiemjhoadobigaa.XPrefix
set_option linter.unusedVariables false
set_option linter.unusedSimpArgs false
open Go.RowKit Go.Proofs.YtiemjhoadobigaaW.PrintWords Go.Proofs.YtiemjhoadobigaaW.PrintLast Go.Proofs.YtiemjhoadobigaaW.PrintMore

/-- The codes behind all lengths below k and the first i symbols of length k. -/
def cOut (l : List Int) (k i : Nat) : List Int := listOf l.length (fun j => if 0 < rd l (j : Int) ∧ (rd l (j : Int) < k ∨ (rd l (j : Int) = k ∧ j < i)) then cod l j else 0)
theorem cOut_hit (l : List Int) (k i : Nat) (hk : 1 ≤ k) (h : rd l (i : Int) = k) : (cOut l k i).set i (nx (cnt l l.length) k + cnt l i k) = cOut l k (i + 1) := by
  unfold cOut
  rw [listOf_set]
  refine listOf_congr _ _ _ (fun j hj => ?_)
  show (if j = i then nx (cnt l l.length) k + cnt l i k else if 0 < rd l (j : Int) ∧ (rd l (j : Int) < k ∨ (rd l (j : Int) = k ∧ j < i)) then cod l j else 0) = _
  by_cases e : j = i
  · subst e
    rw [if_pos rfl, if_pos ⟨by omega, .inr ⟨h, by omega⟩⟩, cod, h, if_pos (by omega), Int.toNat_natCast]
  · rw [if_neg e]
    by_cases h2 : 0 < rd l (j : Int) ∧ (rd l (j : Int) < k ∨ (rd l (j : Int) = k ∧ j < i))
    · rw [if_pos h2, if_pos ⟨h2.1, by omega⟩]
    · rw [if_neg h2, if_neg (by omega)]
theorem cOut_miss (l : List Int) (k i : Nat) (h : rd l (i : Int) ≠ k) : cOut l k (i + 1) = cOut l k i :=
  listOf_congr _ _ _ (fun j hj => by
    by_cases h2 : 0 < rd l (j : Int) ∧ (rd l (j : Int) < k ∨ (rd l (j : Int) = k ∧ j < i))
    · rw [if_pos h2, if_pos ⟨h2.1, by omega⟩]
    · rw [if_neg h2, if_neg (fun h3 => h2 ⟨h3.1, by
        rcases h3.2 with h4 | ⟨h4, h5⟩
        · exact .inl h4
        · by_cases e : j = i
          · subst e; exact absurd h4 h
          · exact .inr ⟨h4, by omega⟩⟩)])
theorem cOut_next (l : List Int) (k : Nat) : cOut l k l.length = cOut l (k + 1) 0 :=
  listOf_congr _ _ _ (fun j hj => by
    by_cases h2 : 0 < rd l (j : Int) ∧ (rd l (j : Int) < k ∨ (rd l (j : Int) = k ∧ j < l.length))
    · rw [if_pos h2, if_pos ⟨h2.1, by omega⟩]
    · rw [if_neg h2, if_neg (by omega)])
theorem cOut_end (l : List Int) (ok : OkL l) : cOut l 16 0 = codL l :=
  listOf_congr _ _ _ (fun j hj => by
    have h := ok.2 j hj
    by_cases h2 : 0 < rd l (j : Int)
    · rw [if_pos ⟨h2, by omega⟩]
    · rw [if_neg (by omega), cod, if_neg h2])

open XPrefixReads
theorem w64' {x : Int} (h0 : -9223372036854775808 ≤ x) (h1 : x < 9223372036854775808) : wrap64 x = x := by unfold wrap64; omega
theorem cds_l1 (l : List Int) (ok : OkL l) (k : Nat) (hk : 1 ≤ k) (hk2 : k ≤ 15) (r : List Int) (h : Ev (fun q => montageref05_Codes.l0 q l (cOut l (k + 1) 0) (nx (cnt l l.length) k + cnt l l.length k) ((k + 1 : Nat) : Int)) r) :
    ∀ d i : Nat, l.length - i = d → i ≤ l.length → Ev (fun q => montageref05_Codes.l1 q l (cOut l k i) (nx (cnt l l.length) k + cnt l i k) (k : Int) (i : Int)) r := by
  have hl := ok.1
  intro d
  induction d with
  | zero =>
    intro i hd hi
    have e : i = l.length := by omega
    subst e
    refine Ev.step (f := fun q => montageref05_Codes.l0 q l (cOut l (k + 1) 0) (nx (cnt l l.length) k + cnt l l.length k) ((k + 1 : Nat) : Int)) (fun q => ?_) h
    simp only [montageref05_Codes.l1]
    rw [if_neg (by omega), w64' (by omega) (by omega), cOut_next]
    rfl
  | succ d ih =>
    intro i hd hi
    have hn := ih (i + 1) (by omega) (by omega)
    have hx := nx_le (cnt l l.length) (fun j => by have := cnt_range l l.length j; omega) k (by omega)
    have hc := cnt_range l i k
    have hlen : (cOut l k i).length = l.length := listOf_len _ _
    rw [cnt] at hn
    by_cases e : rd l (i : Int) = k
    · rw [if_pos e, ← cOut_hit l k i hk e] at hn
      refine Ev.step (f := fun q => montageref05_Codes.l1 q l ((cOut l k i).set i (nx (cnt l l.length) k + cnt l i k)) (nx (cnt l l.length) k + (cnt l i k + 1)) (k : Int) ((i + 1 : Nat) : Int)) (fun q => ?_) hn
      simp only [montageref05_Codes.l1]
      rw [if_pos (by omega), if_pos (by omega), if_pos e, if_pos (by rw [hlen]; omega), w64' (by omega) (by omega), w64' (by omega) (by omega), Int.toNat_natCast, Int.add_assoc]
      rfl
    · rw [if_neg e, Int.add_zero, cOut_miss l k i e] at hn
      refine Ev.step (f := fun q => montageref05_Codes.l1 q l (cOut l k i) (nx (cnt l l.length) k + cnt l i k) (k : Int) ((i + 1 : Nat) : Int)) (fun q => ?_) hn
      simp only [montageref05_Codes.l1]
      rw [if_pos (by omega), if_pos (by omega), if_neg e, w64' (by omega) (by omega)]
      rfl

theorem cds_l0 (l : List Int) (ok : OkL l) : ∀ (d k : Nat) (n : Int), k + d = 16 → 1 ≤ k → 2 * n = nx (cnt l l.length) k → Ev (fun q => montageref05_Codes.l0 q l (cOut l k 0) n (k : Int)) (codL l)
  | 0, k, n, hk, h1, hn => by
    have e : k = 16 := by omega
    subst e
    refine Ev.step (f := fun _ => some (codL l)) (fun q => ?_) (Ev.now _)
    simp only [montageref05_Codes.l0]
    rw [if_neg (by decide), cOut_end l ok]
  | d + 1, k, n, hk, h1, hn => by
    obtain ⟨m, rfl⟩ : ∃ m, k = m + 1 := ⟨k - 1, by omega⟩
    have hl := ok.1
    have hx := nx_le (cnt l l.length) (fun j => by have := cnt_range l l.length j; omega) (m + 1) (by omega)
    have h := cds_l1 l ok (m + 1) (by omega) (by omega) (codL l) (cds_l0 l ok d (m + 1 + 1) _ (by omega) (by omega) (by rw [nx])) l.length 0 (by omega) (by omega)
    rw [cnt, Int.add_zero] at h
    refine Ev.step (f := fun q => montageref05_Codes.l1 q l (cOut l (m + 1) 0) (nx (cnt l l.length) (m + 1)) ((m + 1 : Nat) : Int) ((0 : Nat) : Int)) (fun q => ?_) h
    simp only [montageref05_Codes.l0]
    rw [if_pos (by omega), hn, w64' (by omega) (by omega)]
    rfl
theorem codes_same (l : List Int) (ok : OkL l) : Ev (fun q => montageref05_Codes.f q l) (codL l) := by
  have hl := ok.1
  have h := cds_l0 l ok 15 1 0 rfl (by omega) rfl
  have e : cOut l 1 0 = List.replicate ((l.length : Int) : Int).toNat 0 := by
    rw [Int.toNat_natCast, listOf_zero]
    exact listOf_congr _ _ _ (fun j hj => by rw [if_neg (by omega)])
  rw [e] at h
  unfold montageref05_Codes.f
  simp only [if_pos (show 0 ≤ (l.length : Int) by omega), if_pos (show ((l.length : Int) : Int).toNat ≤ 35184372088832 by omega)]
  exact h

end Go.Proofs.Ytiemjhoadobigaa.XPrefix
