/- The order of the packed numbers It has no conditions. -/
import Derived.Test.YtdaofffedfccmaaDoorYClock3
import Derived.BigRegion
import Derived.RegionTactic
import Derived.ChangeAlike
import Derived.Deep.RegionWith
import Derived.Deep.RegionLaw
import Derived.Laws.Tables
import Derived.Deep.QuietTactic
import Derived.BigQuiet
import Derived.Deep.RegionHeld3
import Derived.Deep.AppendLies
import Derived.Deep.DrawnRows
import Derived.Laws.CopyOwn
import Derived.Deep.MidRow
import Derived.Laws.ResultCell
import Derived.ChangeKeysEq
import Derived.Laws.BitsAllLaws
namespace Go.Proofs.YtdaofffedfccmaaDoor.ClockP
set_option linter.unusedVariables false
set_option linter.unusedSimpArgs false
open Go.RowKit Go.Proofs.YtdaofffedfccmaaDoorW.PrintWords Go.Proofs.YtdaofffedfccmaaDoorW.PrintLast Go.Proofs.YtdaofffedfccmaaDoorW.PrintMore
attribute [local go_sem] max2_int min2_int max_two min_two max_three min_three max_four min_four
open XClockDates
/-! ### The order of the packed numbers is the order of the seconds. -/
theorem lexO (d h m s d' h' m' s' : Int) (b1 : 0 ≤ h ∧ h ≤ 23) (b2 : 0 ≤ m ∧ m ≤ 59) (b3 : 0 ≤ s ∧ s ≤ 29) (c1 : 0 ≤ h' ∧ h' ≤ 23) (c2 : 0 ≤ m' ∧ m' ≤ 59) (c3 : 0 ≤ s' ∧ s' ≤ 29) :
    (43200 * d + 1800 * h + 30 * m + s < 43200 * d' + 1800 * h' + 30 * m' + s') ↔ (d * 65536 + h * 2048 + m * 32 + s < d' * 65536 + h' * 2048 + m' * 32 + s') := by
  rcases Int.lt_trichotomy d d' with e | e | e
  · constructor <;> omega
  · subst e
    rcases Int.lt_trichotomy h h' with e | e | e
    · constructor <;> omega
    · subst e
      rcases Int.lt_trichotomy m m' with e | e | e <;> constructor <;> omega
    · constructor <;> omega
  · constructor <;> omega
theorem half_parts (z : Int) (hz : 0 ≤ z) : z / 2 = 43200 * (z / 86400) + 1800 * (z % 86400 / 3600) + 30 * (z % 86400 / 60 % 60) + z % 60 / 2 := by omega
/-- The packed number of the date at z seconds. -/
def putA (P : Nat) (z : Int) : Int := putZ (1980 + ((P / 12 : Nat) : Int)) (((P % 12 : Nat) : Int) + 1) (z / 86400 - accp P + 1) (z % 86400 / 3600) (z % 86400 / 60 % 60) (z % 60 / 2 * 2)
theorem putA_eq (P : Nat) (z : Int) : putA P z = (((P / 12 : Nat) : Int) * 16 + ((P % 12 : Nat) : Int) + 1) * 2097152 + ((z / 86400 - accp P + 1) * 65536 + (z % 86400 / 3600) * 2048 + (z % 86400 / 60 % 60) * 32 + z % 60 / 2) := by
  unfold putA putZ
  generalize accp P = A
  omega
theorem mon_lt {P Q : Nat} (h : P < Q) : ((P / 12 : Nat) : Int) * 16 + ((P % 12 : Nat) : Int) + 1 + 1 ≤ ((Q / 12 : Nat) : Int) * 16 + ((Q % 12 : Nat) : Int) + 1 := by omega
theorem rest_lt (d h m s : Int) (a : 1 ≤ d ∧ d ≤ 31) (b1 : 0 ≤ h ∧ h ≤ 23) (b2 : 0 ≤ m ∧ m ≤ 59) (b3 : 0 ≤ s ∧ s ≤ 29) : 0 ≤ d * 65536 + h * 2048 + m * 32 + s ∧ d * 65536 + h * 2048 + m * 32 + s < 2097152 := by omega
theorem day_in (P : Nat) (n : Int) (h1 : accp P ≤ n) (h2 : n < accp (P + 1)) : 1 ≤ n - accp P + 1 ∧ n - accp P + 1 ≤ 31 := by
  have e2 : accp (P + 1) = accp P + dzp P := rfl
  have := dzp_le P
  omega
theorem hms (z : Int) : (0 ≤ z % 86400 / 3600 ∧ z % 86400 / 3600 ≤ 23) ∧ (0 ≤ z % 86400 / 60 % 60 ∧ z % 86400 / 60 % 60 ≤ 59) ∧ (0 ≤ z % 60 / 2 ∧ z % 60 / 2 ≤ 29) := by omega
theorem put_less {P Q : Nat} {y z : Int} (hy : 0 ≤ y) (hz : 0 ≤ z) (h1 : accp P ≤ y / 86400) (h2 : y / 86400 < accp (P + 1)) (h3 : accp Q ≤ z / 86400) (h4 : z / 86400 < accp (Q + 1)) (h : P < Q) : y / 2 < z / 2 ∧ putA P y < putA Q z := by
  constructor
  · have := accp_le (show P + 1 ≤ Q from h)
    omega
  · rw [putA_eq, putA_eq]
    have hm := mon_lt h
    obtain ⟨a1, a2, a3⟩ := hms y
    obtain ⟨b1, b2, b3⟩ := hms z
    have r1 := rest_lt _ _ _ _ (day_in P _ h1 h2) a1 a2 a3
    have r2 := rest_lt _ _ _ _ (day_in Q _ h3 h4) b1 b2 b3
    clear a1 a2 a3 b1 b2 b3 h1 h2 h3 h4
    generalize (y / 86400 - accp P + 1) * 65536 + (y % 86400 / 3600) * 2048 + (y % 86400 / 60 % 60) * 32 + y % 60 / 2 = R at r1 ⊢
    generalize (z / 86400 - accp Q + 1) * 65536 + (z % 86400 / 3600) * 2048 + (z % 86400 / 60 % 60) * 32 + z % 60 / 2 = S at r2 ⊢
    generalize ((P / 12 : Nat) : Int) * 16 + ((P % 12 : Nat) : Int) + 1 = M at hm ⊢
    generalize ((Q / 12 : Nat) : Int) * 16 + ((Q % 12 : Nat) : Int) + 1 = N at hm ⊢
    omega
theorem put_order (P Q : Nat) (y z : Int) (hy : 0 ≤ y) (hz : 0 ≤ z) (h1 : accp P ≤ y / 86400) (h2 : y / 86400 < accp (P + 1)) (h3 : accp Q ≤ z / 86400) (h4 : z / 86400 < accp (Q + 1)) : (y / 2 < z / 2) ↔ (putA P y < putA Q z) := by
  rcases Nat.lt_trichotomy P Q with h | h | h
  · have := put_less hy hz h1 h2 h3 h4 h
    exact ⟨fun _ => this.2, fun _ => this.1⟩
  · subst h
    rw [putA_eq, putA_eq, half_parts y hy, half_parts z hz]
    obtain ⟨a1, a2, a3⟩ := hms y
    obtain ⟨b1, b2, b3⟩ := hms z
    have hl := lexO (y / 86400 - accp P + 1) _ _ _ (z / 86400 - accp P + 1) _ _ _ a1 a2 a3 b1 b2 b3
    clear a1 a2 a3 b1 b2 b3 h1 h2 h3 h4 hy hz
    generalize y / 86400 = ya at hl ⊢
    generalize z / 86400 = za at hl ⊢
    generalize y % 86400 / 3600 = yh at hl ⊢
    generalize z % 86400 / 3600 = zh at hl ⊢
    generalize y % 86400 / 60 % 60 = ym at hl ⊢
    generalize z % 86400 / 60 % 60 = zm at hl ⊢
    generalize y % 60 / 2 = ys at hl ⊢
    generalize z % 60 / 2 = zs at hl ⊢
    generalize accp P = A at hl ⊢
    generalize (((P / 12 : Nat) : Int) * 16 + ((P % 12 : Nat) : Int) + 1) * 2097152 = M
    constructor <;> intro g
    · have := hl.1 (by omega); omega
    · have := hl.2 (by omega); omega
  · have := put_less hz hy h3 h4 h1 h2 h
    exact ⟨fun g => by omega, fun g => by omega⟩

end Go.Proofs.YtdaofffedfccmaaDoor.ClockP
