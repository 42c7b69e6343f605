/- The date of a number of seconds It has no conditions. -/
import Derived.Test.YtdaofffedfccmaaDoorYClock2
import Derived.Test.YtdaofffedfccmaaDoorXClockDatesx6
import Derived.Test.YtdaofffedfccmaaDoorXClockDatesx7
import Derived.BigRegion
import Derived.RegionTactic
import Derived.ChangeAlike
import Derived.Deep.RegionWith
import Derived.Deep.RegionLaw
import Derived.Laws.Tables
import Derived.Deep.QuietTactic
import Derived.BigQuiet
import Derived.Deep.RegionHeld3
import Derived.Deep.AppendLies
import Derived.Deep.DrawnRows
import Derived.Laws.CopyOwn
import Derived.Deep.MidRow
import Derived.Laws.ResultCell
import Derived.ChangeKeysEq
import Derived.Laws.BitsAllLaws
namespace Go.Proofs.YtdaofffedfccmaaDoor.ClockP
set_option linter.unusedVariables false
set_option linter.unusedSimpArgs false
open Go.RowKit Go.Proofs.YtdaofffedfccmaaDoorW.PrintWords Go.Proofs.YtdaofffedfccmaaDoorW.PrintLast Go.Proofs.YtdaofffedfccmaaDoorW.PrintMore
attribute [local go_sem] max2_int min2_int max_two min_two max_three min_three max_four min_four
open XClockDates
/-! ### The date of a number of seconds. -/
section
variable {P : Nat} {n : Int} (hP : P < 1536) (h1 : accp P ≤ n) (h2 : n < accp (P + 1))
include hP h1 h2
theorem day_l1 : ∀ e j, j + e = P % 12 → Ev (fun k => clock_day.l1 k (n - accp (12 * (P / 12) + j)) (1980 + ((P / 12 : Nat) : Int)) ((j : Int) + 1)) (1980 + ((P / 12 : Nat) : Int), ((P % 12 : Nat) : Int) + 1, n - accp P + 1, 0, 0, 0)
  | 0, j, he => by
    obtain rfl : j = P % 12 := by omega
    have e1 : 12 * (P / 12) + P % 12 = P := by omega
    have hd := days1 (1980 + ((P / 12 : Nat) : Int)) (((P % 12 : Nat) : Int) + 1) (by omega)
    have e2 : accp (P + 1) = accp P + dz (1980 + ((P / 12 : Nat) : Int)) (((P % 12 : Nat) : Int) + 1) := rfl
    have hdz := dz_le (1980 + ((P / 12 : Nat) : Int)) (((P % 12 : Nat) : Int) + 1)
    rw [e1]
    refine Ev.step (f := fun k => (clock_days.f k (1980 + ((P / 12 : Nat) : Int)) (((P % 12 : Nat) : Int) + 1)).bind fun t188 => (if n - accp P ≥ t188 then ((clock_days.f k (1980 + ((P / 12 : Nat) : Int)) (((P % 12 : Nat) : Int) + 1)).bind fun t189 => (clock_day.l1 k (wrap64 (n - accp P - t189)) (1980 + ((P / 12 : Nat) : Int)) (wrap64 (((P % 12 : Nat) : Int) + 1 + 1)))) else (some (1980 + ((P / 12 : Nat) : Int), ((P % 12 : Nat) : Int) + 1, wrap64 (n - accp P + 1), 0, 0, 0)))) (fun k => ?_) (Ev.bind (f := fun k t188 => (if n - accp P ≥ t188 then ((clock_days.f k (1980 + ((P / 12 : Nat) : Int)) (((P % 12 : Nat) : Int) + 1)).bind fun t189 => (clock_day.l1 k (wrap64 (n - accp P - t189)) (1980 + ((P / 12 : Nat) : Int)) (wrap64 (((P % 12 : Nat) : Int) + 1 + 1)))) else (some (1980 + ((P / 12 : Nat) : Int), ((P % 12 : Nat) : Int) + 1, wrap64 (n - accp P + 1), 0, 0, 0)))) hd ?_)
    · simp only [clock_day.l1]
    · refine Ev.congr (fun k => ?_) (Ev.now _)
      rw [if_neg (by omega), w64c (by omega) (by omega)]
  | e + 1, j, he => by
    have ih := day_l1 e (j + 1) (by omega)
    have hd := days1 (1980 + ((P / 12 : Nat) : Int)) ((j : Int) + 1) (by omega)
    have e2 : accp (12 * (P / 12) + (j + 1)) = accp (12 * (P / 12) + j) + dz (1980 + ((P / 12 : Nat) : Int)) ((j : Int) + 1) := by
      rw [← dzp_at (P / 12) j (by omega)]; rfl
    have hle := accp_le (show 12 * (P / 12) + (j + 1) ≤ P from by omega)
    have hdz := dz_le (1980 + ((P / 12 : Nat) : Int)) ((j : Int) + 1)
    have hs1 := accp_small (P + 1) (by omega)
    have hs2 := accp_nonneg (12 * (P / 12) + j)
    have ecast : ((j + 1 : Nat) : Int) + 1 = (j : Int) + 1 + 1 := by omega
    rw [e2, ecast] at ih
    refine Ev.step (f := fun k => (clock_days.f k (1980 + ((P / 12 : Nat) : Int)) ((j : Int) + 1)).bind fun t188 => (if n - accp (12 * (P / 12) + j) ≥ t188 then ((clock_days.f k (1980 + ((P / 12 : Nat) : Int)) ((j : Int) + 1)).bind fun t189 => (clock_day.l1 k (wrap64 (n - accp (12 * (P / 12) + j) - t189)) (1980 + ((P / 12 : Nat) : Int)) (wrap64 ((j : Int) + 1 + 1)))) else (some (1980 + ((P / 12 : Nat) : Int), (j : Int) + 1, wrap64 (n - accp (12 * (P / 12) + j) + 1), 0, 0, 0)))) (fun k => ?_) (Ev.bind (f := fun k t188 => (if n - accp (12 * (P / 12) + j) ≥ t188 then ((clock_days.f k (1980 + ((P / 12 : Nat) : Int)) ((j : Int) + 1)).bind fun t189 => (clock_day.l1 k (wrap64 (n - accp (12 * (P / 12) + j) - t189)) (1980 + ((P / 12 : Nat) : Int)) (wrap64 ((j : Int) + 1 + 1)))) else (some (1980 + ((P / 12 : Nat) : Int), (j : Int) + 1, wrap64 (n - accp (12 * (P / 12) + j) + 1), 0, 0, 0)))) hd ?_)
    · simp only [clock_day.l1]
    · refine Ev.congr (f := fun k => (clock_days.f k (1980 + ((P / 12 : Nat) : Int)) ((j : Int) + 1)).bind fun t189 => (clock_day.l1 k (wrap64 (n - accp (12 * (P / 12) + j) - t189)) (1980 + ((P / 12 : Nat) : Int)) (wrap64 ((j : Int) + 1 + 1)))) (fun k => ?_) (Ev.bind (f := fun k t189 => (clock_day.l1 k (wrap64 (n - accp (12 * (P / 12) + j) - t189)) (1980 + ((P / 12 : Nat) : Int)) (wrap64 ((j : Int) + 1 + 1)))) hd ?_)
      · rw [if_pos (by omega)]
      · refine Ev.congr (fun k => ?_) ih
        rw [w64c (x := (j : Int) + 1 + 1) (by omega) (by omega), w64c (by omega) (by omega), show n - accp (12 * (P / 12) + j) - dz (1980 + ((P / 12 : Nat) : Int)) ((j : Int) + 1) = n - (accp (12 * (P / 12) + j) + dz (1980 + ((P / 12 : Nat) : Int)) ((j : Int) + 1)) from by omega]
theorem day_l0 : ∀ e q, q + e = P / 12 → Ev (fun k => clock_day.l0 k n (1980 + (q : Int))) (1980 + ((P / 12 : Nat) : Int), ((P % 12 : Nat) : Int) + 1, n - accp P + 1, 0, 0, 0)
  | 0, q, he => by
    obtain rfl : q = P / 12 := by omega
    have hl := day_l1 hP h1 h2 (P % 12) 0 (by omega)
    have hle := accp_le (show P + 1 ≤ 12 * (P / 12 + 1) from by omega)
    have hs1 := accp_small (P + 1) (by omega)
    have hs2 := accp_nonneg (12 * (P / 12))
    have hs3 := accp_nonneg P
    have hle2 := accp_le (show 12 * (P / 12) ≤ P from by omega)
    have ec : (1980 : Int) + ((P / 12 : Nat) : Int) + 1 = 1980 + ((P / 12 + 1 : Nat) : Int) := by omega
    refine Ev.step (fun k => ?_) hl
    simp only [clock_day.l0]
    rw [w64c (x := 1980 + ((P / 12 : Nat) : Int) + 1) (by omega) (by omega), ec, ahead_f _ (by omega), Option.bind_some, if_neg (by omega), ahead_f _ (by omega), Option.bind_some, w64c (by omega) (by omega)]
    rfl
  | e + 1, q, he => by
    have ih := day_l0 e (q + 1) (by omega)
    have hle := accp_le (show 12 * (q + 1) ≤ P from by omega)
    have ec : (1980 : Int) + (q : Int) + 1 = 1980 + ((q + 1 : Nat) : Int) := by omega
    refine Ev.step (fun k => ?_) ih
    simp only [clock_day.l0]
    rw [w64c (x := 1980 + (q : Int) + 1) (by omega) (by omega), ec, ahead_f _ (by omega), Option.bind_some, if_pos (by omega)]
theorem day_ev : Ev (fun k => clock_day.f k n) (1980 + ((P / 12 : Nat) : Int), ((P % 12 : Nat) : Int) + 1, n - accp P + 1, 0, 0, 0) := by
  have hs1 := accp_small (P + 1) (by omega)
  have hs3 := accp_nonneg P
  have hle := accp_le (show P + 1 ≤ 12 * (P / 12 + 1) from by omega)
  have hup := (accp_up (P / 12 + 1) (by omega)).1
  obtain ⟨m, rfl⟩ := Int.eq_ofNat_of_zero_le (show 0 ≤ n from by omega)
  have hq : m / 366 ≤ P / 12 := by omega
  have h := day_l0 hP h1 h2 (P / 12 - m / 366) (m / 366) (by omega)
  refine Ev.congr (fun k => ?_) h
  unfold clock_day.f
  rw [Int.tdiv_eq_ediv_of_nonneg (by omega), w64c (x := (m : Int) / 366) (by omega) (by omega), w64c (by omega) (by omega)]
  rfl
/-- The document's months: one by one. -/
theorem dat_l (rest : Int) : ∀ e p, p + e = P → Ev (fun k => montageref41_At.l1 k rest (n - accp p) (1980 + ((p / 12 : Nat) : Int)) (((p % 12 : Nat) : Int) + 1)) (1980 + ((P / 12 : Nat) : Int), ((P % 12 : Nat) : Int) + 1, n - accp P + 1, wrap64 (Int.tdiv rest 3600), Int.tmod (wrap64 (Int.tdiv rest 60)) 60, wrap64 ((wrap64 (Int.tdiv (Int.tmod rest 60) 2)) * 2), 0)
  | 0, p, he => by
    obtain rfl : p = P := by omega
    have hd := days2 (1980 + ((p / 12 : Nat) : Int)) (((p % 12 : Nat) : Int) + 1) (by omega)
    have e2 : accp (p + 1) = accp p + dz (1980 + ((p / 12 : Nat) : Int)) (((p % 12 : Nat) : Int) + 1) := rfl
    have hdz := dz_le (1980 + ((p / 12 : Nat) : Int)) (((p % 12 : Nat) : Int) + 1)
    refine Ev.step (f := fun k => (montageref41_days.f k (1980 + ((p / 12 : Nat) : Int)) (((p % 12 : Nat) : Int) + 1)).bind fun t249 => (if n - accp p < t249 then (some (1980 + ((p / 12 : Nat) : Int), ((p % 12 : Nat) : Int) + 1, wrap64 (n - accp p + 1), wrap64 (Int.tdiv rest 3600), Int.tmod (wrap64 (Int.tdiv rest 60)) 60, wrap64 ((wrap64 (Int.tdiv (Int.tmod rest 60) 2)) * 2), 0)) else ((montageref41_days.f k (1980 + ((p / 12 : Nat) : Int)) (((p % 12 : Nat) : Int) + 1)).bind fun t250 => (montageref41_At.l1 k rest (wrap64 (n - accp p - t250)) (1980 + ((p / 12 : Nat) : Int)) (wrap64 (((p % 12 : Nat) : Int) + 1 + 1)))))) (fun k => ?_) (Ev.bind (f := fun k t249 => (if n - accp p < t249 then (some (1980 + ((p / 12 : Nat) : Int), ((p % 12 : Nat) : Int) + 1, wrap64 (n - accp p + 1), wrap64 (Int.tdiv rest 3600), Int.tmod (wrap64 (Int.tdiv rest 60)) 60, wrap64 ((wrap64 (Int.tdiv (Int.tmod rest 60) 2)) * 2), 0)) else ((montageref41_days.f k (1980 + ((p / 12 : Nat) : Int)) (((p % 12 : Nat) : Int) + 1)).bind fun t250 => (montageref41_At.l1 k rest (wrap64 (n - accp p - t250)) (1980 + ((p / 12 : Nat) : Int)) (wrap64 (((p % 12 : Nat) : Int) + 1 + 1)))))) hd ?_)
    · simp only [montageref41_At.l1]
      rw [if_pos (by omega)]
    · refine Ev.congr (fun k => ?_) (Ev.now _)
      rw [if_pos (by omega), w64c (x := n - accp p + 1) (by omega) (by omega)]
  | e + 1, p, he => by
    have ih := dat_l rest e (p + 1) (by omega)
    have hd := days2 (1980 + ((p / 12 : Nat) : Int)) (((p % 12 : Nat) : Int) + 1) (by omega)
    have e2 : accp (p + 1) = accp p + dz (1980 + ((p / 12 : Nat) : Int)) (((p % 12 : Nat) : Int) + 1) := rfl
    have hle := accp_le (show p + 1 ≤ P from by omega)
    have hdz := dz_le (1980 + ((p / 12 : Nat) : Int)) (((p % 12 : Nat) : Int) + 1)
    have hs1 := accp_small (P + 1) (by omega)
    have hs2 := accp_nonneg p
    have next : Ev (fun k => montageref41_At.l1 k rest (n - accp p - dz (1980 + ((p / 12 : Nat) : Int)) (((p % 12 : Nat) : Int) + 1)) (1980 + ((p / 12 : Nat) : Int)) (((p % 12 : Nat) : Int) + 1 + 1)) (1980 + ((P / 12 : Nat) : Int), ((P % 12 : Nat) : Int) + 1, n - accp P + 1, wrap64 (Int.tdiv rest 3600), Int.tmod (wrap64 (Int.tdiv rest 60)) 60, wrap64 ((wrap64 (Int.tdiv (Int.tmod rest 60) 2)) * 2), 0) := by
      rw [e2, show n - (accp p + dz (1980 + ((p / 12 : Nat) : Int)) (((p % 12 : Nat) : Int) + 1)) = n - accp p - dz (1980 + ((p / 12 : Nat) : Int)) (((p % 12 : Nat) : Int) + 1) from by omega] at ih
      by_cases hlast : p % 12 = 11
      · have a1 : (p + 1) / 12 = p / 12 + 1 := by omega
        have a2 : (p + 1) % 12 = 0 := by omega
        rw [a1, a2] at ih
        have ec : (1980 : Int) + ((p / 12 + 1 : Nat) : Int) = 1980 + ((p / 12 : Nat) : Int) + 1 := by omega
        rw [ec] at ih
        refine Ev.step (f := fun k => montageref41_At.l0 k rest (n - accp p - dz (1980 + ((p / 12 : Nat) : Int)) (((p % 12 : Nat) : Int) + 1)) (1980 + ((p / 12 : Nat) : Int) + 1)) (fun k => ?_) (Ev.step (fun k => ?_) ih)
        · simp only [montageref41_At.l1]
          rw [if_neg (by omega), w64c (x := 1980 + ((p / 12 : Nat) : Int) + 1) (by omega) (by omega)]
        · simp only [montageref41_At.l0]
          rw [if_pos (by omega)]
          rfl
      · have a1 : (p + 1) / 12 = p / 12 := by omega
        have a2 : (p + 1) % 12 = p % 12 + 1 := by omega
        rw [a1, a2] at ih
        exact ih
    refine Ev.step (f := fun k => (montageref41_days.f k (1980 + ((p / 12 : Nat) : Int)) (((p % 12 : Nat) : Int) + 1)).bind fun t249 => (if n - accp p < t249 then (some (1980 + ((p / 12 : Nat) : Int), ((p % 12 : Nat) : Int) + 1, wrap64 (n - accp p + 1), wrap64 (Int.tdiv rest 3600), Int.tmod (wrap64 (Int.tdiv rest 60)) 60, wrap64 ((wrap64 (Int.tdiv (Int.tmod rest 60) 2)) * 2), 0)) else ((montageref41_days.f k (1980 + ((p / 12 : Nat) : Int)) (((p % 12 : Nat) : Int) + 1)).bind fun t250 => (montageref41_At.l1 k rest (wrap64 (n - accp p - t250)) (1980 + ((p / 12 : Nat) : Int)) (wrap64 (((p % 12 : Nat) : Int) + 1 + 1)))))) (fun k => ?_) (Ev.bind (f := fun k t249 => (if n - accp p < t249 then (some (1980 + ((p / 12 : Nat) : Int), ((p % 12 : Nat) : Int) + 1, wrap64 (n - accp p + 1), wrap64 (Int.tdiv rest 3600), Int.tmod (wrap64 (Int.tdiv rest 60)) 60, wrap64 ((wrap64 (Int.tdiv (Int.tmod rest 60) 2)) * 2), 0)) else ((montageref41_days.f k (1980 + ((p / 12 : Nat) : Int)) (((p % 12 : Nat) : Int) + 1)).bind fun t250 => (montageref41_At.l1 k rest (wrap64 (n - accp p - t250)) (1980 + ((p / 12 : Nat) : Int)) (wrap64 (((p % 12 : Nat) : Int) + 1 + 1)))))) hd ?_)
    · simp only [montageref41_At.l1]
      rw [if_pos (by omega)]
    · refine Ev.congr (f := fun k => (montageref41_days.f k (1980 + ((p / 12 : Nat) : Int)) (((p % 12 : Nat) : Int) + 1)).bind fun t250 => (montageref41_At.l1 k rest (wrap64 (n - accp p - t250)) (1980 + ((p / 12 : Nat) : Int)) (wrap64 (((p % 12 : Nat) : Int) + 1 + 1)))) (fun k => ?_) (Ev.bind (f := fun k t250 => (montageref41_At.l1 k rest (wrap64 (n - accp p - t250)) (1980 + ((p / 12 : Nat) : Int)) (wrap64 (((p % 12 : Nat) : Int) + 1 + 1)))) hd ?_)
      · rw [if_neg (by omega)]
      · refine Ev.congr (fun k => ?_) next
        rw [w64c (x := ((p % 12 : Nat) : Int) + 1 + 1) (by omega) (by omega), w64c (by omega) (by omega)]
end
/-- .. and none of them: too late. -/
theorem dat_no (rest n : Int) (hn : accp 1536 ≤ n) (hb : n ≤ 200000000000000) : ∀ e p, p + e = 1536 → Ev (fun k => montageref41_At.l1 k rest (n - accp p) (1980 + ((p / 12 : Nat) : Int)) (((p % 12 : Nat) : Int) + 1)) (0, 0, 0, 0, 0, 0, 7) ∨ e = 0
  | 0, p, he => .inr rfl
  | e + 1, p, he => by
    left
    have hd := days2 (1980 + ((p / 12 : Nat) : Int)) (((p % 12 : Nat) : Int) + 1) (by omega)
    have e2 : accp (p + 1) = accp p + dz (1980 + ((p / 12 : Nat) : Int)) (((p % 12 : Nat) : Int) + 1) := rfl
    have hle := accp_le (show p + 1 ≤ 1536 from by omega)
    have hdz := dz_le (1980 + ((p / 12 : Nat) : Int)) (((p % 12 : Nat) : Int) + 1)
    have hs1 := accp_small 1536 (by omega)
    have hs2 := accp_nonneg p
    have next : Ev (fun k => montageref41_At.l1 k rest (n - accp p - dz (1980 + ((p / 12 : Nat) : Int)) (((p % 12 : Nat) : Int) + 1)) (1980 + ((p / 12 : Nat) : Int)) (((p % 12 : Nat) : Int) + 1 + 1)) (0, 0, 0, 0, 0, 0, 7) := by
      by_cases hlast : p % 12 = 11
      · have step0 : Ev (fun k => montageref41_At.l0 k rest (n - accp p - dz (1980 + ((p / 12 : Nat) : Int)) (((p % 12 : Nat) : Int) + 1)) (1980 + ((p / 12 : Nat) : Int) + 1)) (0, 0, 0, 0, 0, 0, 7) := by
          rcases dat_no rest n hn hb e (p + 1) (by omega) with ih | ih
          · rw [e2, show n - (accp p + dz (1980 + ((p / 12 : Nat) : Int)) (((p % 12 : Nat) : Int) + 1)) = n - accp p - dz (1980 + ((p / 12 : Nat) : Int)) (((p % 12 : Nat) : Int) + 1) from by omega, show (p + 1) / 12 = p / 12 + 1 from by omega, show (p + 1) % 12 = 0 from by omega, show (1980 : Int) + ((p / 12 + 1 : Nat) : Int) = 1980 + ((p / 12 : Nat) : Int) + 1 from by omega] at ih
            by_cases hy : 1980 + ((p / 12 : Nat) : Int) + 1 ≤ 2107
            · refine Ev.step (fun k => ?_) ih
              simp only [montageref41_At.l0]
              rw [if_pos hy]
              rfl
            · refine Ev.step (f := fun _ => some (0, 0, 0, 0, 0, 0, 7)) (fun k => ?_) (Ev.now _)
              simp only [montageref41_At.l0]
              rw [if_neg hy]
          · refine Ev.step (f := fun _ => some (0, 0, 0, 0, 0, 0, 7)) (fun k => ?_) (Ev.now _)
            simp only [montageref41_At.l0]
            rw [if_neg (by omega)]
        refine Ev.step (fun k => ?_) step0
        simp only [montageref41_At.l1]
        rw [if_neg (by omega), w64c (x := 1980 + ((p / 12 : Nat) : Int) + 1) (by omega) (by omega)]
      · rcases dat_no rest n hn hb e (p + 1) (by omega) with ih | ih
        · rw [e2, show n - (accp p + dz (1980 + ((p / 12 : Nat) : Int)) (((p % 12 : Nat) : Int) + 1)) = n - accp p - dz (1980 + ((p / 12 : Nat) : Int)) (((p % 12 : Nat) : Int) + 1) from by omega, show (p + 1) / 12 = p / 12 from by omega, show (p + 1) % 12 = p % 12 + 1 from by omega] at ih
          exact ih
        · omega
    refine Ev.step (f := fun k => (montageref41_days.f k (1980 + ((p / 12 : Nat) : Int)) (((p % 12 : Nat) : Int) + 1)).bind fun t249 => (if n - accp p < t249 then (some (1980 + ((p / 12 : Nat) : Int), ((p % 12 : Nat) : Int) + 1, wrap64 (n - accp p + 1), wrap64 (Int.tdiv rest 3600), Int.tmod (wrap64 (Int.tdiv rest 60)) 60, wrap64 ((wrap64 (Int.tdiv (Int.tmod rest 60) 2)) * 2), 0)) else ((montageref41_days.f k (1980 + ((p / 12 : Nat) : Int)) (((p % 12 : Nat) : Int) + 1)).bind fun t250 => (montageref41_At.l1 k rest (wrap64 (n - accp p - t250)) (1980 + ((p / 12 : Nat) : Int)) (wrap64 (((p % 12 : Nat) : Int) + 1 + 1)))))) (fun k => ?_) (Ev.bind (f := fun k t249 => (if n - accp p < t249 then (some (1980 + ((p / 12 : Nat) : Int), ((p % 12 : Nat) : Int) + 1, wrap64 (n - accp p + 1), wrap64 (Int.tdiv rest 3600), Int.tmod (wrap64 (Int.tdiv rest 60)) 60, wrap64 ((wrap64 (Int.tdiv (Int.tmod rest 60) 2)) * 2), 0)) else ((montageref41_days.f k (1980 + ((p / 12 : Nat) : Int)) (((p % 12 : Nat) : Int) + 1)).bind fun t250 => (montageref41_At.l1 k rest (wrap64 (n - accp p - t250)) (1980 + ((p / 12 : Nat) : Int)) (wrap64 (((p % 12 : Nat) : Int) + 1 + 1)))))) hd ?_)
    · simp only [montageref41_At.l1]
      rw [if_pos (by omega)]
    · refine Ev.congr (f := fun k => (montageref41_days.f k (1980 + ((p / 12 : Nat) : Int)) (((p % 12 : Nat) : Int) + 1)).bind fun t250 => (montageref41_At.l1 k rest (wrap64 (n - accp p - t250)) (1980 + ((p / 12 : Nat) : Int)) (wrap64 (((p % 12 : Nat) : Int) + 1 + 1)))) (fun k => ?_) (Ev.bind (f := fun k t250 => (montageref41_At.l1 k rest (wrap64 (n - accp p - t250)) (1980 + ((p / 12 : Nat) : Int)) (wrap64 (((p % 12 : Nat) : Int) + 1 + 1)))) hd ?_)
      · rw [if_neg (by omega)]
      · refine Ev.congr (fun k => ?_) next
        rw [w64c (x := ((p % 12 : Nat) : Int) + 1 + 1) (by omega) (by omega), w64c (by omega) (by omega)]
theorem andNot1 : ∀ x : Fin 60, Go.bits .andNot .i64 ((x.val : Nat) : Int) 1 = ((x.val / 2 * 2 : Nat) : Int) := by decide +kernel
/-- The date so many seconds behind the beginning, as six numbers and 0. -/
def atT (P : Nat) (z : Int) : Int × Int × Int × Int × Int × Int × Int := (1980 + ((P / 12 : Nat) : Int), ((P % 12 : Nat) : Int) + 1, z / 86400 - accp P + 1, z % 86400 / 3600, z % 86400 / 60 % 60, z % 60 / 2 * 2, 0)
theorem at_ok (z : Int) (hz : 0 ≤ z) (P : Nat) (hP : P < 1536) (h1 : accp P ≤ z / 86400) (h2 : z / 86400 < accp (P + 1)) : Ev (fun k => clock_At.f k z) (atT P z) ∧ Ev (fun k => montageref41_At.f k z) (atT P z) := by
  have hs1 := accp_small (P + 1) (by omega)
  have hle := accp_le (show P + 1 ≤ 1536 from by omega)
  have hmod : Int.tmod z 86400 = z % 86400 := Int.tmod_eq_emod_of_nonneg hz
  have hdiv : Int.tdiv z 86400 = z / 86400 := Int.tdiv_eq_ediv_of_nonneg hz
  have hr0 : 0 ≤ z % 86400 := by omega
  constructor
  · have hd := day_ev hP h1 h2
    have ha : clock_ahead.f 2108 = some (accp 1536) := ahead_f 128 (by omega)
    have hand : Go.bits .andNot .i64 (z % 86400 % 60) 1 = z % 60 / 2 * 2 := by
      rw [show z % 86400 % 60 = z % 60 from by omega]
      obtain ⟨m, hm⟩ := Int.eq_ofNat_of_zero_le (show 0 ≤ z % 60 from by omega)
      rw [hm, andNot1 ⟨m, by omega⟩]
      rfl
    refine Ev.congr (f := fun k => (clock_day.f k (z / 86400)).bind fun b => some (b.1, b.2.1, b.2.2.1, z % 86400 / 3600, z % 86400 / 60 % 60, z % 60 / 2 * 2, (0 : Int))) (fun k => ?_) (Ev.bind (f := fun k b => some (b.1, b.2.1, b.2.2.1, z % 86400 / 3600, z % 86400 / 60 % 60, z % 60 / 2 * 2, (0 : Int))) hd (Ev.now _))
    unfold clock_At.f
    rw [if_neg (by omega), if_pos (by omega), ha, Option.bind_some, if_neg (by omega), hand]
  · have h := dat_l hP h1 h2 (z % 86400) P 0 (by omega)
    have e0 : accp 0 = 0 := rfl
    rw [e0, Int.sub_zero] at h
    have et : (1980 + ((P / 12 : Nat) : Int), ((P % 12 : Nat) : Int) + 1, z / 86400 - accp P + 1, wrap64 (Int.tdiv (z % 86400) 3600), Int.tmod (wrap64 (Int.tdiv (z % 86400) 60)) 60, wrap64 ((wrap64 (Int.tdiv (Int.tmod (z % 86400) 60) 2)) * 2), (0 : Int)) = atT P z := by
      unfold atT
      have a1 : 0 ≤ z % 86400 % 60 := by omega
      rw [Int.tdiv_eq_ediv_of_nonneg hr0, Int.tdiv_eq_ediv_of_nonneg hr0, Int.tmod_eq_emod_of_nonneg hr0, Int.tdiv_eq_ediv_of_nonneg a1, w64c (x := z % 86400 / 3600) (by omega) (by omega), w64c (x := z % 86400 / 60) (by omega) (by omega), Int.tmod_eq_emod_of_nonneg (show 0 ≤ z % 86400 / 60 from by omega), w64c (x := z % 86400 % 60 / 2) (by omega) (by omega), w64c (by omega) (by omega), show z % 86400 % 60 = z % 60 from by omega]
    rw [et] at h
    refine Ev.congr (f := fun k => montageref41_At.l0 k (z % 86400) (z / 86400) 1980) (fun k => ?_) (Ev.step (fun k => ?_) h)
    · unfold montageref41_At.f
      rw [if_neg (by omega), hmod, hdiv, w64c (by omega) (by omega)]
    · simp only [montageref41_At.l0]
      rw [if_pos (by omega)]
      rfl
theorem at_no (z : Int) (hw : z ≤ 9223372036854775807) (hz : z < 0 ∨ accp 1536 ≤ z / 86400) : Ev (fun k => clock_At.f k z) (0, 0, 0, 0, 0, 0, 7) ∧ Ev (fun k => montageref41_At.f k z) (0, 0, 0, 0, 0, 0, 7) := by
  by_cases h0 : z < 0
  · constructor
    · refine Ev.congr (fun k => ?_) (Ev.now _)
      unfold clock_At.f
      rw [if_pos h0]
    · refine Ev.congr (fun k => ?_) (Ev.now _)
      unfold montageref41_At.f
      rw [if_pos h0]
  · have hlate : accp 1536 ≤ z / 86400 := hz.resolve_left h0
    have hmod : Int.tmod z 86400 = z % 86400 := Int.tmod_eq_emod_of_nonneg (by omega)
    have hdiv : Int.tdiv z 86400 = z / 86400 := Int.tdiv_eq_ediv_of_nonneg (by omega)
    constructor
    · have ha : clock_ahead.f 2108 = some (accp 1536) := ahead_f 128 (by omega)
      refine Ev.congr (fun k => ?_) (Ev.now _)
      unfold clock_At.f
      rw [if_neg h0, if_pos hw, ha, Option.bind_some, if_pos hlate]
    · rcases dat_no (z % 86400) (z / 86400) hlate (by omega) 1536 0 (by omega) with h | h
      · have e0 : accp 0 = 0 := rfl
        rw [e0, Int.sub_zero] at h
        refine Ev.congr (f := fun k => montageref41_At.l0 k (z % 86400) (z / 86400) 1980) (fun k => ?_) (Ev.step (fun k => ?_) h)
        · unfold montageref41_At.f
          rw [if_neg h0, hmod, hdiv, w64c (by omega) (by omega)]
        · simp only [montageref41_At.l0]
          rw [if_pos (by omega)]
          rfl
      · omega

end Go.Proofs.YtdaofffedfccmaaDoor.ClockP
