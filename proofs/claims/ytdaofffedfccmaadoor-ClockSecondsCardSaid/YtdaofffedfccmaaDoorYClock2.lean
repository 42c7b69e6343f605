/- Months and dates It has no conditions. -/
import Derived.Test.YtdaofffedfccmaaDoorYClock1
import Derived.Test.YtdaofffedfccmaaDoorXClockDatesx5
import Derived.BigRegion
import Derived.RegionTactic
import Derived.ChangeAlike
import Derived.Deep.RegionWith
import Derived.Deep.RegionLaw
import Derived.Laws.Tables
import Derived.Deep.QuietTactic
import Derived.BigQuiet
import Derived.Deep.RegionHeld3
import Derived.Deep.AppendLies
import Derived.Deep.DrawnRows
import Derived.Laws.CopyOwn
import Derived.Deep.MidRow
import Derived.Laws.ResultCell
import Derived.ChangeKeysEq
import Derived.Laws.BitsAllLaws
namespace Go.Proofs.YtdaofffedfccmaaDoor.ClockP
set_option linter.unusedVariables false
set_option linter.unusedSimpArgs false
open Go.RowKit Go.Proofs.YtdaofffedfccmaaDoorW.PrintWords Go.Proofs.YtdaofffedfccmaaDoorW.PrintLast Go.Proofs.YtdaofffedfccmaaDoorW.PrintMore
attribute [local go_sem] max2_int min2_int max_two min_two max_three min_three max_four min_four
open XClockDates
/-! ### Months one behind the other. -/
def dzp (p : Nat) : Int := dz (1980 + ((p / 12 : Nat) : Int)) (((p % 12 : Nat) : Int) + 1)
def accp : Nat → Int
  | 0 => 0
  | p + 1 => accp p + dzp p
theorem dzp_at (q j : Nat) (hj : j < 12) : dzp (12 * q + j) = dz (1980 + (q : Int)) ((j : Int) + 1) := by
  unfold dzp
  rw [show (12 * q + j) / 12 = q from by omega, show (12 * q + j) % 12 = j from by omega]
theorem dzp_le (p : Nat) : 28 ≤ dzp p ∧ dzp p ≤ 31 := dz_le _ _
theorem accp_mono : ∀ (e p : Nat), accp p + 28 * (e : Int) ≤ accp (p + e)
  | 0, p => by simp
  | e + 1, p => by
    have h1 := accp_mono e p
    have h2 := dzp_le (p + e)
    have h3 : accp (p + (e + 1)) = accp (p + e) + dzp (p + e) := rfl
    omega
theorem accp_le {p q : Nat} (h : p ≤ q) : accp p ≤ accp q := by
  have := accp_mono (q - p) p
  rw [show p + (q - p) = q from by omega] at this
  omega
theorem accp_lt {p q : Nat} (h : p < q) : accp p < accp q := by
  have := accp_mono (q - p) p
  rw [show p + (q - p) = q from by omega] at this
  omega
theorem accp_nonneg (p : Nat) : 0 ≤ accp p := by
  have := accp_mono p 0
  have e : accp 0 = 0 := rfl
  rw [Nat.zero_add] at this
  omega
theorem year_days (y : Int) : cntZ y - cntZ (y - 1) = 337 + dz y 2 := by
  unfold cntZ dz
  rw [if_pos rfl]
  by_cases hl : leapZ y
  · rw [if_pos hl]
    unfold leapZ at hl
    omega
  · rw [if_neg hl]
    unfold leapZ at hl
    omega
theorem accp_year : ∀ q : Nat, accp (12 * q) = cntZ (1979 + (q : Int)) - cntZ 1979
  | 0 => by simp [accp]
  | q + 1 => by
    have ih := accp_year q
    have e : accp (12 * (q + 1)) = accp (12 * q) + dzp (12 * q) + dzp (12 * q + 1) + dzp (12 * q + 2) + dzp (12 * q + 3) + dzp (12 * q + 4) + dzp (12 * q + 5) + dzp (12 * q + 6) + dzp (12 * q + 7) + dzp (12 * q + 8) + dzp (12 * q + 9) + dzp (12 * q + 10) + dzp (12 * q + 11) := rfl
    have d0 := dzp_at q 0 (by omega)
    have d1 := dzp_at q 1 (by omega)
    have d2 := dzp_at q 2 (by omega)
    have d3 := dzp_at q 3 (by omega)
    have d4 := dzp_at q 4 (by omega)
    have d5 := dzp_at q 5 (by omega)
    have d6 := dzp_at q 6 (by omega)
    have d7 := dzp_at q 7 (by omega)
    have d8 := dzp_at q 8 (by omega)
    have d9 := dzp_at q 9 (by omega)
    have d10 := dzp_at q 10 (by omega)
    have d11 := dzp_at q 11 (by omega)
    have hy := year_days (1980 + (q : Int))
    rw [show (1980 + (q : Int)) - 1 = 1979 + (q : Int) from by omega] at hy
    rw [e, ih, show (1979 : Int) + ((q + 1 : Nat) : Int) = 1980 + (q : Int) from by omega]
    rw [Nat.add_zero] at d0
    rw [d0, d1, d2, d3, d4, d5, d6, d7, d8, d9, d10, d11]
    have k1 : dz (1980 + (q : Int)) (((0 : Nat) : Int) + 1) = 31 := by unfold dz; simp
    have k2 : dz (1980 + (q : Int)) (((1 : Nat) : Int) + 1) = dz (1980 + (q : Int)) 2 := rfl
    have k3 : dz (1980 + (q : Int)) (((2 : Nat) : Int) + 1) = 31 := by unfold dz; simp
    have k4 : dz (1980 + (q : Int)) (((3 : Nat) : Int) + 1) = 30 := by unfold dz; simp
    have k5 : dz (1980 + (q : Int)) (((4 : Nat) : Int) + 1) = 31 := by unfold dz; simp
    have k6 : dz (1980 + (q : Int)) (((5 : Nat) : Int) + 1) = 30 := by unfold dz; simp
    have k7 : dz (1980 + (q : Int)) (((6 : Nat) : Int) + 1) = 31 := by unfold dz; simp
    have k8 : dz (1980 + (q : Int)) (((7 : Nat) : Int) + 1) = 31 := by unfold dz; simp
    have k9 : dz (1980 + (q : Int)) (((8 : Nat) : Int) + 1) = 30 := by unfold dz; simp
    have k10 : dz (1980 + (q : Int)) (((9 : Nat) : Int) + 1) = 31 := by unfold dz; simp
    have k11 : dz (1980 + (q : Int)) (((10 : Nat) : Int) + 1) = 30 := by unfold dz; simp
    have k12 : dz (1980 + (q : Int)) (((11 : Nat) : Int) + 1) = 31 := by unfold dz; simp
    rw [k1, k2, k3, k4, k5, k6, k7, k8, k9, k10, k11, k12]
    omega
theorem accp_up (q : Nat) (hq : q ≤ 200) : accp (12 * q) ≤ 366 * (q : Int) ∧ 365 * (q : Int) ≤ accp (12 * q) := by
  rw [accp_year]
  have e : cntZ 1979 = 722814 := by decide
  rw [e]
  unfold cntZ
  omega
theorem ahead_f (q : Nat) (hq : q ≤ 200) : clock_ahead.f (1980 + (q : Int)) = some (accp (12 * q)) := by
  unfold clock_ahead.f
  rw [if_pos (by omega), accp_year, show 1980 + (q : Int) - 1 = 1979 + (q : Int) from by omega]
theorem month_of : ∀ (B : Nat) (n : Int), 0 ≤ n → n < accp B → ∃ p, p < B ∧ accp p ≤ n ∧ n < accp (p + 1)
  | 0, n, h0, h1 => by
    have : accp 0 = 0 := rfl
    omega
  | B + 1, n, h0, h1 => by
    by_cases h : n < accp B
    · obtain ⟨p, a, b, c⟩ := month_of B n h0 h
      exact ⟨p, by omega, b, c⟩
    · exact ⟨B, by omega, by omega, h1⟩
theorem month_uniq {p q : Nat} {n : Int} (h1 : accp p ≤ n) (h2 : n < accp (p + 1)) (h3 : accp q ≤ n) (h4 : n < accp (q + 1)) : p = q := by
  rcases Nat.lt_trichotomy p q with h | h | h
  · have := accp_le (show p + 1 ≤ q from h); omega
  · exact h
  · have := accp_le (show q + 1 ≤ p from h); omega
/-! ### Seconds. -/
def secZ (q j : Nat) (d h mi s : Int) : Int := 86400 * (accp (12 * q + j) + d - 1) + 3600 * h + 60 * mi + s
theorem accp_small (p : Nat) (hp : p ≤ 1600) : accp p ≤ 60000 := by
  have h1 := accp_le (show p ≤ 12 * 134 from by omega)
  have h2 := (accp_up 134 (by omega)).1
  omega
section
variable {q j0 : Nat} {d h mi s : Int} (hq : q ≤ 127) (hj : j0 < 12) (hd : 1 ≤ d ∧ d ≤ 31) (hh : 0 ≤ h ∧ h ≤ 23) (hmi : 0 ≤ mi ∧ mi ≤ 59) (hs : 0 ≤ s ∧ s ≤ 58)
include hq hj hd hh hmi hs
theorem sec_l0 : ∀ e j, j + e = j0 → Ev (fun k => clock_Seconds.l0 k (accp (12 * q + j) + d - 1) ((j : Int) + 1) (1980 + (q : Int)) ((j0 : Int) + 1) d h mi s) (secZ q j0 d h mi s, 0)
  | 0, j, hj2 => by
    obtain rfl : j = j0 := by omega
    have h1 := accp_small (12 * q + j) (by omega)
    have h2 := accp_nonneg (12 * q + j)
    refine Ev.step (f := fun _ => some (secZ q j d h mi s, 0)) (fun k => ?_) (Ev.now _)
    simp only [clock_Seconds.l0]
    rw [if_neg (by omega), w64c (x := h * 3600) (by omega) (by omega), w64c (x := mi * 60) (by omega) (by omega), w64c (x := (accp (12 * q + j) + d - 1) * 86400) (by omega) (by omega), w64c (x := (accp (12 * q + j) + d - 1) * 86400 + h * 3600) (by omega) (by omega), w64c (x := (accp (12 * q + j) + d - 1) * 86400 + h * 3600 + mi * 60) (by omega) (by omega), w64c (by omega) (by omega)]
    unfold secZ
    rw [show (accp (12 * q + j) + d - 1) * 86400 + h * 3600 + mi * 60 + s = 86400 * (accp (12 * q + j) + d - 1) + 3600 * h + 60 * mi + s from by omega]
  | e + 1, j, hj2 => by
    have ih := sec_l0 e (j + 1) (by omega)
    have h1 := accp_small (12 * q + (j + 1)) (by omega)
    have h2 := accp_nonneg (12 * q + (j + 1))
    have h3 : accp (12 * q + (j + 1)) = accp (12 * q + j) + dz (1980 + (q : Int)) ((j : Int) + 1) := by
      rw [← dzp_at q j (by omega)]; rfl
    refine Ev.step (f := fun k => (clock_days.f k (1980 + (q : Int)) ((j : Int) + 1)).bind fun t113 => (clock_Seconds.l0 k (wrap64 (accp (12 * q + j) + d - 1 + t113)) (wrap64 ((j : Int) + 1 + 1)) (1980 + (q : Int)) ((j0 : Int) + 1) d h mi s)) (fun k => ?_) (Ev.bind (f := fun k t113 => (clock_Seconds.l0 k (wrap64 (accp (12 * q + j) + d - 1 + t113)) (wrap64 ((j : Int) + 1 + 1)) (1980 + (q : Int)) ((j0 : Int) + 1) d h mi s)) (days1 _ _ (by omega)) ?_)
    · simp only [clock_Seconds.l0]
      rw [if_pos (by omega)]
    · refine Ev.congr (fun k => ?_) ih
      rw [w64c (x := (j : Int) + 1 + 1) (by omega) (by omega), w64c (x := accp (12 * q + j) + d - 1 + dz (1980 + (q : Int)) ((j : Int) + 1)) (by omega) (by omega), h3, show accp (12 * q + j) + d - 1 + dz (1980 + (q : Int)) ((j : Int) + 1) = accp (12 * q + j) + dz (1980 + (q : Int)) ((j : Int) + 1) + d - 1 from by omega]
      rfl
theorem sec_ev (hmay : MayP (1980 + (q : Int)) ((j0 : Int) + 1) d h mi s) : Ev (fun k => clock_Seconds.f k (1980 + (q : Int)) ((j0 : Int) + 1) d h mi s) (secZ q j0 d h mi s, 0) := by
  have h1 := accp_small (12 * q) (by omega)
  have h2 := accp_nonneg (12 * q)
  have hr := right_ev (1980 + (q : Int)) ((j0 : Int) + 1) d h mi s
  rw [decide_eq_true hmay] at hr
  have h0 := sec_l0 hq hj hd hh hmi hs j0 0 (by omega)
  unfold clock_Seconds.f
  refine Ev.bind (f := fun k (t111 : Bool) => (if t111 = true then ((clock_ahead.f (1980 + (q : Int))).bind fun t112 => (clock_Seconds.l0 k (wrap64 ((wrap64 (t112 + d)) - 1)) 1 (1980 + (q : Int)) ((j0 : Int) + 1) d h mi s)) else (some (0, 1)))) hr ?_
  refine Ev.congr (fun k => ?_) h0
  rw [if_pos rfl, ahead_f q (by omega), Option.bind_some, w64c (x := accp (12 * q) + d) (by omega) (by omega), w64c (by omega) (by omega)]
  rfl
omit hh hmi hs in
theorem dsec_l1 (q' : Nat) (hq' : q' ≤ q) {r : Int} (hn : Ev (fun k => montageref41_Seconds.l0 k (accp (min (12 * (q' + 1)) (12 * q + j0)) + d - 1) (1980 + (q' : Int) + 1) (1980 + (q : Int)) ((j0 : Int) + 1) d h mi s) r) :
    ∀ e j, j + e = 12 → Ev (fun k => montageref41_Seconds.l1 k (accp (min (12 * q' + j) (12 * q + j0)) + d - 1) (1980 + (q' : Int)) ((j : Int) + 1) (1980 + (q : Int)) ((j0 : Int) + 1) d h mi s) r
  | 0, j, he => by
    obtain rfl : j = 12 := by omega
    refine Ev.step (fun k => ?_) hn
    simp only [montageref41_Seconds.l1]
    rw [if_neg (by omega), w64c (by omega) (by omega)]
    rfl
  | e + 1, j, he => by
    have ih := dsec_l1 q' hq' hn e (j + 1) (by omega)
    have hmono := accp_small (12 * q + j0) (by omega)
    have hm2 := accp_le (show min (12 * q' + j) (12 * q + j0) ≤ 12 * q + j0 from Nat.min_le_right _ _)
    have hm0 := accp_nonneg (min (12 * q' + j) (12 * q + j0))
    have hdz := dz_le (1980 + (q' : Int)) ((j : Int) + 1)
    have ecast : ((j + 1 : Nat) : Int) + 1 = (j : Int) + 1 + 1 := by omega
    by_cases hlt : 12 * q' + j < 12 * q + j0
    · have e1 : min (12 * q' + j) (12 * q + j0) = 12 * q' + j := by omega
      have e2 : min (12 * q' + (j + 1)) (12 * q + j0) = 12 * q' + (j + 1) := by omega
      have h3 : accp (12 * q' + (j + 1)) = accp (12 * q' + j) + dz (1980 + (q' : Int)) ((j : Int) + 1) := by
        rw [← dzp_at q' j (by omega)]; rfl
      rw [e2, h3, ecast] at ih
      rw [e1] at hm2 hm0 ⊢
      have go : Ev (fun k => (montageref41_days.f k (1980 + (q' : Int)) ((j : Int) + 1)).bind fun t158 => (montageref41_Seconds.l1 k (wrap64 (accp (12 * q' + j) + d - 1 + t158)) (1980 + (q' : Int)) (wrap64 ((j : Int) + 1 + 1)) (1980 + (q : Int)) ((j0 : Int) + 1) d h mi s)) r := by
        refine Ev.bind (f := fun k t158 => (montageref41_Seconds.l1 k (wrap64 (accp (12 * q' + j) + d - 1 + t158)) (1980 + (q' : Int)) (wrap64 ((j : Int) + 1 + 1)) (1980 + (q : Int)) ((j0 : Int) + 1) d h mi s)) (days2 _ _ (by omega)) ?_
        refine Ev.congr (fun k => ?_) ih
        rw [w64c (x := (j : Int) + 1 + 1) (by omega) (by omega), w64c (x := accp (12 * q' + j) + d - 1 + dz (1980 + (q' : Int)) ((j : Int) + 1)) (by omega) (by omega), show accp (12 * q' + j) + d - 1 + dz (1980 + (q' : Int)) ((j : Int) + 1) = accp (12 * q' + j) + dz (1980 + (q' : Int)) ((j : Int) + 1) + d - 1 from by omega]
      refine Ev.step (fun k => ?_) go
      simp only [montageref41_Seconds.l1]
      rw [if_pos (by omega)]
      by_cases hy : (1980 + (q' : Int)) < 1980 + (q : Int)
      · rw [if_pos hy]
      · rw [if_neg hy, if_pos (by omega)]
    · have e1 : min (12 * q' + j) (12 * q + j0) = 12 * q + j0 := by omega
      have e2 : min (12 * q' + (j + 1)) (12 * q + j0) = 12 * q + j0 := by omega
      rw [e2, ecast] at ih
      rw [e1]
      refine Ev.step (fun k => ?_) ih
      simp only [montageref41_Seconds.l1]
      rw [if_pos (by omega), if_neg (by omega), if_neg (by omega), w64c (by omega) (by omega)]
theorem dsec_l0 : ∀ e q', q' + e = q + 1 → Ev (fun k => montageref41_Seconds.l0 k (accp (min (12 * q') (12 * q + j0)) + d - 1) (1980 + (q' : Int)) (1980 + (q : Int)) ((j0 : Int) + 1) d h mi s) (secZ q j0 d h mi s)
  | 0, q', he => by
    obtain rfl : q' = q + 1 := by omega
    have h1 := accp_small (12 * q + j0) (by omega)
    have h2 := accp_nonneg (12 * q + j0)
    have e1 : min (12 * (q + 1)) (12 * q + j0) = 12 * q + j0 := by omega
    rw [e1]
    refine Ev.step (f := fun _ => some (secZ q j0 d h mi s)) (fun k => ?_) (Ev.now _)
    simp only [montageref41_Seconds.l0]
    rw [if_neg (by omega), w64c (x := 3600 * h) (by omega) (by omega), w64c (x := 60 * mi) (by omega) (by omega), w64c (x := 86400 * (accp (12 * q + j0) + d - 1)) (by omega) (by omega), w64c (x := 86400 * (accp (12 * q + j0) + d - 1) + 3600 * h) (by omega) (by omega), w64c (x := 86400 * (accp (12 * q + j0) + d - 1) + 3600 * h + 60 * mi) (by omega) (by omega), w64c (by omega) (by omega)]
    rfl
  | e + 1, q', he => by
    have ih := dsec_l0 e (q' + 1) (by omega)
    have ecast : (1980 : Int) + ((q' + 1 : Nat) : Int) = 1980 + (q' : Int) + 1 := by omega
    rw [ecast] at ih
    have h1 := dsec_l1 hq hj hd q' (by omega) ih 12 0 (by omega)
    refine Ev.step (fun k => ?_) h1
    simp only [montageref41_Seconds.l0]
    rw [if_pos (by omega)]
    rfl
theorem dsec_ev : Ev (fun k => montageref41_Seconds.f k (1980 + (q : Int)) ((j0 : Int) + 1) d h mi s) (secZ q j0 d h mi s) := by
  have h0 := dsec_l0 hq hj hd hh hmi hs (q + 1) 0 (by omega)
  refine Ev.congr (fun k => ?_) h0
  unfold montageref41_Seconds.f
  rw [w64c (by omega) (by omega)]
  have e1 : min (12 * 0) (12 * q + j0) = 0 := by omega
  have e2 : accp 0 + d - 1 = d - 1 := by simp [accp]
  rw [e1, e2]
  rfl
end

end Go.Proofs.YtdaofffedfccmaaDoor.ClockP
