/- Clock: dates that may be. It has no conditions. -/
import Derived.Test.YtdaofffedfccmaaDoorXClockDatesx4
import Derived.BigRegion
import Derived.RegionTactic
import Derived.ChangeAlike
import Derived.Deep.RegionWith
import Derived.Deep.RegionLaw
import Derived.Laws.Tables
import Derived.Deep.QuietTactic
import Derived.BigQuiet
import Derived.Deep.RegionHeld3
import Derived.Deep.AppendLies
import Derived.Deep.DrawnRows
import Derived.Laws.CopyOwn
import Derived.Deep.MidRow
import Derived.Laws.ResultCell
import Derived.ChangeKeysEq
import Derived.Laws.BitsAllLaws
namespace Go.Proofs.YtdaofffedfccmaaDoor.ClockP
set_option linter.unusedVariables false
set_option linter.unusedSimpArgs false
open Go.RowKit Go.Proofs.YtdaofffedfccmaaDoorW.PrintWords Go.Proofs.YtdaofffedfccmaaDoorW.PrintLast Go.Proofs.YtdaofffedfccmaaDoorW.PrintMore
attribute [local go_sem] max2_int min2_int max_two min_two max_three min_three max_four min_four
open XClockDates
/-! ### Days of months, dates that may be, their times. -/
theorem w64c {x : Int} (h0 : -9223372036854775808 ≤ x) (h1 : x ≤ 9223372036854775807) : wrap64 x = x := by unfold wrap64; omega
def leapZ (y : Int) : Prop := y % 4 = 0 ∧ (y % 100 ≠ 0 ∨ y % 400 = 0)
instance (y : Int) : Decidable (leapZ y) := by unfold leapZ; exact inferInstance
def dz (y m : Int) : Int := if m = 2 then (if leapZ y then 29 else 28) else if m = 4 ∨ m = 6 ∨ m = 9 ∨ m = 11 then 30 else 31
theorem dz_le (y m : Int) : 28 ≤ dz y m ∧ dz y m ≤ 31 := by
  unfold dz
  (repeat' split) <;> omega
theorem leap_f (y : Int) (h : 0 ≤ y) : clock_leap.f y = some (decide (leapZ y)) := by
  unfold clock_leap.f
  rw [Int.tmod_eq_emod_of_nonneg h, Int.tmod_eq_emod_of_nonneg h, Int.tmod_eq_emod_of_nonneg h]
  by_cases h1 : y % 4 = 0
  · rw [if_pos h1]
    by_cases h2 : y % 100 = 0
    · rw [if_pos h2]
      congr 1
      rw [Bool.eq_iff_iff, beq_iff_eq, decide_eq_true_eq]
      exact ⟨fun h => ⟨h1, .inr h⟩, fun h => h.2.resolve_left (fun e => e h2)⟩
    · rw [if_neg h2]
      congr 1
      exact (decide_eq_true (show leapZ y from ⟨h1, .inl h2⟩)).symm
  · rw [if_neg h1]
    congr 1
    rw [Bool.eq_iff_iff, beq_iff_eq, decide_eq_true_eq]
    exact ⟨fun h => by omega, fun h => absurd h.1 h1⟩
theorem days1 (y m : Int) (h : 0 ≤ y) : Ev (fun k => clock_days.f k y m) (dz y m) := by
  have j0 : ∀ b, (b = true → m = 2 ∧ leapZ y) → (m = 2 → b = decide (leapZ y)) → Ev (fun k => clock_days.j0 k m b) (dz y m) := by
    intro b h1 h2
    refine Ev.step (f := fun _ => some (dz y m)) (fun k => ?_) (Ev.now _)
    simp only [clock_days.j0]
    unfold dz
    cases b with
    | true =>
      obtain ⟨a1, a2⟩ := h1 rfl
      rw [if_pos rfl, if_pos a1, if_pos a2]
    | false =>
      rw [if_neg (by simp)]
      by_cases hm : m = 2
      · rw [if_pos hm, if_pos hm, if_neg (of_decide_eq_false (h2 hm).symm)]
      · rw [if_neg hm, if_neg hm]
        by_cases h4 : m = 4
        · rw [if_pos h4, if_pos (.inl h4)]
        · rw [if_neg h4]
          by_cases h6 : m = 6
          · rw [if_pos h6, if_pos (.inr (.inl h6))]
          · rw [if_neg h6]
            by_cases h9 : m = 9
            · rw [if_pos h9, if_pos (.inr (.inr (.inl h9)))]
            · rw [if_neg h9]
              by_cases h11 : m = 11
              · rw [if_pos h11, if_pos (.inr (.inr (.inr h11)))]
              · rw [if_neg h11, if_neg (by omega)]
  by_cases hm : m = 2
  · refine Ev.congr (fun k => ?_) (j0 (decide (leapZ y)) (fun e => ⟨hm, of_decide_eq_true e⟩) (fun _ => rfl))
    unfold clock_days.f
    rw [if_pos hm, leap_f y h]
    rfl
  · refine Ev.congr (fun k => ?_) (j0 false (fun e => (by cases e)) (fun e => absurd e hm))
    unfold clock_days.f
    rw [if_neg hm]
theorem days2 (y m : Int) (h : 0 ≤ y) : Ev (fun k => montageref41_days.f k y m) (dz y m) := by
  have j0 : ∀ b, b = decide (leapZ y) → m = 2 → Ev (fun k => montageref41_days.j0 k b) (dz y m) := by
    intro b h1 h2
    refine Ev.step (f := fun _ => some (dz y m)) (fun k => ?_) (Ev.now _)
    simp only [montageref41_days.j0]
    unfold dz
    rw [if_pos h2]
    by_cases hl : leapZ y
    · rw [if_pos hl, h1, decide_eq_true hl, if_pos rfl]
    · rw [if_neg hl, h1, decide_eq_false hl, if_neg (by simp)]
  by_cases hm : m = 2
  · refine Ev.congr (fun k => ?_) (j0 _ rfl hm)
    have hl := leap_f y h
    unfold clock_leap.f at hl
    unfold montageref41_days.f
    rw [if_pos hm]
    by_cases h1 : Int.tmod y 4 = 0
    · rw [if_pos h1] at hl ⊢
      by_cases h2 : Int.tmod y 100 = 0
      · rw [if_pos h2] at hl ⊢
        rw [← Option.some.inj hl]
      · rw [if_neg h2] at hl ⊢
        rw [← Option.some.inj hl]
    · rw [if_neg h1] at hl ⊢
      rw [← Option.some.inj hl]
  · refine Ev.congr (fun k => ?_) (Ev.now _)
    unfold montageref41_days.f dz
    rw [if_neg hm, if_neg hm]
    by_cases h4 : m = 4
    · rw [if_pos h4, if_pos (.inl h4)]
    · rw [if_neg h4]
      by_cases h6 : m = 6
      · rw [if_pos h6, if_pos (.inr (.inl h6))]
      · rw [if_neg h6]
        by_cases h9 : m = 9
        · rw [if_pos h9, if_pos (.inr (.inr (.inl h9)))]
        · rw [if_neg h9]
          by_cases h11 : m = 11
          · rw [if_pos h11, if_pos (.inr (.inr (.inr h11)))]
          · rw [if_neg h11, if_neg (by omega)]
def MayP (y mo d h mi s : Int) : Prop := (1980 ≤ y ∧ y ≤ 2107) ∧ (1 ≤ mo ∧ mo ≤ 12) ∧ (1 ≤ d ∧ d ≤ dz y mo) ∧ (0 ≤ h ∧ h ≤ 23) ∧ (0 ≤ mi ∧ mi ≤ 59) ∧ (0 ≤ s ∧ s ≤ 58) ∧ s % 2 = 0
instance (y mo d h mi s : Int) : Decidable (MayP y mo d h mi s) := by unfold MayP; exact inferInstance
theorem within_f (x a b : Int) : clock_within.f x a b = some (decide (a ≤ x ∧ x ≤ b)) := by
  unfold clock_within.f
  by_cases h : x ≥ a
  · rw [if_pos h]
    congr 1
    by_cases h2 : x ≤ b
    · rw [decide_eq_true h2, decide_eq_true ⟨h, h2⟩]
    · rw [decide_eq_false h2, decide_eq_false (fun e => h2 e.2)]
  · rw [if_neg h]
    congr 1
    exact (decide_eq_false (fun e => h e.1)).symm
theorem right_ev (y mo d h mi s : Int) : Ev (fun k => clock_right.f k y mo d h mi s) (decide (MayP y mo d h mi s)) := by
  have no : ¬ MayP y mo d h mi s → Ev (fun k => clock_right.j0 k true y mo d h mi s) (decide (MayP y mo d h mi s)) := by
    intro hn
    refine Ev.step (f := fun _ => some false) (fun k => ?_) ?_
    · simp only [clock_right.j0]; rw [if_pos trivial]
    · rw [decide_eq_false hn]; exact Ev.now _
  by_cases h1 : 1980 ≤ y ∧ y ≤ 2107
  · by_cases h2 : 1 ≤ mo ∧ mo ≤ 12
    · have hd := days1 y mo (by omega)
      refine Ev.congr (f := fun k => (clock_days.f k y mo).bind fun t105 => ((clock_within.f d 1 t105).bind fun t106 => (clock_right.j0 k (!t106) y mo d h mi s))) (fun k => ?_) ?_
      · unfold clock_right.f
        rw [within_f, Option.bind_some, decide_eq_true h1, if_pos rfl, within_f, Option.bind_some, decide_eq_true h2, if_pos rfl]
      · refine Ev.bind (f := fun k t105 => ((clock_within.f d 1 t105).bind fun t106 => (clock_right.j0 k (!t106) y mo d h mi s))) hd ?_
        refine Ev.congr (f := fun k => clock_right.j0 k (!decide (1 ≤ d ∧ d ≤ dz y mo)) y mo d h mi s) (fun k => ?_) ?_
        · rw [within_f, Option.bind_some]
        · by_cases h3 : 1 ≤ d ∧ d ≤ dz y mo
          · rw [decide_eq_true h3]
            refine Ev.step (f := fun _ => some (decide (MayP y mo d h mi s))) (fun k => ?_) (Ev.now _)
            show clock_right.j0 (k + 1) false y mo d h mi s = _
            simp only [clock_right.j0]
            rw [if_neg (by simp), within_f, Option.bind_some]
            by_cases h4 : 0 ≤ h ∧ h ≤ 23
            · rw [decide_eq_true h4, if_pos rfl, within_f, Option.bind_some]
              by_cases h5 : 0 ≤ mi ∧ mi ≤ 59
              · rw [decide_eq_true h5, if_pos rfl, within_f, Option.bind_some]
                by_cases h6 : 0 ≤ s ∧ s ≤ 58
                · rw [decide_eq_true h6, if_pos rfl]
                  congr 1
                  rw [Bool.eq_iff_iff, beq_iff_eq, decide_eq_true_eq, Int.tmod_eq_emod_of_nonneg h6.1]
                  exact ⟨fun e => ⟨h1, h2, h3, h4, h5, h6, e⟩, fun e => e.2.2.2.2.2.2⟩
                · rw [decide_eq_false h6, if_neg (by simp), decide_eq_false (fun e => h6 e.2.2.2.2.2.1)]
              · rw [decide_eq_false h5, if_neg (by simp), decide_eq_false (fun e => h5 e.2.2.2.2.1)]
            · rw [decide_eq_false h4, if_neg (by simp), decide_eq_false (fun e => h4 e.2.2.2.1)]
          · have hn : ¬ MayP y mo d h mi s := fun e => h3 e.2.2.1
            have := no hn
            rw [decide_eq_false h3]
            exact this
    · refine Ev.congr (fun k => ?_) (no (fun e => h2 e.2.1))
      unfold clock_right.f
      rw [within_f, Option.bind_some, decide_eq_true h1, if_pos rfl, within_f, Option.bind_some, decide_eq_false h2, if_neg (by simp)]
  · refine Ev.congr (fun k => ?_) (no (fun e => h1 e.1))
    unfold clock_right.f
    rw [within_f, Option.bind_some, decide_eq_false h1, if_neg (by simp)]
theorem may_ev (y mo d h mi s : Int) : Ev (fun k => montageref41_May.f k y mo d h mi s) (decide (MayP y mo d h mi s)) := by
  unfold montageref41_May.f
  by_cases h1 : y < 1980 ∨ 2107 < y ∨ mo < 1 ∨ 12 < mo
  · refine Ev.congr (fun k => ?_) (Ev.now _)
    rw [if_pos h1, decide_eq_false]
    rintro ⟨a, b, _⟩
    omega
  · refine Ev.congr (f := fun k => (montageref41_days.f k y mo).bind fun n => some (mayB n h mi s d)) (fun k => ?_) (Ev.bind (f := fun k n => some (mayB n h mi s d)) (days2 y mo (by omega)) ?_)
    · rw [if_neg h1]
    · refine Ev.congr (fun k => ?_) (Ev.now _)
      congr 1
      unfold mayB
      rw [Bool.eq_iff_iff]
      simp only [Bool.and_eq_true, decide_eq_true_eq, beq_iff_eq]
      unfold MayP
      constructor
      · rintro ⟨a, b, c, d, e, f, g, i, j⟩
        exact ⟨by omega, by omega, ⟨a, b⟩, ⟨c, d⟩, ⟨e, f⟩, ⟨g, i⟩, j⟩
      · rintro ⟨_, _, ⟨a, b⟩, ⟨c, d⟩, ⟨e, f⟩, ⟨g, i⟩, j⟩
        exact ⟨a, b, c, d, e, f, g, i, j⟩
/-- Two numbers of other bits. -/
theorem or_disj (a b n : Nat) (hb : b < 2 ^ n) (h : a * 2 ^ n < 9223372036854775808) (hn : n ≤ 40) : Go.bits .or .i64 ((a * 2 ^ n : Nat) : Int) (b : Int) = ((a * 2 ^ n + b : Nat) : Int) := by
  have h63 : (2 : Int) ^ 63 = 9223372036854775808 := by decide
  have hp : (2 : Nat) ^ n ≤ 2 ^ 40 := Nat.pow_le_pow_right (by decide) hn
  have p63 : (2 : Nat) ^ 63 = 9223372036854775808 := by decide
  have p40 : (2 : Nat) ^ 40 = 1099511627776 := by decide
  have e := (Go.bits_nat .i64 63 (by decide) (fun z h0 h1 => by rw [Go.IntKind.wrap_i64]; omega) (a * 2 ^ n) b (by omega) (by omega)).2
  rw [e, Nat.mul_comm, ← Nat.two_pow_add_eq_or_of_lt hb]
def putZ (y mo d h mi s : Int) : Int := (y - 1980) * 33554432 + mo * 2097152 + d * 65536 + h * 2048 + mi * 32 + s / 2

end Go.Proofs.YtdaofffedfccmaaDoor.ClockP
