-- Written by this session's own program wip/xprint.py: a changed copy of the kit's print.
import Derived.Test.YtdaofffedfccmaaDoorXClockDatesx0
import Derived.Test.YtdaofffedfccmaaDoorXClockDatesx2
namespace Go.Proofs.YtdaofffedfccmaaDoor.XClockDates
open Go.RowKit Go.Proofs.YtdaofffedfccmaaDoorW.PrintWords Go.Proofs.YtdaofffedfccmaaDoorW.PrintLast Go.Proofs.YtdaofffedfccmaaDoorW.PrintMore
attribute [local go_sem] max2_int min2_int max_two min_two max_three min_three max_four min_four   -- for this text's walks alone
set_option linter.unusedVariables false
set_option linter.unusedSimpArgs false

/-! ### clock_Text: function 33 -/
def clock_Text.f (k : Nat) (a0_0 : Int) (a0_1 : Int) (a0_2 : Int) (a0_3 : Int) (a0_4 : Int) (a0_5 : Int) : Option (ByteArray × Int) := (clock_right.f k a0_0 a0_1 a0_2 a0_3 a0_4 a0_5).bind fun t117 => (if t117 = true then ((clock_digits.f a0_0 4).bind fun t118 => (if t118.size + 1 ≤ 9223372036854775807 then ((clock_digits.f a0_1 2).bind fun t119 => (if (t118 ++ (⟨#[45]⟩ : ByteArray)).size + t119.size ≤ 9223372036854775807 then (if ((t118 ++ (⟨#[45]⟩ : ByteArray)) ++ t119).size + 1 ≤ 9223372036854775807 then ((clock_digits.f a0_2 2).bind fun t120 => (if (((t118 ++ (⟨#[45]⟩ : ByteArray)) ++ t119) ++ (⟨#[45]⟩ : ByteArray)).size + t120.size ≤ 9223372036854775807 then (if ((((t118 ++ (⟨#[45]⟩ : ByteArray)) ++ t119) ++ (⟨#[45]⟩ : ByteArray)) ++ t120).size + 1 ≤ 9223372036854775807 then ((clock_digits.f a0_3 2).bind fun t121 => (if (((((t118 ++ (⟨#[45]⟩ : ByteArray)) ++ t119) ++ (⟨#[45]⟩ : ByteArray)) ++ t120) ++ (⟨#[32]⟩ : ByteArray)).size + t121.size ≤ 9223372036854775807 then (if ((((((t118 ++ (⟨#[45]⟩ : ByteArray)) ++ t119) ++ (⟨#[45]⟩ : ByteArray)) ++ t120) ++ (⟨#[32]⟩ : ByteArray)) ++ t121).size + 1 ≤ 9223372036854775807 then ((clock_digits.f a0_4 2).bind fun t122 => (if (((((((t118 ++ (⟨#[45]⟩ : ByteArray)) ++ t119) ++ (⟨#[45]⟩ : ByteArray)) ++ t120) ++ (⟨#[32]⟩ : ByteArray)) ++ t121) ++ (⟨#[58]⟩ : ByteArray)).size + t122.size ≤ 9223372036854775807 then (if ((((((((t118 ++ (⟨#[45]⟩ : ByteArray)) ++ t119) ++ (⟨#[45]⟩ : ByteArray)) ++ t120) ++ (⟨#[32]⟩ : ByteArray)) ++ t121) ++ (⟨#[58]⟩ : ByteArray)) ++ t122).size + 1 ≤ 9223372036854775807 then ((clock_digits.f a0_5 2).bind fun t123 => (if (((((((((t118 ++ (⟨#[45]⟩ : ByteArray)) ++ t119) ++ (⟨#[45]⟩ : ByteArray)) ++ t120) ++ (⟨#[32]⟩ : ByteArray)) ++ t121) ++ (⟨#[58]⟩ : ByteArray)) ++ t122) ++ (⟨#[58]⟩ : ByteArray)).size + t123.size ≤ 9223372036854775807 then (some ((((((((((t118 ++ (⟨#[45]⟩ : ByteArray)) ++ t119) ++ (⟨#[45]⟩ : ByteArray)) ++ t120) ++ (⟨#[32]⟩ : ByteArray)) ++ t121) ++ (⟨#[58]⟩ : ByteArray)) ++ t122) ++ (⟨#[58]⟩ : ByteArray)) ++ t123, 0)) else (none))) else (none)) else (none))) else (none)) else (none))) else (none)) else (none))) else (none)) else (none))) else (none))) else (some ((⟨#[]⟩ : ByteArray), 1)))
theorem clock_Text.mono : ∀ a0 a1 a2 a3 a4 a5 k, LeO (clock_Text.f k a0 a1 a2 a3 a4 a5) (clock_Text.f (k + 1) a0 a1 a2 a3 a4 a5) := by
  intro a0 a1 a2 a3 a4 a5 k
  unfold clock_Text.f
  repeat' first
      | (with_reducible exact clock_right.mono _ _ _ _ _ _ _)
      | (with_reducible exact LeO.refl _)
      | (with_reducible exact LeO.none _)
      | (with_reducible refine LeO.ite ?_ ?_)
      | (with_reducible refine LeO.bind ?_ (fun _ => ?_))
      | exact clock_right.mono _ _ _ _ _ _ _
      | exact LeO.none _
      | refine LeO.ite ?_ ?_
      | refine LeO.bind ?_ (fun _ => ?_)
def clock_Text.T3 : Bool × List (List Nat × List Nat) := (true, [([], []), ([0], [0]), ([1], [1]), ([2], [2]), ([], []), ([4], [4]), ([5, 2], [5]), ([3, 6], [3, 6]), ([7], [7]), ([], []), ([9], [9]), ([10, 6], [10]), ([8, 11], [8, 11]), ([12], [12]), ([], []), ([14], [14]), ([15, 11], [15]), ([13, 16], [13, 16]), ([17], [17]), ([], []), ([19], [19]), ([20, 16], [20]), ([18, 21], [18, 21]), ([22], [22]), ([], []), ([24], [24]), ([25, 21], [25]), ([23, 26], [23, 26]), ([27, 26, 0, 1, 2, 3, 4, 5, 6, 7, 8, 9, 10, 11, 12, 13, 14, 15, 16, 17, 18, 19, 20, 21, 22, 23, 24, 25, 26, 27], [27]), ([28, 0, 1, 2, 3, 4, 5, 6, 7, 8, 9, 10, 11, 12, 13, 14, 15, 16, 17, 18, 19, 20, 21, 22, 23, 24, 25, 26, 27, 28], [])])
def clock_Text.B3 : List Nat := [0, 1, 3, 7, 0, 16, 55, 127, 255, 0, 512, 1655, 4095, 8191, 0, 16384, 52855, 131071, 262143, 0, 524288, 1691255, 4194303, 8388607, 0, 16777216, 54120055, 134217727, 268435455, 536870911]
theorem clock_Text.tab3 : rtab .any (opsOf Tryd.f33 3) = clock_Text.T3 := by kernel_rfl
theorem clock_Text.bits3 : waitsOk clock_Text.T3.2 clock_Text.B3 = true := by kernel_rfl
set_option maxHeartbeats 8000000 in
set_option maxRecDepth 100000 in
theorem clock_Text.calls (k : Nat) (a0_0 : Int) (a0_1 : Int) (a0_2 : Int) (a0_3 : Int) (a0_4 : Int) (a0_5 : Int) (r1 : ByteArray) (r2 : Int) (w : World) (h : clock_Text.f k a0_0 a0_1 a0_2 a0_3 a0_4 a0_5 = some (r1, r2)) (hL : XGlob.Laid w) :
    Calls Tryd.prog 33 #[.agg #[.int .i64 a0_0, .int .i64 a0_1, .int .i64 a0_2, .int .i64 a0_3, .int .i64 a0_4, .int .i64 a0_5]] w fun e w' => e = .returned (.tuple #[.string r1, .int .i64 r2]) ∧ Below w.heap.size w w' := by
  have HL := Aside0.mk hL
  clear hL
  have hu38 := Tryd.underlying38
  have HB := Aside0.mk (Below.refl w.heap.size w)
  have H : ((clock_right.f k a0_0 a0_1 a0_2 a0_3 a0_4 a0_5).bind fun t117 => (if t117 = true then ((clock_digits.f a0_0 4).bind fun t118 => (if t118.size + 1 ≤ 9223372036854775807 then ((clock_digits.f a0_1 2).bind fun t119 => (if (t118 ++ (⟨#[45]⟩ : ByteArray)).size + t119.size ≤ 9223372036854775807 then (if ((t118 ++ (⟨#[45]⟩ : ByteArray)) ++ t119).size + 1 ≤ 9223372036854775807 then ((clock_digits.f a0_2 2).bind fun t120 => (if (((t118 ++ (⟨#[45]⟩ : ByteArray)) ++ t119) ++ (⟨#[45]⟩ : ByteArray)).size + t120.size ≤ 9223372036854775807 then (if ((((t118 ++ (⟨#[45]⟩ : ByteArray)) ++ t119) ++ (⟨#[45]⟩ : ByteArray)) ++ t120).size + 1 ≤ 9223372036854775807 then ((clock_digits.f a0_3 2).bind fun t121 => (if (((((t118 ++ (⟨#[45]⟩ : ByteArray)) ++ t119) ++ (⟨#[45]⟩ : ByteArray)) ++ t120) ++ (⟨#[32]⟩ : ByteArray)).size + t121.size ≤ 9223372036854775807 then (if ((((((t118 ++ (⟨#[45]⟩ : ByteArray)) ++ t119) ++ (⟨#[45]⟩ : ByteArray)) ++ t120) ++ (⟨#[32]⟩ : ByteArray)) ++ t121).size + 1 ≤ 9223372036854775807 then ((clock_digits.f a0_4 2).bind fun t122 => (if (((((((t118 ++ (⟨#[45]⟩ : ByteArray)) ++ t119) ++ (⟨#[45]⟩ : ByteArray)) ++ t120) ++ (⟨#[32]⟩ : ByteArray)) ++ t121) ++ (⟨#[58]⟩ : ByteArray)).size + t122.size ≤ 9223372036854775807 then (if ((((((((t118 ++ (⟨#[45]⟩ : ByteArray)) ++ t119) ++ (⟨#[45]⟩ : ByteArray)) ++ t120) ++ (⟨#[32]⟩ : ByteArray)) ++ t121) ++ (⟨#[58]⟩ : ByteArray)) ++ t122).size + 1 ≤ 9223372036854775807 then ((clock_digits.f a0_5 2).bind fun t123 => (if (((((((((t118 ++ (⟨#[45]⟩ : ByteArray)) ++ t119) ++ (⟨#[45]⟩ : ByteArray)) ++ t120) ++ (⟨#[32]⟩ : ByteArray)) ++ t121) ++ (⟨#[58]⟩ : ByteArray)) ++ t122) ++ (⟨#[58]⟩ : ByteArray)).size + t123.size ≤ 9223372036854775807 then (some ((((((((((t118 ++ (⟨#[45]⟩ : ByteArray)) ++ t119) ++ (⟨#[45]⟩ : ByteArray)) ++ t120) ++ (⟨#[32]⟩ : ByteArray)) ++ t121) ++ (⟨#[58]⟩ : ByteArray)) ++ t122) ++ (⟨#[58]⟩ : ByteArray)) ++ t123, 0)) else (none))) else (none)) else (none))) else (none)) else (none))) else (none)) else (none))) else (none)) else (none))) else (none))) else (some ((⟨#[]⟩ : ByteArray), 1)))) = some (r1, r2) := h
  clear h
  replace H := Option.bind_eq_some_iff.mp H
  obtain ⟨t117, A20, H⟩ := H
  replace H : (if t117 = true then ((clock_digits.f a0_0 4).bind fun t118 => (if t118.size + 1 ≤ 9223372036854775807 then ((clock_digits.f a0_1 2).bind fun t119 => (if (t118 ++ (⟨#[45]⟩ : ByteArray)).size + t119.size ≤ 9223372036854775807 then (if ((t118 ++ (⟨#[45]⟩ : ByteArray)) ++ t119).size + 1 ≤ 9223372036854775807 then ((clock_digits.f a0_2 2).bind fun t120 => (if (((t118 ++ (⟨#[45]⟩ : ByteArray)) ++ t119) ++ (⟨#[45]⟩ : ByteArray)).size + t120.size ≤ 9223372036854775807 then (if ((((t118 ++ (⟨#[45]⟩ : ByteArray)) ++ t119) ++ (⟨#[45]⟩ : ByteArray)) ++ t120).size + 1 ≤ 9223372036854775807 then ((clock_digits.f a0_3 2).bind fun t121 => (if (((((t118 ++ (⟨#[45]⟩ : ByteArray)) ++ t119) ++ (⟨#[45]⟩ : ByteArray)) ++ t120) ++ (⟨#[32]⟩ : ByteArray)).size + t121.size ≤ 9223372036854775807 then (if ((((((t118 ++ (⟨#[45]⟩ : ByteArray)) ++ t119) ++ (⟨#[45]⟩ : ByteArray)) ++ t120) ++ (⟨#[32]⟩ : ByteArray)) ++ t121).size + 1 ≤ 9223372036854775807 then ((clock_digits.f a0_4 2).bind fun t122 => (if (((((((t118 ++ (⟨#[45]⟩ : ByteArray)) ++ t119) ++ (⟨#[45]⟩ : ByteArray)) ++ t120) ++ (⟨#[32]⟩ : ByteArray)) ++ t121) ++ (⟨#[58]⟩ : ByteArray)).size + t122.size ≤ 9223372036854775807 then (if ((((((((t118 ++ (⟨#[45]⟩ : ByteArray)) ++ t119) ++ (⟨#[45]⟩ : ByteArray)) ++ t120) ++ (⟨#[32]⟩ : ByteArray)) ++ t121) ++ (⟨#[58]⟩ : ByteArray)) ++ t122).size + 1 ≤ 9223372036854775807 then ((clock_digits.f a0_5 2).bind fun t123 => (if (((((((((t118 ++ (⟨#[45]⟩ : ByteArray)) ++ t119) ++ (⟨#[45]⟩ : ByteArray)) ++ t120) ++ (⟨#[32]⟩ : ByteArray)) ++ t121) ++ (⟨#[58]⟩ : ByteArray)) ++ t122) ++ (⟨#[58]⟩ : ByteArray)).size + t123.size ≤ 9223372036854775807 then (some ((((((((((t118 ++ (⟨#[45]⟩ : ByteArray)) ++ t119) ++ (⟨#[45]⟩ : ByteArray)) ++ t120) ++ (⟨#[32]⟩ : ByteArray)) ++ t121) ++ (⟨#[58]⟩ : ByteArray)) ++ t122) ++ (⟨#[58]⟩ : ByteArray)) ++ t123, 0)) else (none))) else (none)) else (none))) else (none)) else (none))) else (none)) else (none))) else (none)) else (none))) else (none))) else (some ((⟨#[]⟩ : ByteArray), 1))) = some (r1, r2) := H
  have A2 := Aside0.mk A20
  clear A20
  by_cases c3 : t117 = true
  · subst c3
    have H1 : ((clock_digits.f a0_0 4).bind fun t118 => (if t118.size + 1 ≤ 9223372036854775807 then ((clock_digits.f a0_1 2).bind fun t119 => (if (t118 ++ (⟨#[45]⟩ : ByteArray)).size + t119.size ≤ 9223372036854775807 then (if ((t118 ++ (⟨#[45]⟩ : ByteArray)) ++ t119).size + 1 ≤ 9223372036854775807 then ((clock_digits.f a0_2 2).bind fun t120 => (if (((t118 ++ (⟨#[45]⟩ : ByteArray)) ++ t119) ++ (⟨#[45]⟩ : ByteArray)).size + t120.size ≤ 9223372036854775807 then (if ((((t118 ++ (⟨#[45]⟩ : ByteArray)) ++ t119) ++ (⟨#[45]⟩ : ByteArray)) ++ t120).size + 1 ≤ 9223372036854775807 then ((clock_digits.f a0_3 2).bind fun t121 => (if (((((t118 ++ (⟨#[45]⟩ : ByteArray)) ++ t119) ++ (⟨#[45]⟩ : ByteArray)) ++ t120) ++ (⟨#[32]⟩ : ByteArray)).size + t121.size ≤ 9223372036854775807 then (if ((((((t118 ++ (⟨#[45]⟩ : ByteArray)) ++ t119) ++ (⟨#[45]⟩ : ByteArray)) ++ t120) ++ (⟨#[32]⟩ : ByteArray)) ++ t121).size + 1 ≤ 9223372036854775807 then ((clock_digits.f a0_4 2).bind fun t122 => (if (((((((t118 ++ (⟨#[45]⟩ : ByteArray)) ++ t119) ++ (⟨#[45]⟩ : ByteArray)) ++ t120) ++ (⟨#[32]⟩ : ByteArray)) ++ t121) ++ (⟨#[58]⟩ : ByteArray)).size + t122.size ≤ 9223372036854775807 then (if ((((((((t118 ++ (⟨#[45]⟩ : ByteArray)) ++ t119) ++ (⟨#[45]⟩ : ByteArray)) ++ t120) ++ (⟨#[32]⟩ : ByteArray)) ++ t121) ++ (⟨#[58]⟩ : ByteArray)) ++ t122).size + 1 ≤ 9223372036854775807 then ((clock_digits.f a0_5 2).bind fun t123 => (if (((((((((t118 ++ (⟨#[45]⟩ : ByteArray)) ++ t119) ++ (⟨#[45]⟩ : ByteArray)) ++ t120) ++ (⟨#[32]⟩ : ByteArray)) ++ t121) ++ (⟨#[58]⟩ : ByteArray)) ++ t122) ++ (⟨#[58]⟩ : ByteArray)).size + t123.size ≤ 9223372036854775807 then (some ((((((((((t118 ++ (⟨#[45]⟩ : ByteArray)) ++ t119) ++ (⟨#[45]⟩ : ByteArray)) ++ t120) ++ (⟨#[32]⟩ : ByteArray)) ++ t121) ++ (⟨#[58]⟩ : ByteArray)) ++ t122) ++ (⟨#[58]⟩ : ByteArray)) ++ t123, 0)) else (none))) else (none)) else (none))) else (none)) else (none))) else (none)) else (none))) else (none)) else (none))) else (none))) = some (r1, r2) := by rw [if_pos rfl] at H; exact H
    clear H
    have H := H1
    clear H1
    replace H := Option.bind_eq_some_iff.mp H
    obtain ⟨t118, A40, H⟩ := H
    replace H : (if t118.size + 1 ≤ 9223372036854775807 then ((clock_digits.f a0_1 2).bind fun t119 => (if (t118 ++ (⟨#[45]⟩ : ByteArray)).size + t119.size ≤ 9223372036854775807 then (if ((t118 ++ (⟨#[45]⟩ : ByteArray)) ++ t119).size + 1 ≤ 9223372036854775807 then ((clock_digits.f a0_2 2).bind fun t120 => (if (((t118 ++ (⟨#[45]⟩ : ByteArray)) ++ t119) ++ (⟨#[45]⟩ : ByteArray)).size + t120.size ≤ 9223372036854775807 then (if ((((t118 ++ (⟨#[45]⟩ : ByteArray)) ++ t119) ++ (⟨#[45]⟩ : ByteArray)) ++ t120).size + 1 ≤ 9223372036854775807 then ((clock_digits.f a0_3 2).bind fun t121 => (if (((((t118 ++ (⟨#[45]⟩ : ByteArray)) ++ t119) ++ (⟨#[45]⟩ : ByteArray)) ++ t120) ++ (⟨#[32]⟩ : ByteArray)).size + t121.size ≤ 9223372036854775807 then (if ((((((t118 ++ (⟨#[45]⟩ : ByteArray)) ++ t119) ++ (⟨#[45]⟩ : ByteArray)) ++ t120) ++ (⟨#[32]⟩ : ByteArray)) ++ t121).size + 1 ≤ 9223372036854775807 then ((clock_digits.f a0_4 2).bind fun t122 => (if (((((((t118 ++ (⟨#[45]⟩ : ByteArray)) ++ t119) ++ (⟨#[45]⟩ : ByteArray)) ++ t120) ++ (⟨#[32]⟩ : ByteArray)) ++ t121) ++ (⟨#[58]⟩ : ByteArray)).size + t122.size ≤ 9223372036854775807 then (if ((((((((t118 ++ (⟨#[45]⟩ : ByteArray)) ++ t119) ++ (⟨#[45]⟩ : ByteArray)) ++ t120) ++ (⟨#[32]⟩ : ByteArray)) ++ t121) ++ (⟨#[58]⟩ : ByteArray)) ++ t122).size + 1 ≤ 9223372036854775807 then ((clock_digits.f a0_5 2).bind fun t123 => (if (((((((((t118 ++ (⟨#[45]⟩ : ByteArray)) ++ t119) ++ (⟨#[45]⟩ : ByteArray)) ++ t120) ++ (⟨#[32]⟩ : ByteArray)) ++ t121) ++ (⟨#[58]⟩ : ByteArray)) ++ t122) ++ (⟨#[58]⟩ : ByteArray)).size + t123.size ≤ 9223372036854775807 then (some ((((((((((t118 ++ (⟨#[45]⟩ : ByteArray)) ++ t119) ++ (⟨#[45]⟩ : ByteArray)) ++ t120) ++ (⟨#[32]⟩ : ByteArray)) ++ t121) ++ (⟨#[58]⟩ : ByteArray)) ++ t122) ++ (⟨#[58]⟩ : ByteArray)) ++ t123, 0)) else (none))) else (none)) else (none))) else (none)) else (none))) else (none)) else (none))) else (none)) else (none))) else (none)) = some (r1, r2) := H
    have A4 := Aside0.mk A40
    clear A40
    by_cases c5 : t118.size + 1 ≤ 9223372036854775807
    · rw [if_pos c5] at H
      have c5b0 := eq_true c5
      have c5b1 : decide (t118.size + 1 ≤ 9223372036854775807) = true := decide_eq_true c5
      try have c5b2 : (9223372036854775807 < t118.size + 1) = False := eq_false (Nat.not_lt.2 c5)
      replace H := Option.bind_eq_some_iff.mp H
      obtain ⟨t119, A60, H⟩ := H
      replace H : (if (t118 ++ (⟨#[45]⟩ : ByteArray)).size + t119.size ≤ 9223372036854775807 then (if ((t118 ++ (⟨#[45]⟩ : ByteArray)) ++ t119).size + 1 ≤ 9223372036854775807 then ((clock_digits.f a0_2 2).bind fun t120 => (if (((t118 ++ (⟨#[45]⟩ : ByteArray)) ++ t119) ++ (⟨#[45]⟩ : ByteArray)).size + t120.size ≤ 9223372036854775807 then (if ((((t118 ++ (⟨#[45]⟩ : ByteArray)) ++ t119) ++ (⟨#[45]⟩ : ByteArray)) ++ t120).size + 1 ≤ 9223372036854775807 then ((clock_digits.f a0_3 2).bind fun t121 => (if (((((t118 ++ (⟨#[45]⟩ : ByteArray)) ++ t119) ++ (⟨#[45]⟩ : ByteArray)) ++ t120) ++ (⟨#[32]⟩ : ByteArray)).size + t121.size ≤ 9223372036854775807 then (if ((((((t118 ++ (⟨#[45]⟩ : ByteArray)) ++ t119) ++ (⟨#[45]⟩ : ByteArray)) ++ t120) ++ (⟨#[32]⟩ : ByteArray)) ++ t121).size + 1 ≤ 9223372036854775807 then ((clock_digits.f a0_4 2).bind fun t122 => (if (((((((t118 ++ (⟨#[45]⟩ : ByteArray)) ++ t119) ++ (⟨#[45]⟩ : ByteArray)) ++ t120) ++ (⟨#[32]⟩ : ByteArray)) ++ t121) ++ (⟨#[58]⟩ : ByteArray)).size + t122.size ≤ 9223372036854775807 then (if ((((((((t118 ++ (⟨#[45]⟩ : ByteArray)) ++ t119) ++ (⟨#[45]⟩ : ByteArray)) ++ t120) ++ (⟨#[32]⟩ : ByteArray)) ++ t121) ++ (⟨#[58]⟩ : ByteArray)) ++ t122).size + 1 ≤ 9223372036854775807 then ((clock_digits.f a0_5 2).bind fun t123 => (if (((((((((t118 ++ (⟨#[45]⟩ : ByteArray)) ++ t119) ++ (⟨#[45]⟩ : ByteArray)) ++ t120) ++ (⟨#[32]⟩ : ByteArray)) ++ t121) ++ (⟨#[58]⟩ : ByteArray)) ++ t122) ++ (⟨#[58]⟩ : ByteArray)).size + t123.size ≤ 9223372036854775807 then (some ((((((((((t118 ++ (⟨#[45]⟩ : ByteArray)) ++ t119) ++ (⟨#[45]⟩ : ByteArray)) ++ t120) ++ (⟨#[32]⟩ : ByteArray)) ++ t121) ++ (⟨#[58]⟩ : ByteArray)) ++ t122) ++ (⟨#[58]⟩ : ByteArray)) ++ t123, 0)) else (none))) else (none)) else (none))) else (none)) else (none))) else (none)) else (none))) else (none)) else (none)) = some (r1, r2) := H
      have A6 := Aside0.mk A60
      clear A60
      by_cases c7 : (t118 ++ (⟨#[45]⟩ : ByteArray)).size + t119.size ≤ 9223372036854775807
      · rw [if_pos c7] at H
        have c7b0 := eq_true c7
        have c7b1 : decide ((t118 ++ (⟨#[45]⟩ : ByteArray)).size + t119.size ≤ 9223372036854775807) = true := decide_eq_true c7
        try have c7b2 : (9223372036854775807 < (t118 ++ (⟨#[45]⟩ : ByteArray)).size + t119.size) = False := eq_false (Nat.not_lt.2 c7)
        (try (have c7b3 := c7b2; simp only [ByteArray.size_append', show (⟨#[45]⟩ : ByteArray).size = 1 from rfl] at c7b3))
        by_cases c8 : ((t118 ++ (⟨#[45]⟩ : ByteArray)) ++ t119).size + 1 ≤ 9223372036854775807
        · rw [if_pos c8] at H
          have c8b0 := eq_true c8
          have c8b1 : decide (((t118 ++ (⟨#[45]⟩ : ByteArray)) ++ t119).size + 1 ≤ 9223372036854775807) = true := decide_eq_true c8
          try have c8b2 : (9223372036854775807 < ((t118 ++ (⟨#[45]⟩ : ByteArray)) ++ t119).size + 1) = False := eq_false (Nat.not_lt.2 c8)
          (try (have c8b3 := c8b2; simp only [ByteArray.size_append', show (⟨#[45]⟩ : ByteArray).size = 1 from rfl] at c8b3))
          replace H := Option.bind_eq_some_iff.mp H
          obtain ⟨t120, A90, H⟩ := H
          replace H : (if (((t118 ++ (⟨#[45]⟩ : ByteArray)) ++ t119) ++ (⟨#[45]⟩ : ByteArray)).size + t120.size ≤ 9223372036854775807 then (if ((((t118 ++ (⟨#[45]⟩ : ByteArray)) ++ t119) ++ (⟨#[45]⟩ : ByteArray)) ++ t120).size + 1 ≤ 9223372036854775807 then ((clock_digits.f a0_3 2).bind fun t121 => (if (((((t118 ++ (⟨#[45]⟩ : ByteArray)) ++ t119) ++ (⟨#[45]⟩ : ByteArray)) ++ t120) ++ (⟨#[32]⟩ : ByteArray)).size + t121.size ≤ 9223372036854775807 then (if ((((((t118 ++ (⟨#[45]⟩ : ByteArray)) ++ t119) ++ (⟨#[45]⟩ : ByteArray)) ++ t120) ++ (⟨#[32]⟩ : ByteArray)) ++ t121).size + 1 ≤ 9223372036854775807 then ((clock_digits.f a0_4 2).bind fun t122 => (if (((((((t118 ++ (⟨#[45]⟩ : ByteArray)) ++ t119) ++ (⟨#[45]⟩ : ByteArray)) ++ t120) ++ (⟨#[32]⟩ : ByteArray)) ++ t121) ++ (⟨#[58]⟩ : ByteArray)).size + t122.size ≤ 9223372036854775807 then (if ((((((((t118 ++ (⟨#[45]⟩ : ByteArray)) ++ t119) ++ (⟨#[45]⟩ : ByteArray)) ++ t120) ++ (⟨#[32]⟩ : ByteArray)) ++ t121) ++ (⟨#[58]⟩ : ByteArray)) ++ t122).size + 1 ≤ 9223372036854775807 then ((clock_digits.f a0_5 2).bind fun t123 => (if (((((((((t118 ++ (⟨#[45]⟩ : ByteArray)) ++ t119) ++ (⟨#[45]⟩ : ByteArray)) ++ t120) ++ (⟨#[32]⟩ : ByteArray)) ++ t121) ++ (⟨#[58]⟩ : ByteArray)) ++ t122) ++ (⟨#[58]⟩ : ByteArray)).size + t123.size ≤ 9223372036854775807 then (some ((((((((((t118 ++ (⟨#[45]⟩ : ByteArray)) ++ t119) ++ (⟨#[45]⟩ : ByteArray)) ++ t120) ++ (⟨#[32]⟩ : ByteArray)) ++ t121) ++ (⟨#[58]⟩ : ByteArray)) ++ t122) ++ (⟨#[58]⟩ : ByteArray)) ++ t123, 0)) else (none))) else (none)) else (none))) else (none)) else (none))) else (none)) else (none)) = some (r1, r2) := H
          have A9 := Aside0.mk A90
          clear A90
          by_cases c10 : (((t118 ++ (⟨#[45]⟩ : ByteArray)) ++ t119) ++ (⟨#[45]⟩ : ByteArray)).size + t120.size ≤ 9223372036854775807
          · rw [if_pos c10] at H
            have c10b0 := eq_true c10
            have c10b1 : decide ((((t118 ++ (⟨#[45]⟩ : ByteArray)) ++ t119) ++ (⟨#[45]⟩ : ByteArray)).size + t120.size ≤ 9223372036854775807) = true := decide_eq_true c10
            try have c10b2 : (9223372036854775807 < (((t118 ++ (⟨#[45]⟩ : ByteArray)) ++ t119) ++ (⟨#[45]⟩ : ByteArray)).size + t120.size) = False := eq_false (Nat.not_lt.2 c10)
            (try (have c10b3 := c10b2; simp only [ByteArray.size_append', show (⟨#[45]⟩ : ByteArray).size = 1 from rfl] at c10b3))
            by_cases c11 : ((((t118 ++ (⟨#[45]⟩ : ByteArray)) ++ t119) ++ (⟨#[45]⟩ : ByteArray)) ++ t120).size + 1 ≤ 9223372036854775807
            · rw [if_pos c11] at H
              have c11b0 := eq_true c11
              have c11b1 : decide (((((t118 ++ (⟨#[45]⟩ : ByteArray)) ++ t119) ++ (⟨#[45]⟩ : ByteArray)) ++ t120).size + 1 ≤ 9223372036854775807) = true := decide_eq_true c11
              try have c11b2 : (9223372036854775807 < ((((t118 ++ (⟨#[45]⟩ : ByteArray)) ++ t119) ++ (⟨#[45]⟩ : ByteArray)) ++ t120).size + 1) = False := eq_false (Nat.not_lt.2 c11)
              (try (have c11b3 := c11b2; simp only [ByteArray.size_append', show (⟨#[45]⟩ : ByteArray).size = 1 from rfl] at c11b3))
              replace H := Option.bind_eq_some_iff.mp H
              obtain ⟨t121, A120, H⟩ := H
              replace H : (if (((((t118 ++ (⟨#[45]⟩ : ByteArray)) ++ t119) ++ (⟨#[45]⟩ : ByteArray)) ++ t120) ++ (⟨#[32]⟩ : ByteArray)).size + t121.size ≤ 9223372036854775807 then (if ((((((t118 ++ (⟨#[45]⟩ : ByteArray)) ++ t119) ++ (⟨#[45]⟩ : ByteArray)) ++ t120) ++ (⟨#[32]⟩ : ByteArray)) ++ t121).size + 1 ≤ 9223372036854775807 then ((clock_digits.f a0_4 2).bind fun t122 => (if (((((((t118 ++ (⟨#[45]⟩ : ByteArray)) ++ t119) ++ (⟨#[45]⟩ : ByteArray)) ++ t120) ++ (⟨#[32]⟩ : ByteArray)) ++ t121) ++ (⟨#[58]⟩ : ByteArray)).size + t122.size ≤ 9223372036854775807 then (if ((((((((t118 ++ (⟨#[45]⟩ : ByteArray)) ++ t119) ++ (⟨#[45]⟩ : ByteArray)) ++ t120) ++ (⟨#[32]⟩ : ByteArray)) ++ t121) ++ (⟨#[58]⟩ : ByteArray)) ++ t122).size + 1 ≤ 9223372036854775807 then ((clock_digits.f a0_5 2).bind fun t123 => (if (((((((((t118 ++ (⟨#[45]⟩ : ByteArray)) ++ t119) ++ (⟨#[45]⟩ : ByteArray)) ++ t120) ++ (⟨#[32]⟩ : ByteArray)) ++ t121) ++ (⟨#[58]⟩ : ByteArray)) ++ t122) ++ (⟨#[58]⟩ : ByteArray)).size + t123.size ≤ 9223372036854775807 then (some ((((((((((t118 ++ (⟨#[45]⟩ : ByteArray)) ++ t119) ++ (⟨#[45]⟩ : ByteArray)) ++ t120) ++ (⟨#[32]⟩ : ByteArray)) ++ t121) ++ (⟨#[58]⟩ : ByteArray)) ++ t122) ++ (⟨#[58]⟩ : ByteArray)) ++ t123, 0)) else (none))) else (none)) else (none))) else (none)) else (none)) = some (r1, r2) := H
              have A12 := Aside0.mk A120
              clear A120
              by_cases c13 : (((((t118 ++ (⟨#[45]⟩ : ByteArray)) ++ t119) ++ (⟨#[45]⟩ : ByteArray)) ++ t120) ++ (⟨#[32]⟩ : ByteArray)).size + t121.size ≤ 9223372036854775807
              · rw [if_pos c13] at H
                have c13b0 := eq_true c13
                have c13b1 : decide ((((((t118 ++ (⟨#[45]⟩ : ByteArray)) ++ t119) ++ (⟨#[45]⟩ : ByteArray)) ++ t120) ++ (⟨#[32]⟩ : ByteArray)).size + t121.size ≤ 9223372036854775807) = true := decide_eq_true c13
                try have c13b2 : (9223372036854775807 < (((((t118 ++ (⟨#[45]⟩ : ByteArray)) ++ t119) ++ (⟨#[45]⟩ : ByteArray)) ++ t120) ++ (⟨#[32]⟩ : ByteArray)).size + t121.size) = False := eq_false (Nat.not_lt.2 c13)
                (try (have c13b3 := c13b2; simp only [ByteArray.size_append', show (⟨#[32]⟩ : ByteArray).size = 1 from rfl, show (⟨#[45]⟩ : ByteArray).size = 1 from rfl] at c13b3))
                by_cases c14 : ((((((t118 ++ (⟨#[45]⟩ : ByteArray)) ++ t119) ++ (⟨#[45]⟩ : ByteArray)) ++ t120) ++ (⟨#[32]⟩ : ByteArray)) ++ t121).size + 1 ≤ 9223372036854775807
                · rw [if_pos c14] at H
                  have c14b0 := eq_true c14
                  have c14b1 : decide (((((((t118 ++ (⟨#[45]⟩ : ByteArray)) ++ t119) ++ (⟨#[45]⟩ : ByteArray)) ++ t120) ++ (⟨#[32]⟩ : ByteArray)) ++ t121).size + 1 ≤ 9223372036854775807) = true := decide_eq_true c14
                  try have c14b2 : (9223372036854775807 < ((((((t118 ++ (⟨#[45]⟩ : ByteArray)) ++ t119) ++ (⟨#[45]⟩ : ByteArray)) ++ t120) ++ (⟨#[32]⟩ : ByteArray)) ++ t121).size + 1) = False := eq_false (Nat.not_lt.2 c14)
                  (try (have c14b3 := c14b2; simp only [ByteArray.size_append', show (⟨#[32]⟩ : ByteArray).size = 1 from rfl, show (⟨#[45]⟩ : ByteArray).size = 1 from rfl] at c14b3))
                  replace H := Option.bind_eq_some_iff.mp H
                  obtain ⟨t122, A150, H⟩ := H
                  replace H : (if (((((((t118 ++ (⟨#[45]⟩ : ByteArray)) ++ t119) ++ (⟨#[45]⟩ : ByteArray)) ++ t120) ++ (⟨#[32]⟩ : ByteArray)) ++ t121) ++ (⟨#[58]⟩ : ByteArray)).size + t122.size ≤ 9223372036854775807 then (if ((((((((t118 ++ (⟨#[45]⟩ : ByteArray)) ++ t119) ++ (⟨#[45]⟩ : ByteArray)) ++ t120) ++ (⟨#[32]⟩ : ByteArray)) ++ t121) ++ (⟨#[58]⟩ : ByteArray)) ++ t122).size + 1 ≤ 9223372036854775807 then ((clock_digits.f a0_5 2).bind fun t123 => (if (((((((((t118 ++ (⟨#[45]⟩ : ByteArray)) ++ t119) ++ (⟨#[45]⟩ : ByteArray)) ++ t120) ++ (⟨#[32]⟩ : ByteArray)) ++ t121) ++ (⟨#[58]⟩ : ByteArray)) ++ t122) ++ (⟨#[58]⟩ : ByteArray)).size + t123.size ≤ 9223372036854775807 then (some ((((((((((t118 ++ (⟨#[45]⟩ : ByteArray)) ++ t119) ++ (⟨#[45]⟩ : ByteArray)) ++ t120) ++ (⟨#[32]⟩ : ByteArray)) ++ t121) ++ (⟨#[58]⟩ : ByteArray)) ++ t122) ++ (⟨#[58]⟩ : ByteArray)) ++ t123, 0)) else (none))) else (none)) else (none)) = some (r1, r2) := H
                  have A15 := Aside0.mk A150
                  clear A150
                  by_cases c16 : (((((((t118 ++ (⟨#[45]⟩ : ByteArray)) ++ t119) ++ (⟨#[45]⟩ : ByteArray)) ++ t120) ++ (⟨#[32]⟩ : ByteArray)) ++ t121) ++ (⟨#[58]⟩ : ByteArray)).size + t122.size ≤ 9223372036854775807
                  · rw [if_pos c16] at H
                    have c16b0 := eq_true c16
                    have c16b1 : decide ((((((((t118 ++ (⟨#[45]⟩ : ByteArray)) ++ t119) ++ (⟨#[45]⟩ : ByteArray)) ++ t120) ++ (⟨#[32]⟩ : ByteArray)) ++ t121) ++ (⟨#[58]⟩ : ByteArray)).size + t122.size ≤ 9223372036854775807) = true := decide_eq_true c16
                    try have c16b2 : (9223372036854775807 < (((((((t118 ++ (⟨#[45]⟩ : ByteArray)) ++ t119) ++ (⟨#[45]⟩ : ByteArray)) ++ t120) ++ (⟨#[32]⟩ : ByteArray)) ++ t121) ++ (⟨#[58]⟩ : ByteArray)).size + t122.size) = False := eq_false (Nat.not_lt.2 c16)
                    (try (have c16b3 := c16b2; simp only [ByteArray.size_append', show (⟨#[32]⟩ : ByteArray).size = 1 from rfl, show (⟨#[45]⟩ : ByteArray).size = 1 from rfl, show (⟨#[58]⟩ : ByteArray).size = 1 from rfl] at c16b3))
                    by_cases c17 : ((((((((t118 ++ (⟨#[45]⟩ : ByteArray)) ++ t119) ++ (⟨#[45]⟩ : ByteArray)) ++ t120) ++ (⟨#[32]⟩ : ByteArray)) ++ t121) ++ (⟨#[58]⟩ : ByteArray)) ++ t122).size + 1 ≤ 9223372036854775807
                    · rw [if_pos c17] at H
                      have c17b0 := eq_true c17
                      have c17b1 : decide (((((((((t118 ++ (⟨#[45]⟩ : ByteArray)) ++ t119) ++ (⟨#[45]⟩ : ByteArray)) ++ t120) ++ (⟨#[32]⟩ : ByteArray)) ++ t121) ++ (⟨#[58]⟩ : ByteArray)) ++ t122).size + 1 ≤ 9223372036854775807) = true := decide_eq_true c17
                      try have c17b2 : (9223372036854775807 < ((((((((t118 ++ (⟨#[45]⟩ : ByteArray)) ++ t119) ++ (⟨#[45]⟩ : ByteArray)) ++ t120) ++ (⟨#[32]⟩ : ByteArray)) ++ t121) ++ (⟨#[58]⟩ : ByteArray)) ++ t122).size + 1) = False := eq_false (Nat.not_lt.2 c17)
                      (try (have c17b3 := c17b2; simp only [ByteArray.size_append', show (⟨#[32]⟩ : ByteArray).size = 1 from rfl, show (⟨#[45]⟩ : ByteArray).size = 1 from rfl, show (⟨#[58]⟩ : ByteArray).size = 1 from rfl] at c17b3))
                      replace H := Option.bind_eq_some_iff.mp H
                      obtain ⟨t123, A180, H⟩ := H
                      replace H : (if (((((((((t118 ++ (⟨#[45]⟩ : ByteArray)) ++ t119) ++ (⟨#[45]⟩ : ByteArray)) ++ t120) ++ (⟨#[32]⟩ : ByteArray)) ++ t121) ++ (⟨#[58]⟩ : ByteArray)) ++ t122) ++ (⟨#[58]⟩ : ByteArray)).size + t123.size ≤ 9223372036854775807 then (some ((((((((((t118 ++ (⟨#[45]⟩ : ByteArray)) ++ t119) ++ (⟨#[45]⟩ : ByteArray)) ++ t120) ++ (⟨#[32]⟩ : ByteArray)) ++ t121) ++ (⟨#[58]⟩ : ByteArray)) ++ t122) ++ (⟨#[58]⟩ : ByteArray)) ++ t123, 0)) else (none)) = some (r1, r2) := H
                      have A18 := Aside0.mk A180
                      clear A180
                      by_cases c19 : (((((((((t118 ++ (⟨#[45]⟩ : ByteArray)) ++ t119) ++ (⟨#[45]⟩ : ByteArray)) ++ t120) ++ (⟨#[32]⟩ : ByteArray)) ++ t121) ++ (⟨#[58]⟩ : ByteArray)) ++ t122) ++ (⟨#[58]⟩ : ByteArray)).size + t123.size ≤ 9223372036854775807
                      · rw [if_pos c19] at H
                        have c19b0 := eq_true c19
                        have c19b1 : decide ((((((((((t118 ++ (⟨#[45]⟩ : ByteArray)) ++ t119) ++ (⟨#[45]⟩ : ByteArray)) ++ t120) ++ (⟨#[32]⟩ : ByteArray)) ++ t121) ++ (⟨#[58]⟩ : ByteArray)) ++ t122) ++ (⟨#[58]⟩ : ByteArray)).size + t123.size ≤ 9223372036854775807) = true := decide_eq_true c19
                        try have c19b2 : (9223372036854775807 < (((((((((t118 ++ (⟨#[45]⟩ : ByteArray)) ++ t119) ++ (⟨#[45]⟩ : ByteArray)) ++ t120) ++ (⟨#[32]⟩ : ByteArray)) ++ t121) ++ (⟨#[58]⟩ : ByteArray)) ++ t122) ++ (⟨#[58]⟩ : ByteArray)).size + t123.size) = False := eq_false (Nat.not_lt.2 c19)
                        (try (have c19b3 := c19b2; simp only [ByteArray.size_append', show (⟨#[32]⟩ : ByteArray).size = 1 from rfl, show (⟨#[45]⟩ : ByteArray).size = 1 from rfl, show (⟨#[58]⟩ : ByteArray).size = 1 from rfl] at c19b3))
                        simp only [Option.some.injEq, Prod.mk.injEq] at H
                        obtain ⟨rfl, rfl⟩ := H
                        go_enter Tryd.func33, Tryd.ntmps33
                        try go_wp2_with (first | ((with_reducible refine gate_dst (N := 1) rfl ?_); refine box_event ?hg (N := 1) ?hd (cs := #[.int .i64 a0_0, .int .i64 a0_1, .int .i64 a0_2, .int .i64 a0_3, .int .i64 a0_4, .int .i64 a0_5]) (t := 38) ?hr ?_; (case hd => rfl); (case hg => rfl); (case hr => first | (go_simp; done) | (go_simp; rfl)); intro gb116 hg w20 hbox hb; have n0_ := Aside0.mk (below_step (by repeat (first | (with_reducible first | exact HB.out | apply below_alloc | apply pw_below_drewN | apply below_drew1) | exact HB.out)) hb); have n1_ := Aside0.mk (hbox); have n2_ := Aside0.mk ((by rw [hg]; exact (below_size (by repeat (first | (with_reducible first | exact HB.out | apply below_alloc | apply pw_below_drewN | apply below_drew1) | exact HB.out))) : w.heap.size ≤ gb116)); have n3_ := Aside0.mk ((by rw [hg]; exact (below_size (by repeat (first | (with_reducible first | exact HB.out | apply below_alloc | apply pw_below_drewN | apply below_drew1) | exact HB.out))) : w.heap.size ≤ gb116)); clear HB; have HB := n0_; have BK116 := n1_; have GW116 := n2_; have GE116 := n3_; clear n0_ n1_ n2_ n3_; clear hb hbox hg; have hcz21_0 : w20.cell? ⟨gb116, 0, none⟩ = some (.int .i64 a0_0) := (blk_cell BK116.out 0).trans rfl; have hcz21_1 : w20.cell? ⟨gb116, 1, none⟩ = some (.int .i64 a0_1) := (blk_cell BK116.out 1).trans rfl; have hcz21_2 : w20.cell? ⟨gb116, 2, none⟩ = some (.int .i64 a0_2) := (blk_cell BK116.out 2).trans rfl; have hcz21_3 : w20.cell? ⟨gb116, 3, none⟩ = some (.int .i64 a0_3) := (blk_cell BK116.out 3).trans rfl; have hcz21_4 : w20.cell? ⟨gb116, 4, none⟩ = some (.int .i64 a0_4) := (blk_cell BK116.out 4).trans rfl; have hcz21_5 : w20.cell? ⟨gb116, 5, none⟩ = some (.int .i64 a0_5) := (blk_cell BK116.out 5).trans rfl; have hfz21_0 := blk_frozen BK116.out 0; have hfz21_1 := blk_frozen BK116.out 1; have hfz21_2 := blk_frozen BK116.out 2; have hfz21_3 := blk_frozen BK116.out 3; have hfz21_4 := blk_frozen BK116.out 4; have hfz21_5 := blk_frozen BK116.out 5) | ((with_reducible refine gate_callee (f := 77) rfl ?_); refine goesL_ (some 5) rfl rfl Tryd.func77 (by kernel_rfl) rfl #[.agg #[.int .i64 a0_0, .int .i64 a0_1, .int .i64 a0_2, .int .i64 a0_3, .int .i64 a0_4, .int .i64 a0_5]] rfl (by (try simp only [List.map_toArray, List.map_cons, List.map_nil]); first | done | rfl | (simp only [List.length_drop, List.length_take]; rfl)) ?_; (with_reducible refine (clock_right.calls k a0_0 a0_1 a0_2 a0_3 a0_4 a0_5 true _ A2.out).mono ?_); rintro e w22 ⟨rfl, hb⟩; refine ⟨_, rfl, ?_⟩; have n0_ := Aside0.mk (blk_below (g := gb116) (o := .cells #[.int .i64 a0_0, .int .i64 a0_1, .int .i64 a0_2, .int .i64 a0_3, .int .i64 a0_4, .int .i64 a0_5] 38 (0, 0)) (by (with_reducible repeat (first | refine blk_drewN ?_ _ | refine blk_drew ?_ | refine blk_alloc ?_ _)); exact BK116.out) hb); have n1_ := Aside0.mk (below_step (by repeat (first | (with_reducible first | exact HB.out | apply below_alloc | apply pw_below_drewN | apply below_drew1 | refine below_set ?_ GE116.out) | exact HB.out)) hb); clear BK116; clear HB; have BK116 := n0_; have HB := n1_; clear n0_ n1_; (try clear hb); (try clear hb2); (try clear hk); (try clear hi)))
                        have n0_ := Aside0.mk (blk_drew BK116.out)
                        have n1_ := Aside0.mk (below_drew1 HB.out)
                        clear BK116
                        clear HB
                        have BK116 := n0_
                        have HB := n1_
                        clear n0_ n1_
                        refine start_ (n := 30) (S := fun w' => w'.cell? ⟨gb116, 0, none⟩ = some (.int .i64 a0_0) ∧ w'.cell? ⟨gb116, 1, none⟩ = some (.int .i64 a0_1) ∧ w'.cell? ⟨gb116, 2, none⟩ = some (.int .i64 a0_2) ∧ w'.cell? ⟨gb116, 3, none⟩ = some (.int .i64 a0_3) ∧ w'.cell? ⟨gb116, 4, none⟩ = some (.int .i64 a0_4) ∧ w'.cell? ⟨gb116, 5, none⟩ = some (.int .i64 a0_5)) (ds := []) #[false, false, false, false, false, false, false, false, false, false, false, false, false, false, false, false, false, false, false, false, false, false, false, false, false, false, false, false, false, false] (by kernel_rfl) rfl rfl ⟨(blk_cell BK116.out 0).trans rfl, (blk_cell BK116.out 1).trans rfl, (blk_cell BK116.out 2).trans rfl, (blk_cell BK116.out 3).trans rfl, (blk_cell BK116.out 4).trans rfl, (blk_cell BK116.out 5).trans rfl⟩ (fun hHeld => ?_); refine with_tabW clock_Text.tab3 clock_Text.bits3 (fun HT_ HW_ => ?_)
                        generalize w22.drew = w23 at BK116 HB hHeld ⊢
                        refine pure_ (i := 0) (N := some 7) (v := ?_) (a' := ?_) #[true, false, false, false, false, false, false, false, false, false, false, false, false, false, false, false, false, false, false, false, false, false, false, false, false, false, false, false, false, false] rfl rfl (any_of HT_.out (by kernel_rfl)) (fun _ _ _ h => h) (Or.inl ⟨by rfl, ?_⟩) ?_ ?_
                        rotate_left
                        · intro w'
                          go_simp
                          with_reducible rfl
                        rotate_left
                        · simp only [Act.put, List.setIfInBounds_toArray, List.set_cons_zero, List.set_cons_succ, i64_w, i32_w]
                          rfl
                        refine pure_ (i := 4) (N := some 11) (v := ?_) (a' := ?_) #[true, false, false, false, true, false, false, false, false, false, false, false, false, false, false, false, false, false, false, false, false, false, false, false, false, false, false, false, false, false] rfl rfl (any_of HT_.out (by kernel_rfl)) (fun _ _ _ h => h) (Or.inl ⟨by rfl, ?_⟩) ?_ ?_
                        rotate_left
                        · intro w'
                          go_simp
                          with_reducible rfl
                        rotate_left
                        · simp only [Act.put, List.setIfInBounds_toArray, List.set_cons_zero, List.set_cons_succ, i64_w, i32_w]
                          rfl
                        refine pure_ (i := 9) (N := some 16) (v := ?_) (a' := ?_) #[true, false, false, false, true, false, false, false, false, true, false, false, false, false, false, false, false, false, false, false, false, false, false, false, false, false, false, false, false, false] rfl rfl (any_of HT_.out (by kernel_rfl)) (fun _ _ _ h => h) (Or.inl ⟨by rfl, ?_⟩) ?_ ?_
                        rotate_left
                        · intro w'
                          go_simp
                          with_reducible rfl
                        rotate_left
                        · simp only [Act.put, List.setIfInBounds_toArray, List.set_cons_zero, List.set_cons_succ, i64_w, i32_w]
                          rfl
                        refine pure_ (i := 14) (N := some 21) (v := ?_) (a' := ?_) #[true, false, false, false, true, false, false, false, false, true, false, false, false, false, true, false, false, false, false, false, false, false, false, false, false, false, false, false, false, false] rfl rfl (any_of HT_.out (by kernel_rfl)) (fun _ _ _ h => h) (Or.inl ⟨by rfl, ?_⟩) ?_ ?_
                        rotate_left
                        · intro w'
                          go_simp
                          with_reducible rfl
                        rotate_left
                        · simp only [Act.put, List.setIfInBounds_toArray, List.set_cons_zero, List.set_cons_succ, i64_w, i32_w]
                          rfl
                        refine pure_ (i := 19) (N := some 26) (v := ?_) (a' := ?_) #[true, false, false, false, true, false, false, false, false, true, false, false, false, false, true, false, false, false, false, true, false, false, false, false, false, false, false, false, false, false] rfl rfl (any_of HT_.out (by kernel_rfl)) (fun _ _ _ h => h) (Or.inl ⟨by rfl, ?_⟩) ?_ ?_
                        rotate_left
                        · intro w'
                          go_simp
                          with_reducible rfl
                        rotate_left
                        · simp only [Act.put, List.setIfInBounds_toArray, List.set_cons_zero, List.set_cons_succ, i64_w, i32_w]
                          rfl
                        refine pure_ (i := 24) (N := some 31) (v := ?_) (a' := ?_) #[true, false, false, false, true, false, false, false, false, true, false, false, false, false, true, false, false, false, false, true, false, false, false, false, true, false, false, false, false, false] rfl rfl (any_of HT_.out (by kernel_rfl)) (fun _ _ _ h => h) (Or.inl ⟨by rfl, ?_⟩) ?_ ?_
                        rotate_left
                        · intro w'
                          go_simp
                          with_reducible rfl
                        rotate_left
                        · simp only [Act.put, List.setIfInBounds_toArray, List.set_cons_zero, List.set_cons_succ, i64_w, i32_w]
                          rfl
                        refine take_ (i := 1) (N := some 8) (v := ?_) (a' := ?_) #[true, true, false, false, true, false, false, false, false, true, false, false, false, false, true, false, false, false, false, true, false, false, false, false, true, false, false, false, false, false] rfl rfl (take_ofW HT_.out HW_.out (by kernel_rfl)) (fun _ _ _ h => h) (Or.inl ⟨by rfl, ?_⟩) hHeld ?_ ?_
                        rotate_left
                        · rintro w' ⟨s0, s1, s2, s3, s4, s5⟩
                          go_simp
                          with_reducible rfl
                        rotate_left
                        · simp only [Act.put, List.setIfInBounds_toArray, List.set_cons_zero, List.set_cons_succ, i64_w, i32_w]
                          rfl
                        refine take_ (i := 5) (N := some 12) (v := ?_) (a' := ?_) #[true, true, false, false, true, true, false, false, false, true, false, false, false, false, true, false, false, false, false, true, false, false, false, false, true, false, false, false, false, false] rfl rfl (take_ofW HT_.out HW_.out (by kernel_rfl)) (fun _ _ _ h => h) (Or.inl ⟨by rfl, ?_⟩) hHeld ?_ ?_
                        rotate_left
                        · rintro w' ⟨s0, s1, s2, s3, s4, s5⟩
                          go_simp
                          with_reducible rfl
                        rotate_left
                        · simp only [Act.put, List.setIfInBounds_toArray, List.set_cons_zero, List.set_cons_succ, i64_w, i32_w]
                          rfl
                        refine take_ (i := 10) (N := some 17) (v := ?_) (a' := ?_) #[true, true, false, false, true, true, false, false, false, true, true, false, false, false, true, false, false, false, false, true, false, false, false, false, true, false, false, false, false, false] rfl rfl (take_ofW HT_.out HW_.out (by kernel_rfl)) (fun _ _ _ h => h) (Or.inl ⟨by rfl, ?_⟩) hHeld ?_ ?_
                        rotate_left
                        · rintro w' ⟨s0, s1, s2, s3, s4, s5⟩
                          go_simp
                          with_reducible rfl
                        rotate_left
                        · simp only [Act.put, List.setIfInBounds_toArray, List.set_cons_zero, List.set_cons_succ, i64_w, i32_w]
                          rfl
                        refine take_ (i := 15) (N := some 22) (v := ?_) (a' := ?_) #[true, true, false, false, true, true, false, false, false, true, true, false, false, false, true, true, false, false, false, true, false, false, false, false, true, false, false, false, false, false] rfl rfl (take_ofW HT_.out HW_.out (by kernel_rfl)) (fun _ _ _ h => h) (Or.inl ⟨by rfl, ?_⟩) hHeld ?_ ?_
                        rotate_left
                        · rintro w' ⟨s0, s1, s2, s3, s4, s5⟩
                          go_simp
                          with_reducible rfl
                        rotate_left
                        · simp only [Act.put, List.setIfInBounds_toArray, List.set_cons_zero, List.set_cons_succ, i64_w, i32_w]
                          rfl
                        refine take_ (i := 20) (N := some 27) (v := ?_) (a' := ?_) #[true, true, false, false, true, true, false, false, false, true, true, false, false, false, true, true, false, false, false, true, true, false, false, false, true, false, false, false, false, false] rfl rfl (take_ofW HT_.out HW_.out (by kernel_rfl)) (fun _ _ _ h => h) (Or.inl ⟨by rfl, ?_⟩) hHeld ?_ ?_
                        rotate_left
                        · rintro w' ⟨s0, s1, s2, s3, s4, s5⟩
                          go_simp
                          with_reducible rfl
                        rotate_left
                        · simp only [Act.put, List.setIfInBounds_toArray, List.set_cons_zero, List.set_cons_succ, i64_w, i32_w]
                          rfl
                        refine take_ (i := 25) (N := some 32) (v := ?_) (a' := ?_) #[true, true, false, false, true, true, false, false, false, true, true, false, false, false, true, true, false, false, false, true, true, false, false, false, true, true, false, false, false, false] rfl rfl (take_ofW HT_.out HW_.out (by kernel_rfl)) (fun _ _ _ h => h) (Or.inl ⟨by rfl, ?_⟩) hHeld ?_ ?_
                        rotate_left
                        · rintro w' ⟨s0, s1, s2, s3, s4, s5⟩
                          go_simp
                          with_reducible rfl
                        rotate_left
                        · simp only [Act.put, List.setIfInBounds_toArray, List.set_cons_zero, List.set_cons_succ, i64_w, i32_w]
                          rfl
                        refine one_ (i := 2) (N := some 9) #[true, true, true, false, true, true, false, false, false, true, true, false, false, false, true, true, false, false, false, true, true, false, false, false, true, true, false, false, false, false] rfl rfl (one_of HT_.out (by kernel_rfl)) (by decide) (fun K hK => ?_)
                        refine goes_ Tryd.func80 (by kernel_rfl) rfl #[.int .i64 a0_0, .int .i64 4] (by rfl) rfl rfl (by (try simp only [List.map_toArray, List.map_cons, List.map_nil]); first | done | rfl | (simp only [List.length_drop, List.length_take]; rfl)) ?_
                        with_reducible refine (clock_digits.calls a0_0 4 t118 _ A4.out (XGlob.Laid.below HL.out (by repeat (first | (with_reducible first | exact HB.out | apply below_alloc | apply pw_below_drewN | apply below_drew1 | refine below_set ?_ (Aside0.out (by assumption))) | exact HB.out)))).mono ?_
                        rintro e w24 ⟨rfl, hb⟩
                        refine ⟨_, rfl, ?_⟩
                        have n0_ := Aside0.mk (blk_below (g := gb116) (o := .cells #[.int .i64 a0_0, .int .i64 a0_1, .int .i64 a0_2, .int .i64 a0_3, .int .i64 a0_4, .int .i64 a0_5] 38 (0, 0)) (by (with_reducible repeat (first | refine blk_drewN ?_ _ | refine blk_drew ?_ | refine blk_alloc ?_ _)); exact BK116.out) hb)
                        have n1_ := Aside0.mk (below_step (by repeat (first | (with_reducible first | exact HB.out | apply below_alloc | apply pw_below_drewN | apply below_drew1 | refine below_set ?_ GE116.out) | exact HB.out)) hb)
                        clear BK116
                        clear HB
                        have BK116 := n0_
                        have HB := n1_
                        clear n0_ n1_
                        (try clear hb)
                        (try clear hb2)
                        (try clear hk)
                        (try clear hi)
                        refine hK.out _ _ ⟨(blk_cell BK116.out 0).trans rfl, (blk_cell BK116.out 1).trans rfl, (blk_cell BK116.out 2).trans rfl, (blk_cell BK116.out 3).trans rfl, (blk_cell BK116.out 4).trans rfl, (blk_cell BK116.out 5).trans rfl⟩ (fun hHeld => ?_)
                        clear hK K
                        refine norm_ (a' := ?_) ?_ ?_
                        rotate_left
                        · show Act.put _ (some 9) _ = _
                          simp only [Act.put, List.setIfInBounds_toArray, List.set_cons_zero, List.set_cons_succ, i64_w, i32_w]
                          rfl
                        refine pure_ (i := 3) (N := some 10) (v := ?_) (a' := ?_) #[true, true, true, true, true, true, false, false, false, true, true, false, false, false, true, true, false, false, false, true, true, false, false, false, true, true, false, false, false, false] rfl rfl (any_of HT_.out (by kernel_rfl)) (fun _ _ _ h => h) (Or.inl ⟨by rfl, ?_⟩) ?_ ?_
                        rotate_left
                        · intro w'
                          go_simp
                          with_reducible rfl
                        rotate_left
                        · simp only [Act.put, List.setIfInBounds_toArray, List.set_cons_zero, List.set_cons_succ, i64_w, i32_w]
                          rfl
                        refine one_ (i := 6) (N := some 13) #[true, true, true, true, true, true, true, false, false, true, true, false, false, false, true, true, false, false, false, true, true, false, false, false, true, true, false, false, false, false] rfl rfl (one_of HT_.out (by kernel_rfl)) (by decide) (fun K hK => ?_)
                        refine goes_ Tryd.func80 (by kernel_rfl) rfl #[.int .i64 a0_1, .int .i64 2] (by rfl) rfl rfl (by (try simp only [List.map_toArray, List.map_cons, List.map_nil]); first | done | rfl | (simp only [List.length_drop, List.length_take]; rfl)) ?_
                        with_reducible refine (clock_digits.calls a0_1 2 t119 _ A6.out (XGlob.Laid.below HL.out (by repeat (first | (with_reducible first | exact HB.out | apply below_alloc | apply pw_below_drewN | apply below_drew1 | refine below_set ?_ (Aside0.out (by assumption))) | exact HB.out)))).mono ?_
                        rintro e w25 ⟨rfl, hb⟩
                        refine ⟨_, rfl, ?_⟩
                        have n0_ := Aside0.mk (blk_below (g := gb116) (o := .cells #[.int .i64 a0_0, .int .i64 a0_1, .int .i64 a0_2, .int .i64 a0_3, .int .i64 a0_4, .int .i64 a0_5] 38 (0, 0)) (by (with_reducible repeat (first | refine blk_drewN ?_ _ | refine blk_drew ?_ | refine blk_alloc ?_ _)); exact BK116.out) hb)
                        have n1_ := Aside0.mk (below_step (by repeat (first | (with_reducible first | exact HB.out | apply below_alloc | apply pw_below_drewN | apply below_drew1 | refine below_set ?_ GE116.out) | exact HB.out)) hb)
                        clear BK116
                        clear HB
                        have BK116 := n0_
                        have HB := n1_
                        clear n0_ n1_
                        (try clear hb)
                        (try clear hb2)
                        (try clear hk)
                        (try clear hi)
                        refine hK.out _ _ ⟨(blk_cell BK116.out 0).trans rfl, (blk_cell BK116.out 1).trans rfl, (blk_cell BK116.out 2).trans rfl, (blk_cell BK116.out 3).trans rfl, (blk_cell BK116.out 4).trans rfl, (blk_cell BK116.out 5).trans rfl⟩ (fun hHeld => ?_)
                        clear hK K
                        refine norm_ (a' := ?_) ?_ ?_
                        rotate_left
                        · show Act.put _ (some 13) _ = _
                          simp only [Act.put, List.setIfInBounds_toArray, List.set_cons_zero, List.set_cons_succ, i64_w, i32_w]
                          rfl
                        refine pure_ (i := 7) (N := some 14) (v := ?_) (a' := ?_) #[true, true, true, true, true, true, true, true, false, true, true, false, false, false, true, true, false, false, false, true, true, false, false, false, true, true, false, false, false, false] rfl rfl (any_of HT_.out (by kernel_rfl)) (fun _ _ _ h => h) (Or.inl ⟨by rfl, ?_⟩) ?_ ?_
                        rotate_left
                        · intro w'
                          go_simp
                          with_reducible rfl
                        rotate_left
                        · simp only [Act.put, List.setIfInBounds_toArray, List.set_cons_zero, List.set_cons_succ, i64_w, i32_w]
                          rfl
                        refine pure_ (i := 8) (N := some 15) (v := ?_) (a' := ?_) #[true, true, true, true, true, true, true, true, true, true, true, false, false, false, true, true, false, false, false, true, true, false, false, false, true, true, false, false, false, false] rfl rfl (any_of HT_.out (by kernel_rfl)) (fun _ _ _ h => h) (Or.inl ⟨by rfl, ?_⟩) ?_ ?_
                        rotate_left
                        · intro w'
                          go_simp
                          with_reducible rfl
                        rotate_left
                        · simp only [Act.put, List.setIfInBounds_toArray, List.set_cons_zero, List.set_cons_succ, i64_w, i32_w]
                          rfl
                        refine one_ (i := 11) (N := some 18) #[true, true, true, true, true, true, true, true, true, true, true, true, false, false, true, true, false, false, false, true, true, false, false, false, true, true, false, false, false, false] rfl rfl (one_of HT_.out (by kernel_rfl)) (by decide) (fun K hK => ?_)
                        refine goes_ Tryd.func80 (by kernel_rfl) rfl #[.int .i64 a0_2, .int .i64 2] (by rfl) rfl rfl (by (try simp only [List.map_toArray, List.map_cons, List.map_nil]); first | done | rfl | (simp only [List.length_drop, List.length_take]; rfl)) ?_
                        with_reducible refine (clock_digits.calls a0_2 2 t120 _ A9.out (XGlob.Laid.below HL.out (by repeat (first | (with_reducible first | exact HB.out | apply below_alloc | apply pw_below_drewN | apply below_drew1 | refine below_set ?_ (Aside0.out (by assumption))) | exact HB.out)))).mono ?_
                        rintro e w26 ⟨rfl, hb⟩
                        refine ⟨_, rfl, ?_⟩
                        have n0_ := Aside0.mk (blk_below (g := gb116) (o := .cells #[.int .i64 a0_0, .int .i64 a0_1, .int .i64 a0_2, .int .i64 a0_3, .int .i64 a0_4, .int .i64 a0_5] 38 (0, 0)) (by (with_reducible repeat (first | refine blk_drewN ?_ _ | refine blk_drew ?_ | refine blk_alloc ?_ _)); exact BK116.out) hb)
                        have n1_ := Aside0.mk (below_step (by repeat (first | (with_reducible first | exact HB.out | apply below_alloc | apply pw_below_drewN | apply below_drew1 | refine below_set ?_ GE116.out) | exact HB.out)) hb)
                        clear BK116
                        clear HB
                        have BK116 := n0_
                        have HB := n1_
                        clear n0_ n1_
                        (try clear hb)
                        (try clear hb2)
                        (try clear hk)
                        (try clear hi)
                        refine hK.out _ _ ⟨(blk_cell BK116.out 0).trans rfl, (blk_cell BK116.out 1).trans rfl, (blk_cell BK116.out 2).trans rfl, (blk_cell BK116.out 3).trans rfl, (blk_cell BK116.out 4).trans rfl, (blk_cell BK116.out 5).trans rfl⟩ (fun hHeld => ?_)
                        clear hK K
                        refine norm_ (a' := ?_) ?_ ?_
                        rotate_left
                        · show Act.put _ (some 18) _ = _
                          simp only [Act.put, List.setIfInBounds_toArray, List.set_cons_zero, List.set_cons_succ, i64_w, i32_w]
                          rfl
                        refine pure_ (i := 12) (N := some 19) (v := ?_) (a' := ?_) #[true, true, true, true, true, true, true, true, true, true, true, true, true, false, true, true, false, false, false, true, true, false, false, false, true, true, false, false, false, false] rfl rfl (any_of HT_.out (by kernel_rfl)) (fun _ _ _ h => h) (Or.inl ⟨by rfl, ?_⟩) ?_ ?_
                        rotate_left
                        · intro w'
                          go_simp
                          with_reducible rfl
                        rotate_left
                        · simp only [Act.put, List.setIfInBounds_toArray, List.set_cons_zero, List.set_cons_succ, i64_w, i32_w]
                          rfl
                        refine pure_ (i := 13) (N := some 20) (v := ?_) (a' := ?_) #[true, true, true, true, true, true, true, true, true, true, true, true, true, true, true, true, false, false, false, true, true, false, false, false, true, true, false, false, false, false] rfl rfl (any_of HT_.out (by kernel_rfl)) (fun _ _ _ h => h) (Or.inl ⟨by rfl, ?_⟩) ?_ ?_
                        rotate_left
                        · intro w'
                          go_simp
                          with_reducible rfl
                        rotate_left
                        · simp only [Act.put, List.setIfInBounds_toArray, List.set_cons_zero, List.set_cons_succ, i64_w, i32_w]
                          rfl
                        refine one_ (i := 16) (N := some 23) #[true, true, true, true, true, true, true, true, true, true, true, true, true, true, true, true, true, false, false, true, true, false, false, false, true, true, false, false, false, false] rfl rfl (one_of HT_.out (by kernel_rfl)) (by decide) (fun K hK => ?_)
                        refine goes_ Tryd.func80 (by kernel_rfl) rfl #[.int .i64 a0_3, .int .i64 2] (by rfl) rfl rfl (by (try simp only [List.map_toArray, List.map_cons, List.map_nil]); first | done | rfl | (simp only [List.length_drop, List.length_take]; rfl)) ?_
                        with_reducible refine (clock_digits.calls a0_3 2 t121 _ A12.out (XGlob.Laid.below HL.out (by repeat (first | (with_reducible first | exact HB.out | apply below_alloc | apply pw_below_drewN | apply below_drew1 | refine below_set ?_ (Aside0.out (by assumption))) | exact HB.out)))).mono ?_
                        rintro e w27 ⟨rfl, hb⟩
                        refine ⟨_, rfl, ?_⟩
                        have n0_ := Aside0.mk (blk_below (g := gb116) (o := .cells #[.int .i64 a0_0, .int .i64 a0_1, .int .i64 a0_2, .int .i64 a0_3, .int .i64 a0_4, .int .i64 a0_5] 38 (0, 0)) (by (with_reducible repeat (first | refine blk_drewN ?_ _ | refine blk_drew ?_ | refine blk_alloc ?_ _)); exact BK116.out) hb)
                        have n1_ := Aside0.mk (below_step (by repeat (first | (with_reducible first | exact HB.out | apply below_alloc | apply pw_below_drewN | apply below_drew1 | refine below_set ?_ GE116.out) | exact HB.out)) hb)
                        clear BK116
                        clear HB
                        have BK116 := n0_
                        have HB := n1_
                        clear n0_ n1_
                        (try clear hb)
                        (try clear hb2)
                        (try clear hk)
                        (try clear hi)
                        refine hK.out _ _ ⟨(blk_cell BK116.out 0).trans rfl, (blk_cell BK116.out 1).trans rfl, (blk_cell BK116.out 2).trans rfl, (blk_cell BK116.out 3).trans rfl, (blk_cell BK116.out 4).trans rfl, (blk_cell BK116.out 5).trans rfl⟩ (fun hHeld => ?_)
                        clear hK K
                        refine norm_ (a' := ?_) ?_ ?_
                        rotate_left
                        · show Act.put _ (some 23) _ = _
                          simp only [Act.put, List.setIfInBounds_toArray, List.set_cons_zero, List.set_cons_succ, i64_w, i32_w]
                          rfl
                        refine pure_ (i := 17) (N := some 24) (v := ?_) (a' := ?_) #[true, true, true, true, true, true, true, true, true, true, true, true, true, true, true, true, true, true, false, true, true, false, false, false, true, true, false, false, false, false] rfl rfl (any_of HT_.out (by kernel_rfl)) (fun _ _ _ h => h) (Or.inl ⟨by rfl, ?_⟩) ?_ ?_
                        rotate_left
                        · intro w'
                          go_simp
                          with_reducible rfl
                        rotate_left
                        · simp only [Act.put, List.setIfInBounds_toArray, List.set_cons_zero, List.set_cons_succ, i64_w, i32_w]
                          rfl
                        refine pure_ (i := 18) (N := some 25) (v := ?_) (a' := ?_) #[true, true, true, true, true, true, true, true, true, true, true, true, true, true, true, true, true, true, true, true, true, false, false, false, true, true, false, false, false, false] rfl rfl (any_of HT_.out (by kernel_rfl)) (fun _ _ _ h => h) (Or.inl ⟨by rfl, ?_⟩) ?_ ?_
                        rotate_left
                        · intro w'
                          go_simp
                          with_reducible rfl
                        rotate_left
                        · simp only [Act.put, List.setIfInBounds_toArray, List.set_cons_zero, List.set_cons_succ, i64_w, i32_w]
                          rfl
                        refine one_ (i := 21) (N := some 28) #[true, true, true, true, true, true, true, true, true, true, true, true, true, true, true, true, true, true, true, true, true, true, false, false, true, true, false, false, false, false] rfl rfl (one_of HT_.out (by kernel_rfl)) (by decide) (fun K hK => ?_)
                        refine goes_ Tryd.func80 (by kernel_rfl) rfl #[.int .i64 a0_4, .int .i64 2] (by rfl) rfl rfl (by (try simp only [List.map_toArray, List.map_cons, List.map_nil]); first | done | rfl | (simp only [List.length_drop, List.length_take]; rfl)) ?_
                        with_reducible refine (clock_digits.calls a0_4 2 t122 _ A15.out (XGlob.Laid.below HL.out (by repeat (first | (with_reducible first | exact HB.out | apply below_alloc | apply pw_below_drewN | apply below_drew1 | refine below_set ?_ (Aside0.out (by assumption))) | exact HB.out)))).mono ?_
                        rintro e w28 ⟨rfl, hb⟩
                        refine ⟨_, rfl, ?_⟩
                        have n0_ := Aside0.mk (blk_below (g := gb116) (o := .cells #[.int .i64 a0_0, .int .i64 a0_1, .int .i64 a0_2, .int .i64 a0_3, .int .i64 a0_4, .int .i64 a0_5] 38 (0, 0)) (by (with_reducible repeat (first | refine blk_drewN ?_ _ | refine blk_drew ?_ | refine blk_alloc ?_ _)); exact BK116.out) hb)
                        have n1_ := Aside0.mk (below_step (by repeat (first | (with_reducible first | exact HB.out | apply below_alloc | apply pw_below_drewN | apply below_drew1 | refine below_set ?_ GE116.out) | exact HB.out)) hb)
                        clear BK116
                        clear HB
                        have BK116 := n0_
                        have HB := n1_
                        clear n0_ n1_
                        (try clear hb)
                        (try clear hb2)
                        (try clear hk)
                        (try clear hi)
                        refine hK.out _ _ ⟨(blk_cell BK116.out 0).trans rfl, (blk_cell BK116.out 1).trans rfl, (blk_cell BK116.out 2).trans rfl, (blk_cell BK116.out 3).trans rfl, (blk_cell BK116.out 4).trans rfl, (blk_cell BK116.out 5).trans rfl⟩ (fun hHeld => ?_)
                        clear hK K
                        refine norm_ (a' := ?_) ?_ ?_
                        rotate_left
                        · show Act.put _ (some 28) _ = _
                          simp only [Act.put, List.setIfInBounds_toArray, List.set_cons_zero, List.set_cons_succ, i64_w, i32_w]
                          rfl
                        refine pure_ (i := 22) (N := some 29) (v := ?_) (a' := ?_) #[true, true, true, true, true, true, true, true, true, true, true, true, true, true, true, true, true, true, true, true, true, true, true, false, true, true, false, false, false, false] rfl rfl (any_of HT_.out (by kernel_rfl)) (fun _ _ _ h => h) (Or.inl ⟨by rfl, ?_⟩) ?_ ?_
                        rotate_left
                        · intro w'
                          go_simp
                          with_reducible rfl
                        rotate_left
                        · simp only [Act.put, List.setIfInBounds_toArray, List.set_cons_zero, List.set_cons_succ, i64_w, i32_w]
                          rfl
                        refine pure_ (i := 23) (N := some 30) (v := ?_) (a' := ?_) #[true, true, true, true, true, true, true, true, true, true, true, true, true, true, true, true, true, true, true, true, true, true, true, true, true, true, false, false, false, false] rfl rfl (any_of HT_.out (by kernel_rfl)) (fun _ _ _ h => h) (Or.inl ⟨by rfl, ?_⟩) ?_ ?_
                        rotate_left
                        · intro w'
                          go_simp
                          with_reducible rfl
                        rotate_left
                        · simp only [Act.put, List.setIfInBounds_toArray, List.set_cons_zero, List.set_cons_succ, i64_w, i32_w]
                          rfl
                        refine one_ (i := 26) (N := some 33) #[true, true, true, true, true, true, true, true, true, true, true, true, true, true, true, true, true, true, true, true, true, true, true, true, true, true, true, false, false, false] rfl rfl (one_of HT_.out (by kernel_rfl)) (by decide) (fun K hK => ?_)
                        refine goes_ Tryd.func80 (by kernel_rfl) rfl #[.int .i64 a0_5, .int .i64 2] (by rfl) rfl rfl (by (try simp only [List.map_toArray, List.map_cons, List.map_nil]); first | done | rfl | (simp only [List.length_drop, List.length_take]; rfl)) ?_
                        with_reducible refine (clock_digits.calls a0_5 2 t123 _ A18.out (XGlob.Laid.below HL.out (by repeat (first | (with_reducible first | exact HB.out | apply below_alloc | apply pw_below_drewN | apply below_drew1 | refine below_set ?_ (Aside0.out (by assumption))) | exact HB.out)))).mono ?_
                        rintro e w29 ⟨rfl, hb⟩
                        refine ⟨_, rfl, ?_⟩
                        have n0_ := Aside0.mk (blk_below (g := gb116) (o := .cells #[.int .i64 a0_0, .int .i64 a0_1, .int .i64 a0_2, .int .i64 a0_3, .int .i64 a0_4, .int .i64 a0_5] 38 (0, 0)) (by (with_reducible repeat (first | refine blk_drewN ?_ _ | refine blk_drew ?_ | refine blk_alloc ?_ _)); exact BK116.out) hb)
                        have n1_ := Aside0.mk (below_step (by repeat (first | (with_reducible first | exact HB.out | apply below_alloc | apply pw_below_drewN | apply below_drew1 | refine below_set ?_ GE116.out) | exact HB.out)) hb)
                        clear BK116
                        clear HB
                        have BK116 := n0_
                        have HB := n1_
                        clear n0_ n1_
                        (try clear hb)
                        (try clear hb2)
                        (try clear hk)
                        (try clear hi)
                        refine hK.out _ _ ⟨(blk_cell BK116.out 0).trans rfl, (blk_cell BK116.out 1).trans rfl, (blk_cell BK116.out 2).trans rfl, (blk_cell BK116.out 3).trans rfl, (blk_cell BK116.out 4).trans rfl, (blk_cell BK116.out 5).trans rfl⟩ (fun hHeld => ?_)
                        clear hK K
                        refine norm_ (a' := ?_) ?_ ?_
                        rotate_left
                        · show Act.put _ (some 33) _ = _
                          simp only [Act.put, List.setIfInBounds_toArray, List.set_cons_zero, List.set_cons_succ, i64_w, i32_w]
                          rfl
                        refine pure_ (i := 27) (N := some 34) (v := ?_) (a' := ?_) #[true, true, true, true, true, true, true, true, true, true, true, true, true, true, true, true, true, true, true, true, true, true, true, true, true, true, true, true, false, false] rfl rfl (any_of HT_.out (by kernel_rfl)) (fun _ _ _ h => h) (Or.inl ⟨by rfl, ?_⟩) ?_ ?_
                        rotate_left
                        · intro w'
                          go_simp
                          with_reducible rfl
                        rotate_left
                        · simp only [Act.put, List.setIfInBounds_toArray, List.set_cons_zero, List.set_cons_succ, i64_w, i32_w]
                          rfl
                        refine pure_ (i := 28) (N := some 2) (v := ?_) (a' := ?_) #[true, true, true, true, true, true, true, true, true, true, true, true, true, true, true, true, true, true, true, true, true, true, true, true, true, true, true, true, true, false] rfl rfl (any_of HT_.out (by kernel_rfl)) (fun _ _ _ h => h) (Or.inl ⟨by rfl, ?_⟩) ?_ ?_
                        rotate_left
                        · intro w'
                          go_simp
                          with_reducible rfl
                        rotate_left
                        · simp only [Act.put, List.setIfInBounds_toArray, List.set_cons_zero, List.set_cons_succ, i64_w, i32_w]
                          rfl
                        refine pure_ (i := 29) (N := some 3) (v := ?_) (a' := ?_) #[true, true, true, true, true, true, true, true, true, true, true, true, true, true, true, true, true, true, true, true, true, true, true, true, true, true, true, true, true, true] rfl rfl (any_of HT_.out (by kernel_rfl)) (fun _ _ _ h => h) (Or.inl ⟨by rfl, ?_⟩) ?_ ?_
                        rotate_left
                        · intro w'
                          go_simp
                          with_reducible rfl
                        rotate_left
                        · simp only [Act.put, List.setIfInBounds_toArray, List.set_cons_zero, List.set_cons_succ, i64_w, i32_w]
                          rfl
                        refine done_ (done_of HT_.out (by kernel_rfl)) ?_
                        try go_wp2
                        go_ret2
                        exact ⟨by first | rfl | (simp [errW_none, errW_some] <;> rfl) | (simp [*, errW_none, errW_some] <;> rfl), by repeat (first | (with_reducible first | exact HB.out | apply below_alloc | apply pw_below_drewN | apply below_drew1 | refine below_set ?_ GE116.out) | exact HB.out)⟩
                      · rw [if_neg c19] at H
                        exact absurd H (by simp)
                    · rw [if_neg c17] at H
                      exact absurd H (by simp)
                  · rw [if_neg c16] at H
                    exact absurd H (by simp)
                · rw [if_neg c14] at H
                  exact absurd H (by simp)
              · rw [if_neg c13] at H
                exact absurd H (by simp)
            · rw [if_neg c11] at H
              exact absurd H (by simp)
          · rw [if_neg c10] at H
            exact absurd H (by simp)
        · rw [if_neg c8] at H
          exact absurd H (by simp)
      · rw [if_neg c7] at H
        exact absurd H (by simp)
    · rw [if_neg c5] at H
      exact absurd H (by simp)
  · replace c3 := Bool.eq_false_iff.mpr c3
    subst c3
    have H1 : (some ((⟨#[]⟩ : ByteArray), 1)) = some (r1, r2) := by rw [if_neg (show ¬ (false = true) by decide)] at H; exact H
    clear H
    have H := H1
    clear H1
    simp only [Option.some.injEq, Prod.mk.injEq] at H
    obtain ⟨rfl, rfl⟩ := H
    go_enter Tryd.func33, Tryd.ntmps33
    go_wp2_with (first | ((with_reducible refine gate_dst (N := 1) rfl ?_); refine box_event ?hg (N := 1) ?hd (cs := #[.int .i64 a0_0, .int .i64 a0_1, .int .i64 a0_2, .int .i64 a0_3, .int .i64 a0_4, .int .i64 a0_5]) (t := 38) ?hr ?_; (case hd => rfl); (case hg => rfl); (case hr => first | (go_simp; done) | (go_simp; rfl)); intro gb116 hg w30 hbox hb; have n0_ := Aside0.mk (below_step (by repeat (first | (with_reducible first | exact HB.out | apply below_alloc | apply pw_below_drewN | apply below_drew1) | exact HB.out)) hb); have n1_ := Aside0.mk (hbox); have n2_ := Aside0.mk ((by rw [hg]; exact (below_size (by repeat (first | (with_reducible first | exact HB.out | apply below_alloc | apply pw_below_drewN | apply below_drew1) | exact HB.out))) : w.heap.size ≤ gb116)); have n3_ := Aside0.mk ((by rw [hg]; exact (below_size (by repeat (first | (with_reducible first | exact HB.out | apply below_alloc | apply pw_below_drewN | apply below_drew1) | exact HB.out))) : w.heap.size ≤ gb116)); clear HB; have HB := n0_; have BK116 := n1_; have GW116 := n2_; have GE116 := n3_; clear n0_ n1_ n2_ n3_; clear hb hbox hg; have hcz31_0 : w30.cell? ⟨gb116, 0, none⟩ = some (.int .i64 a0_0) := (blk_cell BK116.out 0).trans rfl; have hcz31_1 : w30.cell? ⟨gb116, 1, none⟩ = some (.int .i64 a0_1) := (blk_cell BK116.out 1).trans rfl; have hcz31_2 : w30.cell? ⟨gb116, 2, none⟩ = some (.int .i64 a0_2) := (blk_cell BK116.out 2).trans rfl; have hcz31_3 : w30.cell? ⟨gb116, 3, none⟩ = some (.int .i64 a0_3) := (blk_cell BK116.out 3).trans rfl; have hcz31_4 : w30.cell? ⟨gb116, 4, none⟩ = some (.int .i64 a0_4) := (blk_cell BK116.out 4).trans rfl; have hcz31_5 : w30.cell? ⟨gb116, 5, none⟩ = some (.int .i64 a0_5) := (blk_cell BK116.out 5).trans rfl; have hfz31_0 := blk_frozen BK116.out 0; have hfz31_1 := blk_frozen BK116.out 1; have hfz31_2 := blk_frozen BK116.out 2; have hfz31_3 := blk_frozen BK116.out 3; have hfz31_4 := blk_frozen BK116.out 4; have hfz31_5 := blk_frozen BK116.out 5) | ((with_reducible refine gate_callee (f := 77) rfl ?_); refine goesL_ (some 5) rfl rfl Tryd.func77 (by kernel_rfl) rfl #[.agg #[.int .i64 a0_0, .int .i64 a0_1, .int .i64 a0_2, .int .i64 a0_3, .int .i64 a0_4, .int .i64 a0_5]] rfl (by (try simp only [List.map_toArray, List.map_cons, List.map_nil]); first | done | rfl | (simp only [List.length_drop, List.length_take]; rfl)) ?_; (with_reducible refine (clock_right.calls k a0_0 a0_1 a0_2 a0_3 a0_4 a0_5 false _ A2.out).mono ?_); rintro e w32 ⟨rfl, hb⟩; refine ⟨_, rfl, ?_⟩; have n0_ := Aside0.mk (blk_below (g := gb116) (o := .cells #[.int .i64 a0_0, .int .i64 a0_1, .int .i64 a0_2, .int .i64 a0_3, .int .i64 a0_4, .int .i64 a0_5] 38 (0, 0)) (by (with_reducible repeat (first | refine blk_drewN ?_ _ | refine blk_drew ?_ | refine blk_alloc ?_ _)); exact BK116.out) hb); have n1_ := Aside0.mk (below_step (by repeat (first | (with_reducible first | exact HB.out | apply below_alloc | apply pw_below_drewN | apply below_drew1 | refine below_set ?_ GE116.out) | exact HB.out)) hb); clear BK116; clear HB; have BK116 := n0_; have HB := n1_; clear n0_ n1_; (try clear hb); (try clear hb2); (try clear hk); (try clear hi)))
    go_ret2
    exact ⟨by first | rfl | (simp [errW_none, errW_some] <;> rfl) | (simp [*, errW_none, errW_some] <;> rfl), by repeat (first | (with_reducible first | exact HB.out | apply below_alloc | apply pw_below_drewN | apply below_drew1 | refine below_set ?_ GE116.out) | exact HB.out)⟩

/-! ### clock_bits: function 84 -/
def clock_bits.f (a0 : Int) (a1 : Int) (a2 : Int) : Option (Int) := if 0 ≤ a1 then (if 0 ≤ a2 then (some (Go.bits .and .i64 (shr .i64 a0 a1) (wrap64 ((shl .i64 1 a2) - 1)))) else (none)) else (none)
set_option maxHeartbeats 8000000 in
set_option maxRecDepth 100000 in
theorem clock_bits.calls (a0 : Int) (a1 : Int) (a2 : Int) (r : Int) (w : World) (h : clock_bits.f a0 a1 a2 = some r) :
    Calls Tryd.prog 84 #[.int .i64 a0, .int .i64 a1, .int .i64 a2] w fun e w' => e = .returned (.int .i64 r) ∧ Drawn0 w w' := by
  have H : (if 0 ≤ a1 then (if 0 ≤ a2 then (some (Go.bits .and .i64 (shr .i64 a0 a1) (wrap64 ((shl .i64 1 a2) - 1)))) else (none)) else (none)) = some r := h
  clear h
  by_cases c4 : 0 ≤ a1
  · rw [if_pos c4] at H
    have c4b0 := eq_true c4
    have c4b1 : decide (0 ≤ a1) = true := decide_eq_true c4
    clear c4
    obtain ⟨ji5, hji5⟩ : ∃ j_ : Int, (shr .i64 a0 a1) = j_ := ⟨_, rfl⟩
    replace H : (if 0 ≤ a2 then (some (Go.bits .and .i64 (ji5) (wrap64 ((shl .i64 1 a2) - 1)))) else (none)) = some r := by first | (rw [hji5] at H; exact H) | (simp only [hji5] at H ⊢; exact H)
    have hji5_ : (a0 / 2 ^ min a1.toNat 64) = ji5 := hji5
    have hji5z : a1 ≤ 64 → (a0 / 2 ^ a1.toNat) = ji5 := shr_small hji5
    by_cases c6 : 0 ≤ a2
    · rw [if_pos c6] at H
      have c6b0 := eq_true c6
      have c6b1 : decide (0 ≤ a2) = true := decide_eq_true c6
      clear c6
      obtain ⟨ji7, hji7⟩ : ∃ j_ : Int, (shl .i64 1 a2) = j_ := ⟨_, rfl⟩
      replace H : (some (Go.bits .and .i64 (ji5) (wrap64 ((ji7) - 1)))) = some r := by first | (rw [hji7] at H; exact H) | (simp only [hji7] at H ⊢; exact H)
      have hji7_ : (IntKind.i64.wrap (1 * 2 ^ min a2.toNat 64)) = ji7 := hji7
      have hji7z : a2 ≤ 64 → (IntKind.i64.wrap (1 * 2 ^ a2.toNat)) = ji7 := shl_small hji7
      have hji7u : (IntKind.i64.wrap (2 ^ min a2.toNat 64)) = ji7 := by have h_ := hji7_; rw [Int.one_mul] at h_; exact h_
      have hji7v : a2 ≤ 64 → (IntKind.i64.wrap (2 ^ a2.toNat)) = ji7 := fun hle_ => by have h_ := hji7z hle_; rw [Int.one_mul] at h_; exact h_
      have hji7y : (wrap64 (1 * 2 ^ min a2.toNat 64)) = ji7 := (i64_w _).symm.trans hji7_
      have hji7x : a2 ≤ 64 → (wrap64 (1 * 2 ^ a2.toNat)) = ji7 := fun h_ => (i64_w _).symm.trans (hji7z h_)
      obtain rfl := Option.some.inj H
      simp only [Option.some.injEq, Prod.mk.injEq] at H
      obtain ⟨rfl⟩ := H
      go_enter Tryd.func84, Tryd.ntmps84
      go_wp2
      repeat (go_quiet (fail); try go_wp2)
      go_ret
      exact ⟨by first | rfl | (simp; done) | (simp only [← hji5, ← hji7] <;> (first | rfl | (simp; done) | (simp only [shl, shr, i64_w] <;> rfl))) | (simp [*]; done), by repeat (first | exact Drawn0.refl _ | apply Drawn0.step)⟩
    · rw [if_neg c6] at H
      exact absurd H (by simp)
  · rw [if_neg c4] at H
    exact absurd H (by simp)

/-! ### clock_Of: function 38 -/
def clock_Of.f (k : Nat) (a0 : Int) : Option (Int × Int × Int × Int × Int × Int × Bool) := (clock_within.f a0 0 4294967295).bind fun t125 => (if t125 = true then ((clock_bits.f a0 25 7).bind fun t126 => ((clock_bits.f a0 21 4).bind fun t127 => ((clock_bits.f a0 16 5).bind fun t128 => ((clock_bits.f a0 11 5).bind fun t129 => ((clock_bits.f a0 5 6).bind fun t130 => ((clock_bits.f a0 0 5).bind fun t131 => ((clock_right.f k (wrap64 (1980 + t126)) t127 t128 t129 t130 (wrap64 (2 * t131))).bind fun t133 => (if t133 = true then (some (wrap64 (1980 + t126), t127, t128, t129, t130, wrap64 (2 * t131), true)) else (some (0, 0, 0, 0, 0, 0, false)))))))))) else (some (0, 0, 0, 0, 0, 0, false)))
theorem clock_Of.mono : ∀ a0 k, LeO (clock_Of.f k a0) (clock_Of.f (k + 1) a0) := by
  intro a0 k
  unfold clock_Of.f
  repeat' first
      | (with_reducible exact clock_right.mono _ _ _ _ _ _ _)
      | (with_reducible exact LeO.refl _)
      | (with_reducible exact LeO.none _)
      | (with_reducible refine LeO.ite ?_ ?_)
      | (with_reducible refine LeO.bind ?_ (fun _ => ?_))
      | exact clock_right.mono _ _ _ _ _ _ _
      | exact LeO.none _
      | refine LeO.ite ?_ ?_
      | refine LeO.bind ?_ (fun _ => ?_)
set_option maxHeartbeats 8000000 in
set_option maxRecDepth 100000 in
theorem clock_Of.calls (k : Nat) (a0 : Int) (r1 : Int) (r2 : Int) (r3 : Int) (r4 : Int) (r5 : Int) (r6 : Int) (r7 : Bool) (w : World) (h : clock_Of.f k a0 = some (r1, r2, r3, r4, r5, r6, r7)) :
    Calls Tryd.prog 38 #[.int .i64 a0] w fun e w' => e = .returned (.tuple #[.agg #[.int .i64 r1, .int .i64 r2, .int .i64 r3, .int .i64 r4, .int .i64 r5, .int .i64 r6], .bool r7]) ∧ Below w.heap.size w w' := by
  have hu38 := Tryd.underlying38
  have HB := Aside0.mk (Below.refl w.heap.size w)
  have H : ((clock_within.f a0 0 4294967295).bind fun t125 => (if t125 = true then ((clock_bits.f a0 25 7).bind fun t126 => ((clock_bits.f a0 21 4).bind fun t127 => ((clock_bits.f a0 16 5).bind fun t128 => ((clock_bits.f a0 11 5).bind fun t129 => ((clock_bits.f a0 5 6).bind fun t130 => ((clock_bits.f a0 0 5).bind fun t131 => ((clock_right.f k (wrap64 (1980 + t126)) t127 t128 t129 t130 (wrap64 (2 * t131))).bind fun t133 => (if t133 = true then (some (wrap64 (1980 + t126), t127, t128, t129, t130, wrap64 (2 * t131), true)) else (some (0, 0, 0, 0, 0, 0, false)))))))))) else (some (0, 0, 0, 0, 0, 0, false)))) = some (r1, r2, r3, r4, r5, r6, r7) := h
  clear h
  replace H := Option.bind_eq_some_iff.mp H
  obtain ⟨t125, A20, H⟩ := H
  replace H : (if t125 = true then ((clock_bits.f a0 25 7).bind fun t126 => ((clock_bits.f a0 21 4).bind fun t127 => ((clock_bits.f a0 16 5).bind fun t128 => ((clock_bits.f a0 11 5).bind fun t129 => ((clock_bits.f a0 5 6).bind fun t130 => ((clock_bits.f a0 0 5).bind fun t131 => ((clock_right.f k (wrap64 (1980 + t126)) t127 t128 t129 t130 (wrap64 (2 * t131))).bind fun t133 => (if t133 = true then (some (wrap64 (1980 + t126), t127, t128, t129, t130, wrap64 (2 * t131), true)) else (some (0, 0, 0, 0, 0, 0, false)))))))))) else (some (0, 0, 0, 0, 0, 0, false))) = some (r1, r2, r3, r4, r5, r6, r7) := H
  have A2 := Aside0.mk A20
  clear A20
  by_cases c3 : t125 = true
  · subst c3
    have H1 : ((clock_bits.f a0 25 7).bind fun t126 => ((clock_bits.f a0 21 4).bind fun t127 => ((clock_bits.f a0 16 5).bind fun t128 => ((clock_bits.f a0 11 5).bind fun t129 => ((clock_bits.f a0 5 6).bind fun t130 => ((clock_bits.f a0 0 5).bind fun t131 => ((clock_right.f k (wrap64 (1980 + t126)) t127 t128 t129 t130 (wrap64 (2 * t131))).bind fun t133 => (if t133 = true then (some (wrap64 (1980 + t126), t127, t128, t129, t130, wrap64 (2 * t131), true)) else (some (0, 0, 0, 0, 0, 0, false)))))))))) = some (r1, r2, r3, r4, r5, r6, r7) := by rw [if_pos rfl] at H; exact H
    clear H
    have H := H1
    clear H1
    replace H := Option.bind_eq_some_iff.mp H
    obtain ⟨t126, A40, H⟩ := H
    replace H : ((clock_bits.f a0 21 4).bind fun t127 => ((clock_bits.f a0 16 5).bind fun t128 => ((clock_bits.f a0 11 5).bind fun t129 => ((clock_bits.f a0 5 6).bind fun t130 => ((clock_bits.f a0 0 5).bind fun t131 => ((clock_right.f k (wrap64 (1980 + t126)) t127 t128 t129 t130 (wrap64 (2 * t131))).bind fun t133 => (if t133 = true then (some (wrap64 (1980 + t126), t127, t128, t129, t130, wrap64 (2 * t131), true)) else (some (0, 0, 0, 0, 0, 0, false))))))))) = some (r1, r2, r3, r4, r5, r6, r7) := H
    have A4 := Aside0.mk A40
    clear A40
    replace H := Option.bind_eq_some_iff.mp H
    obtain ⟨t127, A50, H⟩ := H
    replace H : ((clock_bits.f a0 16 5).bind fun t128 => ((clock_bits.f a0 11 5).bind fun t129 => ((clock_bits.f a0 5 6).bind fun t130 => ((clock_bits.f a0 0 5).bind fun t131 => ((clock_right.f k (wrap64 (1980 + t126)) t127 t128 t129 t130 (wrap64 (2 * t131))).bind fun t133 => (if t133 = true then (some (wrap64 (1980 + t126), t127, t128, t129, t130, wrap64 (2 * t131), true)) else (some (0, 0, 0, 0, 0, 0, false)))))))) = some (r1, r2, r3, r4, r5, r6, r7) := H
    have A5 := Aside0.mk A50
    clear A50
    replace H := Option.bind_eq_some_iff.mp H
    obtain ⟨t128, A60, H⟩ := H
    replace H : ((clock_bits.f a0 11 5).bind fun t129 => ((clock_bits.f a0 5 6).bind fun t130 => ((clock_bits.f a0 0 5).bind fun t131 => ((clock_right.f k (wrap64 (1980 + t126)) t127 t128 t129 t130 (wrap64 (2 * t131))).bind fun t133 => (if t133 = true then (some (wrap64 (1980 + t126), t127, t128, t129, t130, wrap64 (2 * t131), true)) else (some (0, 0, 0, 0, 0, 0, false))))))) = some (r1, r2, r3, r4, r5, r6, r7) := H
    have A6 := Aside0.mk A60
    clear A60
    replace H := Option.bind_eq_some_iff.mp H
    obtain ⟨t129, A70, H⟩ := H
    replace H : ((clock_bits.f a0 5 6).bind fun t130 => ((clock_bits.f a0 0 5).bind fun t131 => ((clock_right.f k (wrap64 (1980 + t126)) t127 t128 t129 t130 (wrap64 (2 * t131))).bind fun t133 => (if t133 = true then (some (wrap64 (1980 + t126), t127, t128, t129, t130, wrap64 (2 * t131), true)) else (some (0, 0, 0, 0, 0, 0, false)))))) = some (r1, r2, r3, r4, r5, r6, r7) := H
    have A7 := Aside0.mk A70
    clear A70
    replace H := Option.bind_eq_some_iff.mp H
    obtain ⟨t130, A80, H⟩ := H
    replace H : ((clock_bits.f a0 0 5).bind fun t131 => ((clock_right.f k (wrap64 (1980 + t126)) t127 t128 t129 t130 (wrap64 (2 * t131))).bind fun t133 => (if t133 = true then (some (wrap64 (1980 + t126), t127, t128, t129, t130, wrap64 (2 * t131), true)) else (some (0, 0, 0, 0, 0, 0, false))))) = some (r1, r2, r3, r4, r5, r6, r7) := H
    have A8 := Aside0.mk A80
    clear A80
    replace H := Option.bind_eq_some_iff.mp H
    obtain ⟨t131, A90, H⟩ := H
    replace H : ((clock_right.f k (wrap64 (1980 + t126)) t127 t128 t129 t130 (wrap64 (2 * t131))).bind fun t133 => (if t133 = true then (some (wrap64 (1980 + t126), t127, t128, t129, t130, wrap64 (2 * t131), true)) else (some (0, 0, 0, 0, 0, 0, false)))) = some (r1, r2, r3, r4, r5, r6, r7) := H
    have A9 := Aside0.mk A90
    clear A90
    replace H := Option.bind_eq_some_iff.mp H
    obtain ⟨t133, A100, H⟩ := H
    replace H : (if t133 = true then (some (wrap64 (1980 + t126), t127, t128, t129, t130, wrap64 (2 * t131), true)) else (some (0, 0, 0, 0, 0, 0, false))) = some (r1, r2, r3, r4, r5, r6, r7) := H
    have A10 := Aside0.mk A100
    clear A100
    by_cases c11 : t133 = true
    · subst c11
      have H1 : (some (wrap64 (1980 + t126), t127, t128, t129, t130, wrap64 (2 * t131), true)) = some (r1, r2, r3, r4, r5, r6, r7) := by rw [if_pos rfl] at H; exact H
      clear H
      have H := H1
      clear H1
      simp only [Option.some.injEq, Prod.mk.injEq] at H
      obtain ⟨rfl, rfl, rfl, rfl, rfl, rfl, rfl⟩ := H
      go_enter Tryd.func38, Tryd.ntmps38
      go_wp2_with (first | ((with_reducible refine gate_dst (N := 2) rfl ?_); refine box_event ?hg (N := 2) ?hd (cs := #[.int .i64 0, .int .i64 0, .int .i64 0, .int .i64 0, .int .i64 0, .int .i64 0]) (t := 38) ?hr ?_; (case hd => rfl); (case hg => rfl); (case hr => first | (go_simp; done) | (go_simp; rfl)); intro gb124 hg w12 hbox hb; have n0_ := Aside0.mk (below_step (by repeat (first | (with_reducible first | exact HB.out | apply below_alloc | apply pw_below_drewN | apply below_drew1) | exact HB.out)) hb); have n1_ := Aside0.mk (hbox); have n2_ := Aside0.mk ((by rw [hg]; exact (below_size (by repeat (first | (with_reducible first | exact HB.out | apply below_alloc | apply pw_below_drewN | apply below_drew1) | exact HB.out))) : w.heap.size ≤ gb124)); have n3_ := Aside0.mk ((by rw [hg]; exact (below_size (by repeat (first | (with_reducible first | exact HB.out | apply below_alloc | apply pw_below_drewN | apply below_drew1) | exact HB.out))) : w.heap.size ≤ gb124)); clear HB; have HB := n0_; have BK124 := n1_; have GW124 := n2_; have GE124 := n3_; clear n0_ n1_ n2_ n3_; clear hb hbox hg) | ((with_reducible refine gate_callee (f := 83) rfl ?_); refine goesL_ (some 6) rfl rfl Tryd.func83 (by kernel_rfl) rfl #[.int .i64 a0, .int .i64 0, .int .i64 4294967295] rfl (by (try simp only [List.map_toArray, List.map_cons, List.map_nil]); first | done | rfl | (simp only [List.length_drop, List.length_take]; rfl)) ?_; (with_reducible refine (clock_within.calls a0 0 4294967295 true _ A2.out).mono ?_); rintro e w' ⟨rfl, ⟨nd, rfl⟩⟩; refine ⟨_, rfl, ?_⟩; (try (rw [drewN_self w12]; generalize hq_ : World.drewN w12 _ = w12; have n0_ : Aside0 (w12.heap[gb124]? = some (.cells #[.int .i64 0, .int .i64 0, .int .i64 0, .int .i64 0, .int .i64 0, .int .i64 0] 38 (0, 0))) := ⟨by rw [← hq_]; exact (by (with_reducible repeat (first | refine blk_drewN ?_ _ | refine blk_drew ?_ | refine blk_alloc ?_ _)); exact BK124.out)⟩; have n1_ : Aside0 (Below w.heap.size w w12) := ⟨by rw [← hq_]; exact (by repeat (first | (with_reducible first | exact HB.out | apply below_alloc | apply pw_below_drewN | apply below_drew1 | refine below_set ?_ GE124.out) | exact HB.out))⟩; clear BK124 HB hq_; have BK124 := n0_; have HB := n1_; clear n0_ n1_))) | ((with_reducible refine gate_callee (f := 84) rfl ?_); refine goesL_ (some 10) rfl rfl Tryd.func84 (by kernel_rfl) rfl #[.int .i64 a0, .int .i64 25, .int .i64 7] rfl (by (try simp only [List.map_toArray, List.map_cons, List.map_nil]); first | done | rfl | (simp only [List.length_drop, List.length_take]; rfl)) ?_; (with_reducible refine (clock_bits.calls a0 25 7 t126 _ A4.out).mono ?_); rintro e w' ⟨rfl, ⟨nd, rfl⟩⟩; refine ⟨_, rfl, ?_⟩; (try (rw [drewN_self w12]; generalize hq_ : World.drewN w12 _ = w12; have n0_ : Aside0 (w12.heap[gb124]? = some (.cells #[.int .i64 0, .int .i64 0, .int .i64 0, .int .i64 0, .int .i64 0, .int .i64 0] 38 (0, 0))) := ⟨by rw [← hq_]; exact (by (with_reducible repeat (first | refine blk_drewN ?_ _ | refine blk_drew ?_ | refine blk_alloc ?_ _)); exact BK124.out)⟩; have n1_ : Aside0 (Below w.heap.size w w12) := ⟨by rw [← hq_]; exact (by repeat (first | (with_reducible first | exact HB.out | apply below_alloc | apply pw_below_drewN | apply below_drew1 | refine below_set ?_ GE124.out) | exact HB.out))⟩; clear BK124 HB hq_; have BK124 := n0_; have HB := n1_; clear n0_ n1_))) | ((with_reducible refine gate_callee (f := 84) rfl ?_); refine goesL_ (some 13) rfl rfl Tryd.func84 (by kernel_rfl) rfl #[.int .i64 a0, .int .i64 21, .int .i64 4] rfl (by (try simp only [List.map_toArray, List.map_cons, List.map_nil]); first | done | rfl | (simp only [List.length_drop, List.length_take]; rfl)) ?_; (with_reducible refine (clock_bits.calls a0 21 4 t127 _ A5.out).mono ?_); rintro e w' ⟨rfl, ⟨nd, rfl⟩⟩; refine ⟨_, rfl, ?_⟩; (try (rw [drewN_self w12]; generalize hq_ : World.drewN w12 _ = w12; have n0_ : Aside0 (w12.heap[gb124]? = some (.cells #[.int .i64 0, .int .i64 0, .int .i64 0, .int .i64 0, .int .i64 0, .int .i64 0] 38 (0, 0))) := ⟨by rw [← hq_]; exact (by (with_reducible repeat (first | refine blk_drewN ?_ _ | refine blk_drew ?_ | refine blk_alloc ?_ _)); exact BK124.out)⟩; have n1_ : Aside0 (Below w.heap.size w w12) := ⟨by rw [← hq_]; exact (by repeat (first | (with_reducible first | exact HB.out | apply below_alloc | apply pw_below_drewN | apply below_drew1 | refine below_set ?_ GE124.out) | exact HB.out))⟩; clear BK124 HB hq_; have BK124 := n0_; have HB := n1_; clear n0_ n1_))) | ((with_reducible refine gate_callee (f := 84) rfl ?_); refine goesL_ (some 15) rfl rfl Tryd.func84 (by kernel_rfl) rfl #[.int .i64 a0, .int .i64 16, .int .i64 5] rfl (by (try simp only [List.map_toArray, List.map_cons, List.map_nil]); first | done | rfl | (simp only [List.length_drop, List.length_take]; rfl)) ?_; (with_reducible refine (clock_bits.calls a0 16 5 t128 _ A6.out).mono ?_); rintro e w' ⟨rfl, ⟨nd, rfl⟩⟩; refine ⟨_, rfl, ?_⟩; (try (rw [drewN_self w12]; generalize hq_ : World.drewN w12 _ = w12; have n0_ : Aside0 (w12.heap[gb124]? = some (.cells #[.int .i64 0, .int .i64 0, .int .i64 0, .int .i64 0, .int .i64 0, .int .i64 0] 38 (0, 0))) := ⟨by rw [← hq_]; exact (by (with_reducible repeat (first | refine blk_drewN ?_ _ | refine blk_drew ?_ | refine blk_alloc ?_ _)); exact BK124.out)⟩; have n1_ : Aside0 (Below w.heap.size w w12) := ⟨by rw [← hq_]; exact (by repeat (first | (with_reducible first | exact HB.out | apply below_alloc | apply pw_below_drewN | apply below_drew1 | refine below_set ?_ GE124.out) | exact HB.out))⟩; clear BK124 HB hq_; have BK124 := n0_; have HB := n1_; clear n0_ n1_))) | ((with_reducible refine gate_callee (f := 84) rfl ?_); refine goesL_ (some 17) rfl rfl Tryd.func84 (by kernel_rfl) rfl #[.int .i64 a0, .int .i64 11, .int .i64 5] rfl (by (try simp only [List.map_toArray, List.map_cons, List.map_nil]); first | done | rfl | (simp only [List.length_drop, List.length_take]; rfl)) ?_; (with_reducible refine (clock_bits.calls a0 11 5 t129 _ A7.out).mono ?_); rintro e w' ⟨rfl, ⟨nd, rfl⟩⟩; refine ⟨_, rfl, ?_⟩; (try (rw [drewN_self w12]; generalize hq_ : World.drewN w12 _ = w12; have n0_ : Aside0 (w12.heap[gb124]? = some (.cells #[.int .i64 0, .int .i64 0, .int .i64 0, .int .i64 0, .int .i64 0, .int .i64 0] 38 (0, 0))) := ⟨by rw [← hq_]; exact (by (with_reducible repeat (first | refine blk_drewN ?_ _ | refine blk_drew ?_ | refine blk_alloc ?_ _)); exact BK124.out)⟩; have n1_ : Aside0 (Below w.heap.size w w12) := ⟨by rw [← hq_]; exact (by repeat (first | (with_reducible first | exact HB.out | apply below_alloc | apply pw_below_drewN | apply below_drew1 | refine below_set ?_ GE124.out) | exact HB.out))⟩; clear BK124 HB hq_; have BK124 := n0_; have HB := n1_; clear n0_ n1_))) | ((with_reducible refine gate_callee (f := 84) rfl ?_); refine goesL_ (some 19) rfl rfl Tryd.func84 (by kernel_rfl) rfl #[.int .i64 a0, .int .i64 5, .int .i64 6] rfl (by (try simp only [List.map_toArray, List.map_cons, List.map_nil]); first | done | rfl | (simp only [List.length_drop, List.length_take]; rfl)) ?_; (with_reducible refine (clock_bits.calls a0 5 6 t130 _ A8.out).mono ?_); rintro e w' ⟨rfl, ⟨nd, rfl⟩⟩; refine ⟨_, rfl, ?_⟩; (try (rw [drewN_self w12]; generalize hq_ : World.drewN w12 _ = w12; have n0_ : Aside0 (w12.heap[gb124]? = some (.cells #[.int .i64 0, .int .i64 0, .int .i64 0, .int .i64 0, .int .i64 0, .int .i64 0] 38 (0, 0))) := ⟨by rw [← hq_]; exact (by (with_reducible repeat (first | refine blk_drewN ?_ _ | refine blk_drew ?_ | refine blk_alloc ?_ _)); exact BK124.out)⟩; have n1_ : Aside0 (Below w.heap.size w w12) := ⟨by rw [← hq_]; exact (by repeat (first | (with_reducible first | exact HB.out | apply below_alloc | apply pw_below_drewN | apply below_drew1 | refine below_set ?_ GE124.out) | exact HB.out))⟩; clear BK124 HB hq_; have BK124 := n0_; have HB := n1_; clear n0_ n1_))) | ((with_reducible refine gate_callee (f := 84) rfl ?_); refine goesL_ (some 21) rfl rfl Tryd.func84 (by kernel_rfl) rfl #[.int .i64 a0, .int .i64 0, .int .i64 5] rfl (by (try simp only [List.map_toArray, List.map_cons, List.map_nil]); first | done | rfl | (simp only [List.length_drop, List.length_take]; rfl)) ?_; (with_reducible refine (clock_bits.calls a0 0 5 t131 _ A9.out).mono ?_); rintro e w' ⟨rfl, ⟨nd, rfl⟩⟩; refine ⟨_, rfl, ?_⟩; (try (rw [drewN_self w12]; generalize hq_ : World.drewN w12 _ = w12; have n0_ : Aside0 (w12.heap[gb124]? = some (.cells #[.int .i64 0, .int .i64 0, .int .i64 0, .int .i64 0, .int .i64 0, .int .i64 0] 38 (0, 0))) := ⟨by rw [← hq_]; exact (by (with_reducible repeat (first | refine blk_drewN ?_ _ | refine blk_drew ?_ | refine blk_alloc ?_ _)); exact BK124.out)⟩; have n1_ : Aside0 (Below w.heap.size w w12) := ⟨by rw [← hq_]; exact (by repeat (first | (with_reducible first | exact HB.out | apply below_alloc | apply pw_below_drewN | apply below_drew1 | refine below_set ?_ GE124.out) | exact HB.out))⟩; clear BK124 HB hq_; have BK124 := n0_; have HB := n1_; clear n0_ n1_))) | ((with_reducible refine gate_dst (N := 4) rfl ?_); refine box_event ?hg (N := 4) ?hd (cs := #[.int .i64 0, .int .i64 0, .int .i64 0, .int .i64 0, .int .i64 0, .int .i64 0]) (t := 38) ?hr ?_; (case hd => rfl); (case hg => rfl); (case hr => first | (go_simp; done) | (go_simp; rfl)); intro gb132 hg w13 hbox hb; have n0_ := Aside0.mk (blk_below (g := gb124) (o := .cells #[.int .i64 0, .int .i64 0, .int .i64 0, .int .i64 0, .int .i64 0, .int .i64 0] 38 (0, 0)) (by (with_reducible repeat (first | refine blk_drewN ?_ _ | refine blk_drew ?_ | refine blk_alloc ?_ _)); exact BK124.out) hb); have n1_ := Aside0.mk (below_step (by repeat (first | (with_reducible first | exact HB.out | apply below_alloc | apply pw_below_drewN | apply below_drew1 | refine below_set ?_ GE124.out) | exact HB.out)) hb); have n2_ := Aside0.mk (hbox); have n3_ := Aside0.mk ((by rw [hg]; exact (below_size (by repeat (first | (with_reducible first | exact HB.out | apply below_alloc | apply pw_below_drewN | apply below_drew1 | refine below_set ?_ GE124.out) | exact HB.out))) : w.heap.size ≤ gb132)); have n4_ := Aside0.mk ((by rw [hg]; exact (below_size (by repeat (first | (with_reducible first | exact HB.out | apply below_alloc | apply pw_below_drewN | apply below_drew1 | refine below_set ?_ GE124.out) | exact HB.out))) : w.heap.size ≤ gb132)); have n5_ := Aside0.mk ((by rw [hg]; exact Nat.ne_of_lt (blk_lt (g := gb124) (o := .cells #[.int .i64 0, .int .i64 0, .int .i64 0, .int .i64 0, .int .i64 0, .int .i64 0] 38 (0, 0)) (by (with_reducible repeat (first | refine blk_drewN ?_ _ | refine blk_drew ?_ | refine blk_alloc ?_ _)); exact BK124.out)) : gb124 ≠ gb132)); have n6_ := Aside0.mk ((by rw [hg]; exact Nat.ne_of_gt (blk_lt (g := gb124) (o := .cells #[.int .i64 0, .int .i64 0, .int .i64 0, .int .i64 0, .int .i64 0, .int .i64 0] 38 (0, 0)) (by (with_reducible repeat (first | refine blk_drewN ?_ _ | refine blk_drew ?_ | refine blk_alloc ?_ _)); exact BK124.out)) : gb132 ≠ gb124)); clear BK124; clear HB; have BK124 := n0_; have HB := n1_; have BK132 := n2_; have GW132 := n3_; have GE132 := n4_; have NB124_132 := n5_; have NB132_124 := n6_; clear n0_ n1_ n2_ n3_ n4_ n5_ n6_; clear hb hbox hg; have hnb14 := NB132_124.out; have hnc14 := NB124_132.out; have hcz15_0 : w13.cell? ⟨gb132, 0, none⟩ = some (.int .i64 0) := (blk_cell BK132.out 0).trans rfl; have hcz15_1 : w13.cell? ⟨gb132, 1, none⟩ = some (.int .i64 0) := (blk_cell BK132.out 1).trans rfl; have hcz15_2 : w13.cell? ⟨gb132, 2, none⟩ = some (.int .i64 0) := (blk_cell BK132.out 2).trans rfl; have hcz15_3 : w13.cell? ⟨gb132, 3, none⟩ = some (.int .i64 0) := (blk_cell BK132.out 3).trans rfl; have hcz15_4 : w13.cell? ⟨gb132, 4, none⟩ = some (.int .i64 0) := (blk_cell BK132.out 4).trans rfl; have hcz15_5 : w13.cell? ⟨gb132, 5, none⟩ = some (.int .i64 0) := (blk_cell BK132.out 5).trans rfl; have hfz15_0 := blk_frozen BK132.out 0; have hfz15_1 := blk_frozen BK132.out 1; have hfz15_2 := blk_frozen BK132.out 2; have hfz15_3 := blk_frozen BK132.out 3; have hfz15_4 := blk_frozen BK132.out 4; have hfz15_5 := blk_frozen BK132.out 5) | ((with_reducible refine gate_callee (f := 77) rfl ?_); refine goesL_ (some 25) rfl rfl Tryd.func77 (by kernel_rfl) rfl #[.agg #[.int .i64 (wrap64 (1980 + t126)), .int .i64 t127, .int .i64 t128, .int .i64 t129, .int .i64 t130, .int .i64 (wrap64 (2 * t131))]] rfl (by (try simp only [List.map_toArray, List.map_cons, List.map_nil]); first | done | rfl | (simp only [List.length_drop, List.length_take]; rfl)) ?_; (with_reducible refine (clock_right.calls k (wrap64 (1980 + t126)) t127 t128 t129 t130 (wrap64 (2 * t131)) true _ A10.out).mono ?_); rintro e w16 ⟨rfl, hb⟩; refine ⟨_, rfl, ?_⟩; have n0_ := Aside0.mk (blk_below (g := gb124) (o := .cells #[.int .i64 0, .int .i64 0, .int .i64 0, .int .i64 0, .int .i64 0, .int .i64 0] 38 (0, 0)) (by (with_reducible repeat (first | refine blk_drewN ?_ _ | refine blk_drew ?_ | refine blk_alloc ?_ _)); refine blk_far ?_ NB124_132.out _; (with_reducible repeat (first | refine blk_drewN ?_ _ | refine blk_drew ?_ | refine blk_alloc ?_ _)); refine blk_far ?_ NB124_132.out _; (with_reducible repeat (first | refine blk_drewN ?_ _ | refine blk_drew ?_ | refine blk_alloc ?_ _)); refine blk_far ?_ NB124_132.out _; (with_reducible repeat (first | refine blk_drewN ?_ _ | refine blk_drew ?_ | refine blk_alloc ?_ _)); refine blk_far ?_ NB124_132.out _; (with_reducible repeat (first | refine blk_drewN ?_ _ | refine blk_drew ?_ | refine blk_alloc ?_ _)); refine blk_far ?_ NB124_132.out _; (with_reducible repeat (first | refine blk_drewN ?_ _ | refine blk_drew ?_ | refine blk_alloc ?_ _)); refine blk_far ?_ NB124_132.out _; (with_reducible repeat (first | refine blk_drewN ?_ _ | refine blk_drew ?_ | refine blk_alloc ?_ _)); exact BK124.out) hb); have n1_ := Aside0.mk (blk_below (g := gb132) (o := .cells #[.int .i64 (wrap64 (1980 + t126)), .int .i64 t127, .int .i64 t128, .int .i64 t129, .int .i64 t130, .int .i64 (wrap64 (2 * t131))] 38 (0, 0)) (by (with_reducible repeat (first | refine blk_drewN ?_ _ | refine blk_drew ?_ | refine blk_alloc ?_ _)); refine blk_put (cs := #[.int .i64 (wrap64 (1980 + t126)), .int .i64 t127, .int .i64 t128, .int .i64 t129, .int .i64 t130, .int .i64 0]) ?_ 5 _ rfl; (with_reducible repeat (first | refine blk_drewN ?_ _ | refine blk_drew ?_ | refine blk_alloc ?_ _)); refine blk_put (cs := #[.int .i64 (wrap64 (1980 + t126)), .int .i64 t127, .int .i64 t128, .int .i64 t129, .int .i64 0, .int .i64 0]) ?_ 4 _ rfl; (with_reducible repeat (first | refine blk_drewN ?_ _ | refine blk_drew ?_ | refine blk_alloc ?_ _)); refine blk_put (cs := #[.int .i64 (wrap64 (1980 + t126)), .int .i64 t127, .int .i64 t128, .int .i64 0, .int .i64 0, .int .i64 0]) ?_ 3 _ rfl; (with_reducible repeat (first | refine blk_drewN ?_ _ | refine blk_drew ?_ | refine blk_alloc ?_ _)); refine blk_put (cs := #[.int .i64 (wrap64 (1980 + t126)), .int .i64 t127, .int .i64 0, .int .i64 0, .int .i64 0, .int .i64 0]) ?_ 2 _ rfl; (with_reducible repeat (first | refine blk_drewN ?_ _ | refine blk_drew ?_ | refine blk_alloc ?_ _)); refine blk_put (cs := #[.int .i64 (wrap64 (1980 + t126)), .int .i64 0, .int .i64 0, .int .i64 0, .int .i64 0, .int .i64 0]) ?_ 1 _ rfl; (with_reducible repeat (first | refine blk_drewN ?_ _ | refine blk_drew ?_ | refine blk_alloc ?_ _)); refine blk_put (cs := #[.int .i64 0, .int .i64 0, .int .i64 0, .int .i64 0, .int .i64 0, .int .i64 0]) ?_ 0 _ rfl; (with_reducible repeat (first | refine blk_drewN ?_ _ | refine blk_drew ?_ | refine blk_alloc ?_ _)); exact BK132.out) hb); have n2_ := Aside0.mk (below_step (by repeat (first | (with_reducible first | exact HB.out | apply below_alloc | apply pw_below_drewN | apply below_drew1 | refine below_set ?_ GE124.out | refine below_set ?_ GE132.out) | exact HB.out)) hb); clear BK124; clear BK132; clear HB; have BK124 := n0_; have BK132 := n1_; have HB := n2_; clear n0_ n1_ n2_; (try clear hb); (try clear hb2); (try clear hk); (try clear hi); have hcz17_0 : w16.cell? ⟨gb132, 0, none⟩ = some (.int .i64 (wrap64 (1980 + t126))) := (blk_cell BK132.out 0).trans rfl; have hcz17_1 : w16.cell? ⟨gb132, 1, none⟩ = some (.int .i64 t127) := (blk_cell BK132.out 1).trans rfl; have hcz17_2 : w16.cell? ⟨gb132, 2, none⟩ = some (.int .i64 t128) := (blk_cell BK132.out 2).trans rfl; have hcz17_3 : w16.cell? ⟨gb132, 3, none⟩ = some (.int .i64 t129) := (blk_cell BK132.out 3).trans rfl; have hcz17_4 : w16.cell? ⟨gb132, 4, none⟩ = some (.int .i64 t130) := (blk_cell BK132.out 4).trans rfl; have hcz17_5 : w16.cell? ⟨gb132, 5, none⟩ = some (.int .i64 (wrap64 (2 * t131))) := (blk_cell BK132.out 5).trans rfl; have hfz17_0 := blk_frozen BK132.out 0; have hfz17_1 := blk_frozen BK132.out 1; have hfz17_2 := blk_frozen BK132.out 2; have hfz17_3 := blk_frozen BK132.out 3; have hfz17_4 := blk_frozen BK132.out 4; have hfz17_5 := blk_frozen BK132.out 5; have hcz18_0 : w16.cell? ⟨gb124, 0, none⟩ = some (.int .i64 0) := (blk_cell BK124.out 0).trans rfl; have hcz18_1 : w16.cell? ⟨gb124, 1, none⟩ = some (.int .i64 0) := (blk_cell BK124.out 1).trans rfl; have hcz18_2 : w16.cell? ⟨gb124, 2, none⟩ = some (.int .i64 0) := (blk_cell BK124.out 2).trans rfl; have hcz18_3 : w16.cell? ⟨gb124, 3, none⟩ = some (.int .i64 0) := (blk_cell BK124.out 3).trans rfl; have hcz18_4 : w16.cell? ⟨gb124, 4, none⟩ = some (.int .i64 0) := (blk_cell BK124.out 4).trans rfl; have hcz18_5 : w16.cell? ⟨gb124, 5, none⟩ = some (.int .i64 0) := (blk_cell BK124.out 5).trans rfl; have hfz18_0 := blk_frozen BK124.out 0; have hfz18_1 := blk_frozen BK124.out 1; have hfz18_2 := blk_frozen BK124.out 2; have hfz18_3 := blk_frozen BK124.out 3; have hfz18_4 := blk_frozen BK124.out 4; have hfz18_5 := blk_frozen BK124.out 5))
      refine bodyPost_ret (results_ct rfl _ _ gb124 38 #[.int .i64 (wrap64 (1980 + t126)), .int .i64 t127, .int .i64 t128, .int .i64 t129, .int .i64 t130, .int .i64 (wrap64 (2 * t131))] (0, 0) _ rfl (by (with_reducible repeat (first | refine blk_drewN ?_ _ | refine blk_drew ?_ | refine blk_alloc ?_ _)); refine blk_put (cs := #[.int .i64 (wrap64 (1980 + t126)), .int .i64 t127, .int .i64 t128, .int .i64 t129, .int .i64 t130, .int .i64 0]) ?_ 5 _ rfl; (with_reducible repeat (first | refine blk_drewN ?_ _ | refine blk_drew ?_ | refine blk_alloc ?_ _)); refine blk_put (cs := #[.int .i64 (wrap64 (1980 + t126)), .int .i64 t127, .int .i64 t128, .int .i64 t129, .int .i64 0, .int .i64 0]) ?_ 4 _ rfl; (with_reducible repeat (first | refine blk_drewN ?_ _ | refine blk_drew ?_ | refine blk_alloc ?_ _)); refine blk_put (cs := #[.int .i64 (wrap64 (1980 + t126)), .int .i64 t127, .int .i64 t128, .int .i64 0, .int .i64 0, .int .i64 0]) ?_ 3 _ rfl; (with_reducible repeat (first | refine blk_drewN ?_ _ | refine blk_drew ?_ | refine blk_alloc ?_ _)); refine blk_put (cs := #[.int .i64 (wrap64 (1980 + t126)), .int .i64 t127, .int .i64 0, .int .i64 0, .int .i64 0, .int .i64 0]) ?_ 2 _ rfl; (with_reducible repeat (first | refine blk_drewN ?_ _ | refine blk_drew ?_ | refine blk_alloc ?_ _)); refine blk_put (cs := #[.int .i64 (wrap64 (1980 + t126)), .int .i64 0, .int .i64 0, .int .i64 0, .int .i64 0, .int .i64 0]) ?_ 1 _ rfl; (with_reducible repeat (first | refine blk_drewN ?_ _ | refine blk_drew ?_ | refine blk_alloc ?_ _)); refine blk_put (cs := #[.int .i64 0, .int .i64 0, .int .i64 0, .int .i64 0, .int .i64 0, .int .i64 0]) ?_ 0 _ rfl; (with_reducible repeat (first | refine blk_drewN ?_ _ | refine blk_drew ?_ | refine blk_alloc ?_ _)); exact BK124.out) Tryd.underlying38 rfl (by kernel_rfl)) rfl ?_
      exact ⟨by first | rfl | (simp [errW_none, errW_some] <;> rfl) | (simp [*, errW_none, errW_some] <;> rfl), by repeat (first | (with_reducible first | exact HB.out | apply below_alloc | apply pw_below_drewN | apply below_drew1 | refine below_set ?_ GE124.out | refine below_set ?_ GE132.out) | exact HB.out)⟩
    · replace c11 := Bool.eq_false_iff.mpr c11
      subst c11
      have H1 : (some (0, 0, 0, 0, 0, 0, false)) = some (r1, r2, r3, r4, r5, r6, r7) := by rw [if_neg (show ¬ (false = true) by decide)] at H; exact H
      clear H
      have H := H1
      clear H1
      simp only [Option.some.injEq, Prod.mk.injEq] at H
      obtain ⟨rfl, rfl, rfl, rfl, rfl, rfl, rfl⟩ := H
      go_enter Tryd.func38, Tryd.ntmps38
      go_wp2_with (first | ((with_reducible refine gate_dst (N := 2) rfl ?_); refine box_event ?hg (N := 2) ?hd (cs := #[.int .i64 0, .int .i64 0, .int .i64 0, .int .i64 0, .int .i64 0, .int .i64 0]) (t := 38) ?hr ?_; (case hd => rfl); (case hg => rfl); (case hr => first | (go_simp; done) | (go_simp; rfl)); intro gb124 hg w19 hbox hb; have n0_ := Aside0.mk (below_step (by repeat (first | (with_reducible first | exact HB.out | apply below_alloc | apply pw_below_drewN | apply below_drew1) | exact HB.out)) hb); have n1_ := Aside0.mk (hbox); have n2_ := Aside0.mk ((by rw [hg]; exact (below_size (by repeat (first | (with_reducible first | exact HB.out | apply below_alloc | apply pw_below_drewN | apply below_drew1) | exact HB.out))) : w.heap.size ≤ gb124)); have n3_ := Aside0.mk ((by rw [hg]; exact (below_size (by repeat (first | (with_reducible first | exact HB.out | apply below_alloc | apply pw_below_drewN | apply below_drew1) | exact HB.out))) : w.heap.size ≤ gb124)); clear HB; have HB := n0_; have BK124 := n1_; have GW124 := n2_; have GE124 := n3_; clear n0_ n1_ n2_ n3_; clear hb hbox hg) | ((with_reducible refine gate_callee (f := 83) rfl ?_); refine goesL_ (some 6) rfl rfl Tryd.func83 (by kernel_rfl) rfl #[.int .i64 a0, .int .i64 0, .int .i64 4294967295] rfl (by (try simp only [List.map_toArray, List.map_cons, List.map_nil]); first | done | rfl | (simp only [List.length_drop, List.length_take]; rfl)) ?_; (with_reducible refine (clock_within.calls a0 0 4294967295 true _ A2.out).mono ?_); rintro e w' ⟨rfl, ⟨nd, rfl⟩⟩; refine ⟨_, rfl, ?_⟩; (try (rw [drewN_self w19]; generalize hq_ : World.drewN w19 _ = w19; have n0_ : Aside0 (w19.heap[gb124]? = some (.cells #[.int .i64 0, .int .i64 0, .int .i64 0, .int .i64 0, .int .i64 0, .int .i64 0] 38 (0, 0))) := ⟨by rw [← hq_]; exact (by (with_reducible repeat (first | refine blk_drewN ?_ _ | refine blk_drew ?_ | refine blk_alloc ?_ _)); exact BK124.out)⟩; have n1_ : Aside0 (Below w.heap.size w w19) := ⟨by rw [← hq_]; exact (by repeat (first | (with_reducible first | exact HB.out | apply below_alloc | apply pw_below_drewN | apply below_drew1 | refine below_set ?_ GE124.out) | exact HB.out))⟩; clear BK124 HB hq_; have BK124 := n0_; have HB := n1_; clear n0_ n1_))) | ((with_reducible refine gate_callee (f := 84) rfl ?_); refine goesL_ (some 10) rfl rfl Tryd.func84 (by kernel_rfl) rfl #[.int .i64 a0, .int .i64 25, .int .i64 7] rfl (by (try simp only [List.map_toArray, List.map_cons, List.map_nil]); first | done | rfl | (simp only [List.length_drop, List.length_take]; rfl)) ?_; (with_reducible refine (clock_bits.calls a0 25 7 t126 _ A4.out).mono ?_); rintro e w' ⟨rfl, ⟨nd, rfl⟩⟩; refine ⟨_, rfl, ?_⟩; (try (rw [drewN_self w19]; generalize hq_ : World.drewN w19 _ = w19; have n0_ : Aside0 (w19.heap[gb124]? = some (.cells #[.int .i64 0, .int .i64 0, .int .i64 0, .int .i64 0, .int .i64 0, .int .i64 0] 38 (0, 0))) := ⟨by rw [← hq_]; exact (by (with_reducible repeat (first | refine blk_drewN ?_ _ | refine blk_drew ?_ | refine blk_alloc ?_ _)); exact BK124.out)⟩; have n1_ : Aside0 (Below w.heap.size w w19) := ⟨by rw [← hq_]; exact (by repeat (first | (with_reducible first | exact HB.out | apply below_alloc | apply pw_below_drewN | apply below_drew1 | refine below_set ?_ GE124.out) | exact HB.out))⟩; clear BK124 HB hq_; have BK124 := n0_; have HB := n1_; clear n0_ n1_))) | ((with_reducible refine gate_callee (f := 84) rfl ?_); refine goesL_ (some 13) rfl rfl Tryd.func84 (by kernel_rfl) rfl #[.int .i64 a0, .int .i64 21, .int .i64 4] rfl (by (try simp only [List.map_toArray, List.map_cons, List.map_nil]); first | done | rfl | (simp only [List.length_drop, List.length_take]; rfl)) ?_; (with_reducible refine (clock_bits.calls a0 21 4 t127 _ A5.out).mono ?_); rintro e w' ⟨rfl, ⟨nd, rfl⟩⟩; refine ⟨_, rfl, ?_⟩; (try (rw [drewN_self w19]; generalize hq_ : World.drewN w19 _ = w19; have n0_ : Aside0 (w19.heap[gb124]? = some (.cells #[.int .i64 0, .int .i64 0, .int .i64 0, .int .i64 0, .int .i64 0, .int .i64 0] 38 (0, 0))) := ⟨by rw [← hq_]; exact (by (with_reducible repeat (first | refine blk_drewN ?_ _ | refine blk_drew ?_ | refine blk_alloc ?_ _)); exact BK124.out)⟩; have n1_ : Aside0 (Below w.heap.size w w19) := ⟨by rw [← hq_]; exact (by repeat (first | (with_reducible first | exact HB.out | apply below_alloc | apply pw_below_drewN | apply below_drew1 | refine below_set ?_ GE124.out) | exact HB.out))⟩; clear BK124 HB hq_; have BK124 := n0_; have HB := n1_; clear n0_ n1_))) | ((with_reducible refine gate_callee (f := 84) rfl ?_); refine goesL_ (some 15) rfl rfl Tryd.func84 (by kernel_rfl) rfl #[.int .i64 a0, .int .i64 16, .int .i64 5] rfl (by (try simp only [List.map_toArray, List.map_cons, List.map_nil]); first | done | rfl | (simp only [List.length_drop, List.length_take]; rfl)) ?_; (with_reducible refine (clock_bits.calls a0 16 5 t128 _ A6.out).mono ?_); rintro e w' ⟨rfl, ⟨nd, rfl⟩⟩; refine ⟨_, rfl, ?_⟩; (try (rw [drewN_self w19]; generalize hq_ : World.drewN w19 _ = w19; have n0_ : Aside0 (w19.heap[gb124]? = some (.cells #[.int .i64 0, .int .i64 0, .int .i64 0, .int .i64 0, .int .i64 0, .int .i64 0] 38 (0, 0))) := ⟨by rw [← hq_]; exact (by (with_reducible repeat (first | refine blk_drewN ?_ _ | refine blk_drew ?_ | refine blk_alloc ?_ _)); exact BK124.out)⟩; have n1_ : Aside0 (Below w.heap.size w w19) := ⟨by rw [← hq_]; exact (by repeat (first | (with_reducible first | exact HB.out | apply below_alloc | apply pw_below_drewN | apply below_drew1 | refine below_set ?_ GE124.out) | exact HB.out))⟩; clear BK124 HB hq_; have BK124 := n0_; have HB := n1_; clear n0_ n1_))) | ((with_reducible refine gate_callee (f := 84) rfl ?_); refine goesL_ (some 17) rfl rfl Tryd.func84 (by kernel_rfl) rfl #[.int .i64 a0, .int .i64 11, .int .i64 5] rfl (by (try simp only [List.map_toArray, List.map_cons, List.map_nil]); first | done | rfl | (simp only [List.length_drop, List.length_take]; rfl)) ?_; (with_reducible refine (clock_bits.calls a0 11 5 t129 _ A7.out).mono ?_); rintro e w' ⟨rfl, ⟨nd, rfl⟩⟩; refine ⟨_, rfl, ?_⟩; (try (rw [drewN_self w19]; generalize hq_ : World.drewN w19 _ = w19; have n0_ : Aside0 (w19.heap[gb124]? = some (.cells #[.int .i64 0, .int .i64 0, .int .i64 0, .int .i64 0, .int .i64 0, .int .i64 0] 38 (0, 0))) := ⟨by rw [← hq_]; exact (by (with_reducible repeat (first | refine blk_drewN ?_ _ | refine blk_drew ?_ | refine blk_alloc ?_ _)); exact BK124.out)⟩; have n1_ : Aside0 (Below w.heap.size w w19) := ⟨by rw [← hq_]; exact (by repeat (first | (with_reducible first | exact HB.out | apply below_alloc | apply pw_below_drewN | apply below_drew1 | refine below_set ?_ GE124.out) | exact HB.out))⟩; clear BK124 HB hq_; have BK124 := n0_; have HB := n1_; clear n0_ n1_))) | ((with_reducible refine gate_callee (f := 84) rfl ?_); refine goesL_ (some 19) rfl rfl Tryd.func84 (by kernel_rfl) rfl #[.int .i64 a0, .int .i64 5, .int .i64 6] rfl (by (try simp only [List.map_toArray, List.map_cons, List.map_nil]); first | done | rfl | (simp only [List.length_drop, List.length_take]; rfl)) ?_; (with_reducible refine (clock_bits.calls a0 5 6 t130 _ A8.out).mono ?_); rintro e w' ⟨rfl, ⟨nd, rfl⟩⟩; refine ⟨_, rfl, ?_⟩; (try (rw [drewN_self w19]; generalize hq_ : World.drewN w19 _ = w19; have n0_ : Aside0 (w19.heap[gb124]? = some (.cells #[.int .i64 0, .int .i64 0, .int .i64 0, .int .i64 0, .int .i64 0, .int .i64 0] 38 (0, 0))) := ⟨by rw [← hq_]; exact (by (with_reducible repeat (first | refine blk_drewN ?_ _ | refine blk_drew ?_ | refine blk_alloc ?_ _)); exact BK124.out)⟩; have n1_ : Aside0 (Below w.heap.size w w19) := ⟨by rw [← hq_]; exact (by repeat (first | (with_reducible first | exact HB.out | apply below_alloc | apply pw_below_drewN | apply below_drew1 | refine below_set ?_ GE124.out) | exact HB.out))⟩; clear BK124 HB hq_; have BK124 := n0_; have HB := n1_; clear n0_ n1_))) | ((with_reducible refine gate_callee (f := 84) rfl ?_); refine goesL_ (some 21) rfl rfl Tryd.func84 (by kernel_rfl) rfl #[.int .i64 a0, .int .i64 0, .int .i64 5] rfl (by (try simp only [List.map_toArray, List.map_cons, List.map_nil]); first | done | rfl | (simp only [List.length_drop, List.length_take]; rfl)) ?_; (with_reducible refine (clock_bits.calls a0 0 5 t131 _ A9.out).mono ?_); rintro e w' ⟨rfl, ⟨nd, rfl⟩⟩; refine ⟨_, rfl, ?_⟩; (try (rw [drewN_self w19]; generalize hq_ : World.drewN w19 _ = w19; have n0_ : Aside0 (w19.heap[gb124]? = some (.cells #[.int .i64 0, .int .i64 0, .int .i64 0, .int .i64 0, .int .i64 0, .int .i64 0] 38 (0, 0))) := ⟨by rw [← hq_]; exact (by (with_reducible repeat (first | refine blk_drewN ?_ _ | refine blk_drew ?_ | refine blk_alloc ?_ _)); exact BK124.out)⟩; have n1_ : Aside0 (Below w.heap.size w w19) := ⟨by rw [← hq_]; exact (by repeat (first | (with_reducible first | exact HB.out | apply below_alloc | apply pw_below_drewN | apply below_drew1 | refine below_set ?_ GE124.out) | exact HB.out))⟩; clear BK124 HB hq_; have BK124 := n0_; have HB := n1_; clear n0_ n1_))) | ((with_reducible refine gate_dst (N := 4) rfl ?_); refine box_event ?hg (N := 4) ?hd (cs := #[.int .i64 0, .int .i64 0, .int .i64 0, .int .i64 0, .int .i64 0, .int .i64 0]) (t := 38) ?hr ?_; (case hd => rfl); (case hg => rfl); (case hr => first | (go_simp; done) | (go_simp; rfl)); intro gb132 hg w20 hbox hb; have n0_ := Aside0.mk (blk_below (g := gb124) (o := .cells #[.int .i64 0, .int .i64 0, .int .i64 0, .int .i64 0, .int .i64 0, .int .i64 0] 38 (0, 0)) (by (with_reducible repeat (first | refine blk_drewN ?_ _ | refine blk_drew ?_ | refine blk_alloc ?_ _)); exact BK124.out) hb); have n1_ := Aside0.mk (below_step (by repeat (first | (with_reducible first | exact HB.out | apply below_alloc | apply pw_below_drewN | apply below_drew1 | refine below_set ?_ GE124.out) | exact HB.out)) hb); have n2_ := Aside0.mk (hbox); have n3_ := Aside0.mk ((by rw [hg]; exact (below_size (by repeat (first | (with_reducible first | exact HB.out | apply below_alloc | apply pw_below_drewN | apply below_drew1 | refine below_set ?_ GE124.out) | exact HB.out))) : w.heap.size ≤ gb132)); have n4_ := Aside0.mk ((by rw [hg]; exact (below_size (by repeat (first | (with_reducible first | exact HB.out | apply below_alloc | apply pw_below_drewN | apply below_drew1 | refine below_set ?_ GE124.out) | exact HB.out))) : w.heap.size ≤ gb132)); have n5_ := Aside0.mk ((by rw [hg]; exact Nat.ne_of_lt (blk_lt (g := gb124) (o := .cells #[.int .i64 0, .int .i64 0, .int .i64 0, .int .i64 0, .int .i64 0, .int .i64 0] 38 (0, 0)) (by (with_reducible repeat (first | refine blk_drewN ?_ _ | refine blk_drew ?_ | refine blk_alloc ?_ _)); exact BK124.out)) : gb124 ≠ gb132)); have n6_ := Aside0.mk ((by rw [hg]; exact Nat.ne_of_gt (blk_lt (g := gb124) (o := .cells #[.int .i64 0, .int .i64 0, .int .i64 0, .int .i64 0, .int .i64 0, .int .i64 0] 38 (0, 0)) (by (with_reducible repeat (first | refine blk_drewN ?_ _ | refine blk_drew ?_ | refine blk_alloc ?_ _)); exact BK124.out)) : gb132 ≠ gb124)); clear BK124; clear HB; have BK124 := n0_; have HB := n1_; have BK132 := n2_; have GW132 := n3_; have GE132 := n4_; have NB124_132 := n5_; have NB132_124 := n6_; clear n0_ n1_ n2_ n3_ n4_ n5_ n6_; clear hb hbox hg; have hnb21 := NB132_124.out; have hnc21 := NB124_132.out; have hcz22_0 : w20.cell? ⟨gb132, 0, none⟩ = some (.int .i64 0) := (blk_cell BK132.out 0).trans rfl; have hcz22_1 : w20.cell? ⟨gb132, 1, none⟩ = some (.int .i64 0) := (blk_cell BK132.out 1).trans rfl; have hcz22_2 : w20.cell? ⟨gb132, 2, none⟩ = some (.int .i64 0) := (blk_cell BK132.out 2).trans rfl; have hcz22_3 : w20.cell? ⟨gb132, 3, none⟩ = some (.int .i64 0) := (blk_cell BK132.out 3).trans rfl; have hcz22_4 : w20.cell? ⟨gb132, 4, none⟩ = some (.int .i64 0) := (blk_cell BK132.out 4).trans rfl; have hcz22_5 : w20.cell? ⟨gb132, 5, none⟩ = some (.int .i64 0) := (blk_cell BK132.out 5).trans rfl; have hfz22_0 := blk_frozen BK132.out 0; have hfz22_1 := blk_frozen BK132.out 1; have hfz22_2 := blk_frozen BK132.out 2; have hfz22_3 := blk_frozen BK132.out 3; have hfz22_4 := blk_frozen BK132.out 4; have hfz22_5 := blk_frozen BK132.out 5) | ((with_reducible refine gate_callee (f := 77) rfl ?_); refine goesL_ (some 25) rfl rfl Tryd.func77 (by kernel_rfl) rfl #[.agg #[.int .i64 (wrap64 (1980 + t126)), .int .i64 t127, .int .i64 t128, .int .i64 t129, .int .i64 t130, .int .i64 (wrap64 (2 * t131))]] rfl (by (try simp only [List.map_toArray, List.map_cons, List.map_nil]); first | done | rfl | (simp only [List.length_drop, List.length_take]; rfl)) ?_; (with_reducible refine (clock_right.calls k (wrap64 (1980 + t126)) t127 t128 t129 t130 (wrap64 (2 * t131)) false _ A10.out).mono ?_); rintro e w23 ⟨rfl, hb⟩; refine ⟨_, rfl, ?_⟩; have n0_ := Aside0.mk (blk_below (g := gb124) (o := .cells #[.int .i64 0, .int .i64 0, .int .i64 0, .int .i64 0, .int .i64 0, .int .i64 0] 38 (0, 0)) (by (with_reducible repeat (first | refine blk_drewN ?_ _ | refine blk_drew ?_ | refine blk_alloc ?_ _)); refine blk_far ?_ NB124_132.out _; (with_reducible repeat (first | refine blk_drewN ?_ _ | refine blk_drew ?_ | refine blk_alloc ?_ _)); refine blk_far ?_ NB124_132.out _; (with_reducible repeat (first | refine blk_drewN ?_ _ | refine blk_drew ?_ | refine blk_alloc ?_ _)); refine blk_far ?_ NB124_132.out _; (with_reducible repeat (first | refine blk_drewN ?_ _ | refine blk_drew ?_ | refine blk_alloc ?_ _)); refine blk_far ?_ NB124_132.out _; (with_reducible repeat (first | refine blk_drewN ?_ _ | refine blk_drew ?_ | refine blk_alloc ?_ _)); refine blk_far ?_ NB124_132.out _; (with_reducible repeat (first | refine blk_drewN ?_ _ | refine blk_drew ?_ | refine blk_alloc ?_ _)); refine blk_far ?_ NB124_132.out _; (with_reducible repeat (first | refine blk_drewN ?_ _ | refine blk_drew ?_ | refine blk_alloc ?_ _)); exact BK124.out) hb); have n1_ := Aside0.mk (blk_below (g := gb132) (o := .cells #[.int .i64 (wrap64 (1980 + t126)), .int .i64 t127, .int .i64 t128, .int .i64 t129, .int .i64 t130, .int .i64 (wrap64 (2 * t131))] 38 (0, 0)) (by (with_reducible repeat (first | refine blk_drewN ?_ _ | refine blk_drew ?_ | refine blk_alloc ?_ _)); refine blk_put (cs := #[.int .i64 (wrap64 (1980 + t126)), .int .i64 t127, .int .i64 t128, .int .i64 t129, .int .i64 t130, .int .i64 0]) ?_ 5 _ rfl; (with_reducible repeat (first | refine blk_drewN ?_ _ | refine blk_drew ?_ | refine blk_alloc ?_ _)); refine blk_put (cs := #[.int .i64 (wrap64 (1980 + t126)), .int .i64 t127, .int .i64 t128, .int .i64 t129, .int .i64 0, .int .i64 0]) ?_ 4 _ rfl; (with_reducible repeat (first | refine blk_drewN ?_ _ | refine blk_drew ?_ | refine blk_alloc ?_ _)); refine blk_put (cs := #[.int .i64 (wrap64 (1980 + t126)), .int .i64 t127, .int .i64 t128, .int .i64 0, .int .i64 0, .int .i64 0]) ?_ 3 _ rfl; (with_reducible repeat (first | refine blk_drewN ?_ _ | refine blk_drew ?_ | refine blk_alloc ?_ _)); refine blk_put (cs := #[.int .i64 (wrap64 (1980 + t126)), .int .i64 t127, .int .i64 0, .int .i64 0, .int .i64 0, .int .i64 0]) ?_ 2 _ rfl; (with_reducible repeat (first | refine blk_drewN ?_ _ | refine blk_drew ?_ | refine blk_alloc ?_ _)); refine blk_put (cs := #[.int .i64 (wrap64 (1980 + t126)), .int .i64 0, .int .i64 0, .int .i64 0, .int .i64 0, .int .i64 0]) ?_ 1 _ rfl; (with_reducible repeat (first | refine blk_drewN ?_ _ | refine blk_drew ?_ | refine blk_alloc ?_ _)); refine blk_put (cs := #[.int .i64 0, .int .i64 0, .int .i64 0, .int .i64 0, .int .i64 0, .int .i64 0]) ?_ 0 _ rfl; (with_reducible repeat (first | refine blk_drewN ?_ _ | refine blk_drew ?_ | refine blk_alloc ?_ _)); exact BK132.out) hb); have n2_ := Aside0.mk (below_step (by repeat (first | (with_reducible first | exact HB.out | apply below_alloc | apply pw_below_drewN | apply below_drew1 | refine below_set ?_ GE124.out | refine below_set ?_ GE132.out) | exact HB.out)) hb); clear BK124; clear BK132; clear HB; have BK124 := n0_; have BK132 := n1_; have HB := n2_; clear n0_ n1_ n2_; (try clear hb); (try clear hb2); (try clear hk); (try clear hi); have hcz24_0 : w23.cell? ⟨gb124, 0, none⟩ = some (.int .i64 0) := (blk_cell BK124.out 0).trans rfl; have hcz24_1 : w23.cell? ⟨gb124, 1, none⟩ = some (.int .i64 0) := (blk_cell BK124.out 1).trans rfl; have hcz24_2 : w23.cell? ⟨gb124, 2, none⟩ = some (.int .i64 0) := (blk_cell BK124.out 2).trans rfl; have hcz24_3 : w23.cell? ⟨gb124, 3, none⟩ = some (.int .i64 0) := (blk_cell BK124.out 3).trans rfl; have hcz24_4 : w23.cell? ⟨gb124, 4, none⟩ = some (.int .i64 0) := (blk_cell BK124.out 4).trans rfl; have hcz24_5 : w23.cell? ⟨gb124, 5, none⟩ = some (.int .i64 0) := (blk_cell BK124.out 5).trans rfl; have hfz24_0 := blk_frozen BK124.out 0; have hfz24_1 := blk_frozen BK124.out 1; have hfz24_2 := blk_frozen BK124.out 2; have hfz24_3 := blk_frozen BK124.out 3; have hfz24_4 := blk_frozen BK124.out 4; have hfz24_5 := blk_frozen BK124.out 5))
      refine bodyPost_ret (results_ct rfl _ _ gb124 38 #[.int .i64 0, .int .i64 0, .int .i64 0, .int .i64 0, .int .i64 0, .int .i64 0] (0, 0) _ rfl (by (with_reducible repeat (first | refine blk_drewN ?_ _ | refine blk_drew ?_ | refine blk_alloc ?_ _)); refine blk_put (cs := #[.int .i64 0, .int .i64 0, .int .i64 0, .int .i64 0, .int .i64 0, .int .i64 0]) ?_ 5 _ rfl; (with_reducible repeat (first | refine blk_drewN ?_ _ | refine blk_drew ?_ | refine blk_alloc ?_ _)); refine blk_put (cs := #[.int .i64 0, .int .i64 0, .int .i64 0, .int .i64 0, .int .i64 0, .int .i64 0]) ?_ 4 _ rfl; (with_reducible repeat (first | refine blk_drewN ?_ _ | refine blk_drew ?_ | refine blk_alloc ?_ _)); refine blk_put (cs := #[.int .i64 0, .int .i64 0, .int .i64 0, .int .i64 0, .int .i64 0, .int .i64 0]) ?_ 3 _ rfl; (with_reducible repeat (first | refine blk_drewN ?_ _ | refine blk_drew ?_ | refine blk_alloc ?_ _)); refine blk_put (cs := #[.int .i64 0, .int .i64 0, .int .i64 0, .int .i64 0, .int .i64 0, .int .i64 0]) ?_ 2 _ rfl; (with_reducible repeat (first | refine blk_drewN ?_ _ | refine blk_drew ?_ | refine blk_alloc ?_ _)); refine blk_put (cs := #[.int .i64 0, .int .i64 0, .int .i64 0, .int .i64 0, .int .i64 0, .int .i64 0]) ?_ 1 _ rfl; (with_reducible repeat (first | refine blk_drewN ?_ _ | refine blk_drew ?_ | refine blk_alloc ?_ _)); refine blk_put (cs := #[.int .i64 0, .int .i64 0, .int .i64 0, .int .i64 0, .int .i64 0, .int .i64 0]) ?_ 0 _ rfl; (with_reducible repeat (first | refine blk_drewN ?_ _ | refine blk_drew ?_ | refine blk_alloc ?_ _)); exact BK124.out) Tryd.underlying38 rfl (by kernel_rfl)) rfl ?_
      exact ⟨by first | rfl | (simp [errW_none, errW_some] <;> rfl) | (simp [*, errW_none, errW_some] <;> rfl), by repeat (first | (with_reducible first | exact HB.out | apply below_alloc | apply pw_below_drewN | apply below_drew1 | refine below_set ?_ GE124.out | refine below_set ?_ GE132.out) | exact HB.out)⟩
  · replace c3 := Bool.eq_false_iff.mpr c3
    subst c3
    have H1 : (some (0, 0, 0, 0, 0, 0, false)) = some (r1, r2, r3, r4, r5, r6, r7) := by rw [if_neg (show ¬ (false = true) by decide)] at H; exact H
    clear H
    have H := H1
    clear H1
    simp only [Option.some.injEq, Prod.mk.injEq] at H
    obtain ⟨rfl, rfl, rfl, rfl, rfl, rfl, rfl⟩ := H
    go_enter Tryd.func38, Tryd.ntmps38
    go_wp2_with (first | ((with_reducible refine gate_dst (N := 2) rfl ?_); refine box_event ?hg (N := 2) ?hd (cs := #[.int .i64 0, .int .i64 0, .int .i64 0, .int .i64 0, .int .i64 0, .int .i64 0]) (t := 38) ?hr ?_; (case hd => rfl); (case hg => rfl); (case hr => first | (go_simp; done) | (go_simp; rfl)); intro gb124 hg w25 hbox hb; have n0_ := Aside0.mk (below_step (by repeat (first | (with_reducible first | exact HB.out | apply below_alloc | apply pw_below_drewN | apply below_drew1) | exact HB.out)) hb); have n1_ := Aside0.mk (hbox); have n2_ := Aside0.mk ((by rw [hg]; exact (below_size (by repeat (first | (with_reducible first | exact HB.out | apply below_alloc | apply pw_below_drewN | apply below_drew1) | exact HB.out))) : w.heap.size ≤ gb124)); have n3_ := Aside0.mk ((by rw [hg]; exact (below_size (by repeat (first | (with_reducible first | exact HB.out | apply below_alloc | apply pw_below_drewN | apply below_drew1) | exact HB.out))) : w.heap.size ≤ gb124)); clear HB; have HB := n0_; have BK124 := n1_; have GW124 := n2_; have GE124 := n3_; clear n0_ n1_ n2_ n3_; clear hb hbox hg) | ((with_reducible refine gate_callee (f := 83) rfl ?_); refine goesL_ (some 6) rfl rfl Tryd.func83 (by kernel_rfl) rfl #[.int .i64 a0, .int .i64 0, .int .i64 4294967295] rfl (by (try simp only [List.map_toArray, List.map_cons, List.map_nil]); first | done | rfl | (simp only [List.length_drop, List.length_take]; rfl)) ?_; (with_reducible refine (clock_within.calls a0 0 4294967295 false _ A2.out).mono ?_); rintro e w' ⟨rfl, ⟨nd, rfl⟩⟩; refine ⟨_, rfl, ?_⟩; (try (rw [drewN_self w25]; generalize hq_ : World.drewN w25 _ = w25; have n0_ : Aside0 (w25.heap[gb124]? = some (.cells #[.int .i64 0, .int .i64 0, .int .i64 0, .int .i64 0, .int .i64 0, .int .i64 0] 38 (0, 0))) := ⟨by rw [← hq_]; exact (by (with_reducible repeat (first | refine blk_drewN ?_ _ | refine blk_drew ?_ | refine blk_alloc ?_ _)); exact BK124.out)⟩; have n1_ : Aside0 (Below w.heap.size w w25) := ⟨by rw [← hq_]; exact (by repeat (first | (with_reducible first | exact HB.out | apply below_alloc | apply pw_below_drewN | apply below_drew1 | refine below_set ?_ GE124.out) | exact HB.out))⟩; clear BK124 HB hq_; have BK124 := n0_; have HB := n1_; clear n0_ n1_)); have hcz26_0 : w25.cell? ⟨gb124, 0, none⟩ = some (.int .i64 0) := (blk_cell BK124.out 0).trans rfl; have hcz26_1 : w25.cell? ⟨gb124, 1, none⟩ = some (.int .i64 0) := (blk_cell BK124.out 1).trans rfl; have hcz26_2 : w25.cell? ⟨gb124, 2, none⟩ = some (.int .i64 0) := (blk_cell BK124.out 2).trans rfl; have hcz26_3 : w25.cell? ⟨gb124, 3, none⟩ = some (.int .i64 0) := (blk_cell BK124.out 3).trans rfl; have hcz26_4 : w25.cell? ⟨gb124, 4, none⟩ = some (.int .i64 0) := (blk_cell BK124.out 4).trans rfl; have hcz26_5 : w25.cell? ⟨gb124, 5, none⟩ = some (.int .i64 0) := (blk_cell BK124.out 5).trans rfl; have hfz26_0 := blk_frozen BK124.out 0; have hfz26_1 := blk_frozen BK124.out 1; have hfz26_2 := blk_frozen BK124.out 2; have hfz26_3 := blk_frozen BK124.out 3; have hfz26_4 := blk_frozen BK124.out 4; have hfz26_5 := blk_frozen BK124.out 5))
    refine bodyPost_ret (results_ct rfl _ _ gb124 38 #[.int .i64 0, .int .i64 0, .int .i64 0, .int .i64 0, .int .i64 0, .int .i64 0] (0, 0) _ rfl (by (with_reducible repeat (first | refine blk_drewN ?_ _ | refine blk_drew ?_ | refine blk_alloc ?_ _)); refine blk_put (cs := #[.int .i64 0, .int .i64 0, .int .i64 0, .int .i64 0, .int .i64 0, .int .i64 0]) ?_ 5 _ rfl; (with_reducible repeat (first | refine blk_drewN ?_ _ | refine blk_drew ?_ | refine blk_alloc ?_ _)); refine blk_put (cs := #[.int .i64 0, .int .i64 0, .int .i64 0, .int .i64 0, .int .i64 0, .int .i64 0]) ?_ 4 _ rfl; (with_reducible repeat (first | refine blk_drewN ?_ _ | refine blk_drew ?_ | refine blk_alloc ?_ _)); refine blk_put (cs := #[.int .i64 0, .int .i64 0, .int .i64 0, .int .i64 0, .int .i64 0, .int .i64 0]) ?_ 3 _ rfl; (with_reducible repeat (first | refine blk_drewN ?_ _ | refine blk_drew ?_ | refine blk_alloc ?_ _)); refine blk_put (cs := #[.int .i64 0, .int .i64 0, .int .i64 0, .int .i64 0, .int .i64 0, .int .i64 0]) ?_ 2 _ rfl; (with_reducible repeat (first | refine blk_drewN ?_ _ | refine blk_drew ?_ | refine blk_alloc ?_ _)); refine blk_put (cs := #[.int .i64 0, .int .i64 0, .int .i64 0, .int .i64 0, .int .i64 0, .int .i64 0]) ?_ 1 _ rfl; (with_reducible repeat (first | refine blk_drewN ?_ _ | refine blk_drew ?_ | refine blk_alloc ?_ _)); refine blk_put (cs := #[.int .i64 0, .int .i64 0, .int .i64 0, .int .i64 0, .int .i64 0, .int .i64 0]) ?_ 0 _ rfl; (with_reducible repeat (first | refine blk_drewN ?_ _ | refine blk_drew ?_ | refine blk_alloc ?_ _)); exact BK124.out) Tryd.underlying38 rfl (by kernel_rfl)) rfl ?_
    exact ⟨by first | rfl | (simp [errW_none, errW_some] <;> rfl) | (simp [*, errW_none, errW_some] <;> rfl), by repeat (first | (with_reducible first | exact HB.out | apply below_alloc | apply pw_below_drewN | apply below_drew1 | refine below_set ?_ GE124.out) | exact HB.out)⟩

/-! ### clock_Parse: function 41 -/
-- rounds: yes making: yes
-- uses: montage/clock.Text
/-- A text's part as a number (what strconv.Atoi hands back). -/
def partZ (s : ByteArray) (a b : Nat) : Int := XGlob.atoiV (s.extract a b).data.toList
set_option maxHeartbeats 1600000 in
set_option maxRecDepth 100000 in
/-- clock.Parse$1. -/
theorem part_calls (W : World) (p : Addr) (s : ByteArray) (hp : W.cell? p = some (.string s)) (a b : Nat) (hab : a ≤ b) (hb : b ≤ s.size) (hs : s.size ≤ 100) (hL : XGlob.Laid W) :
    Calls Tryd.prog 86 #[.int .i64 a, .int .i64 b, .pointer (some p)] W fun e w' => e = .returned (.int .i64 (partZ s a b)) ∧ Below W.heap.size W w' := by
  have HX : Aside0 (Calls Tryd.prog 87 #[.string (s.extract a b)] W fun e w' => (∃ ev, e = .returned (.tuple #[.int .i64 (partZ s a b), ev])) ∧ Below W.heap.size W w') := ⟨XGlob.atoi_calls (s.extract a b) (by rw [ByteArray.size_extract]; omega) W hL⟩
  generalize partZ s a b = v at HX ⊢
  have z1 : (a : Int) ≤ (b : Int) := by omega
  have z2 : (b : Int) ≤ (s.size : Int) := by omega
  have z3 : (0 : Int) ≤ (a : Int) := by omega
  have z4 : (0 : Int) ≤ (b : Int) := by omega
  clear hL
  go_enter Tryd.func86, Tryd.ntmps86
  go_wp2_with fail
  refine Calls.mono HX.out ?_
  rintro e w' ⟨⟨ev, rfl⟩, hb⟩
  clear HX
  go_wp2
  go_ret
  exact ⟨rfl, hb⟩
/-- What a call that parses holds: the text in block b, its result in the next one. -/
structure PS (w : World) (b : Nat) (s : ByteArray) (W : World) : Prop where
  below : Below w.heap.size w W
  laid : XGlob.Laid W
  c : W.cell? ⟨b, 0, none⟩ = some (.string s)
  r : W.heap[b + 1]? = some (.cells #[.int .i64 0, .int .i64 0, .int .i64 0, .int .i64 0, .int .i64 0, .int .i64 0] 38 (0, 0))
theorem PS.step {w : World} {b : Nat} {s : ByteArray} {W W' : World} (h : PS w b s W) (hb : Below W.heap.size W W') : PS w b s W' where
  below := below_step h.below hb
  laid := h.laid.below hb
  c := (hb.cell (p := ⟨b, 0, none⟩) (World.block_lt_of_cell? W _ h.c)).trans h.c
  r := (hb.block (b + 1) (XGlob.lt_of_get h.r)).trans h.r
theorem cells6 {W : World} {g : Nat} {t : TypeId} {a0 a1 a2 a3 a4 a5 : Value} (h : W.heap[g]? = some (.cells #[a0, a1, a2, a3, a4, a5] t (0, 0))) :
    W.cell? ⟨g, 0, none⟩ = some a0 ∧ W.cell? ⟨g, 1, none⟩ = some a1 ∧ W.cell? ⟨g, 2, none⟩ = some a2 ∧ W.cell? ⟨g, 3, none⟩ = some a3 ∧ W.cell? ⟨g, 4, none⟩ = some a4 ∧ W.cell? ⟨g, 5, none⟩ = some a5 := by
  simp [World.cell?, h]
theorem frozen6 {W : World} {g : Nat} {t : TypeId} {cs : Array Value} (h : W.heap[g]? = some (.cells cs t (0, 0))) (j : Nat) : W.frozen? ⟨g, j, none⟩ = false := by
  simp [World.frozen?, h]
set_option maxHeartbeats 3200000 in
set_option maxRecDepth 100000 in
/-- clock.Parse: a text of another length. -/
theorem parse_short (s : ByteArray) (w : World) (hs : (s.size : Int) ≠ 19) :
    Calls Tryd.prog 41 #[.string s] w fun e w' => e = .returned (.tuple #[.agg #[.int .i64 0, .int .i64 0, .int .i64 0, .int .i64 0, .int .i64 0, .int .i64 0], .int .i64 2]) ∧ Below w.heap.size w w' := by
  have e1 : ((s.size : Int) != 19) = true := bne_iff_ne.mpr hs
  go_enter Tryd.func41, Tryd.ntmps41
  go_wp2
  refine bodyPost_ret (v := .tuple #[.agg #[.int .i64 0, .int .i64 0, .int .i64 0, .int .i64 0, .int .i64 0, .int .i64 0], .int .i64 2]) (by simp [results, Tryd.results41, go_sem]) rfl ⟨rfl, below_alloc (below_alloc (Below.refl _ _) _) _⟩
set_option maxHeartbeats 3200000 in
set_option maxRecDepth 100000 in
/-- clock.Parse: a text of that length. -/
theorem parse_long (s : ByteArray) (w : World) (hs : s.size = 19) (hL : XGlob.Laid w) (k : Nat) (t : ByteArray) (er : Int) (hT : clock_Text.f k (partZ s 0 4) (partZ s 5 7) (partZ s 8 10) (partZ s 11 13) (partZ s 14 16) (partZ s 17 19) = some (t, er)) (ok : Bool) (hok : ok = true ↔ er = 0 ∧ t.toList = s.toList) :
    Calls Tryd.prog 41 #[.string s] w fun e w' => e = .returned (if ok = true then .tuple #[.agg #[.int .i64 (partZ s 0 4), .int .i64 (partZ s 5 7), .int .i64 (partZ s 8 10), .int .i64 (partZ s 11 13), .int .i64 (partZ s 14 16), .int .i64 (partZ s 17 19)], .int .i64 0] else .tuple #[.agg #[.int .i64 0, .int .i64 0, .int .i64 0, .int .i64 0, .int .i64 0, .int .i64 0], .int .i64 2]) ∧ Below w.heap.size w w' := by
  have e1 : ((s.size : Int) != 19) = false := by rw [hs]; rfl
  have P0 : Aside0 (PS w w.heap.size s ((w.alloc (.cells #[.string s] 9)).alloc (.cells #[.int .i64 0, .int .i64 0, .int .i64 0, .int .i64 0, .int .i64 0, .int .i64 0] 38))) := by
    have hb : Below w.heap.size w ((w.alloc (.cells #[.string s] 9)).alloc (.cells #[.int .i64 0, .int .i64 0, .int .i64 0, .int .i64 0, .int .i64 0, .int .i64 0] 38)) := below_alloc (below_alloc (Below.refl _ _) _) _
    refine ⟨hb, hL.below hb, by simp, ?_⟩
    have := heap_alloc_new (w.alloc (.cells #[.string s] 9)) (.cells #[.int .i64 0, .int .i64 0, .int .i64 0, .int .i64 0, .int .i64 0, .int .i64 0] 38)
    simpa using this
  have HT := Aside0.mk hT
  have HK := Aside0.mk hok
  have HS := Aside0.mk hs
  clear hT hok hL hs
  go_enter Tryd.func41, Tryd.ntmps41
  go_upto_region 4 with (fail)
  generalize hw0 : ((w.alloc (.cells #[.string s] 9)).alloc (.cells #[.int .i64 0, .int .i64 0, .int .i64 0, .int .i64 0, .int .i64 0, .int .i64 0] 38)) = v0 at P0 ⊢
  clear hw0
  have K0 : Aside0 _ := ⟨part_calls v0 ⟨w.heap.size, 0, none⟩ s P0.out.c 0 4 (by omega) (by have := HS.out; omega) (by have := HS.out; omega) P0.out.laid⟩
  generalize hz0 : partZ s 0 4 = z0 at *
  go_wp2_with fail
  refine Calls.mono K0.out ?_
  rintro e v1 ⟨rfl, hb⟩
  have P1 := Aside0.mk (P0.out.step hb)
  clear hb K0 P0
  have K1 : Aside0 _ := ⟨part_calls v1 ⟨w.heap.size, 0, none⟩ s P1.out.c 5 7 (by omega) (by have := HS.out; omega) (by have := HS.out; omega) P1.out.laid⟩
  generalize hz1 : partZ s 5 7 = z1 at *
  go_wp2_with fail
  refine Calls.mono K1.out ?_
  rintro e v2 ⟨rfl, hb⟩
  have P2 := Aside0.mk (P1.out.step hb)
  clear hb K1 P1
  have K2 : Aside0 _ := ⟨part_calls v2 ⟨w.heap.size, 0, none⟩ s P2.out.c 8 10 (by omega) (by have := HS.out; omega) (by have := HS.out; omega) P2.out.laid⟩
  generalize hz2 : partZ s 8 10 = z2 at *
  go_wp2_with fail
  refine Calls.mono K2.out ?_
  rintro e v3 ⟨rfl, hb⟩
  have P3 := Aside0.mk (P2.out.step hb)
  clear hb K2 P2
  have K3 : Aside0 _ := ⟨part_calls v3 ⟨w.heap.size, 0, none⟩ s P3.out.c 11 13 (by omega) (by have := HS.out; omega) (by have := HS.out; omega) P3.out.laid⟩
  generalize hz3 : partZ s 11 13 = z3 at *
  go_wp2_with fail
  refine Calls.mono K3.out ?_
  rintro e v4 ⟨rfl, hb⟩
  have P4 := Aside0.mk (P3.out.step hb)
  clear hb K3 P3
  have K4 : Aside0 _ := ⟨part_calls v4 ⟨w.heap.size, 0, none⟩ s P4.out.c 14 16 (by omega) (by have := HS.out; omega) (by have := HS.out; omega) P4.out.laid⟩
  generalize hz4 : partZ s 14 16 = z4 at *
  go_wp2_with fail
  refine Calls.mono K4.out ?_
  rintro e v5 ⟨rfl, hb⟩
  have P5 := Aside0.mk (P4.out.step hb)
  clear hb K4 P4
  have K5 : Aside0 _ := ⟨part_calls v5 ⟨w.heap.size, 0, none⟩ s P5.out.c 17 19 (by omega) (by have := HS.out; omega) (by have := HS.out; omega) P5.out.laid⟩
  generalize hz5 : partZ s 17 19 = z5 at *
  go_wp2_with fail
  refine Calls.mono K5.out ?_
  rintro e v6 ⟨rfl, hb⟩
  have P6 := Aside0.mk (P5.out.step hb)
  clear hb K5 P5
  go_upto_region 5 with (fail)
  have Q0 := Aside0.mk (P6.out.step (below_alloc (Below.refl _ _) (.cells #[.int .i64 z0, .int .i64 z1, .int .i64 z2, .int .i64 z3, .int .i64 z4, .int .i64 z5] 38)))
  have D0 : Aside0 ((v6.alloc (.cells #[.int .i64 z0, .int .i64 z1, .int .i64 z2, .int .i64 z3, .int .i64 z4, .int .i64 z5] 38)).heap[v6.heap.size]? = some (.cells #[.int .i64 z0, .int .i64 z1, .int .i64 z2, .int .i64 z3, .int .i64 z4, .int .i64 z5] 38 (0, 0))) := ⟨heap_alloc_new _ _⟩
  generalize (v6.alloc (.cells #[.int .i64 z0, .int .i64 z1, .int .i64 z2, .int .i64 z3, .int .i64 z4, .int .i64 z5] 38)) = u0 at Q0 D0 ⊢
  generalize v6.heap.size = g at D0 ⊢
  clear P6
  obtain ⟨f0, f1, f2, f3, f4, f5⟩ := cells6 D0.out
  have KT : Aside0 _ := ⟨clock_Text.calls k z0 z1 z2 z3 z4 z5 t er u0 HT.out Q0.out.laid⟩
  go_wp2_with fail
  refine Calls.mono KT.out ?_
  rintro e u1 ⟨rfl, hb⟩
  have Q1 := Aside0.mk (Q0.out.step hb)
  have D1 : Aside0 (u1.heap[g]? = some (.cells #[.int .i64 z0, .int .i64 z1, .int .i64 z2, .int .i64 z3, .int .i64 z4, .int .i64 z5] 38 (0, 0))) := ⟨(hb.block g (XGlob.lt_of_get D0.out)).trans D0.out⟩
  clear hb f0 f1 f2 f3 f4 f5 Q0 D0 KT
  obtain ⟨f0, f1, f2, f3, f4, f5⟩ := cells6 D1.out
  obtain ⟨r0, r1, r2, r3, r4, r5⟩ := cells6 Q1.out.r
  have q0 := frozen6 Q1.out.r 0
  have q1 := frozen6 Q1.out.r 1
  have q2 := frozen6 Q1.out.r 2
  have q3 := frozen6 Q1.out.r 3
  have q4 := frozen6 Q1.out.r 4
  have q5 := frozen6 Q1.out.r 5
  have c := Q1.out.c
  have HB : Aside0 (Below w.heap.size w u1) := ⟨Q1.out.below⟩
  clear D1 Q1 HT HS
  have hge : w.heap.size ≤ w.heap.size + 1 := Nat.le_succ _
  cases ok with
  | true =>
    obtain ⟨he, ht⟩ := HK.out.1 rfl
    clear HK
    subst he
    have b1 : (t.toList == s.toList) = true := beq_iff_eq.mpr ht
    have b2 : (t.toList != s.toList) = false := by rw [bne, b1]; rfl
    go_wp2
    refine bodyPost_ret (v := .tuple #[.agg #[.int .i64 z0, .int .i64 z1, .int .i64 z2, .int .i64 z3, .int .i64 z4, .int .i64 z5], .int .i64 0]) (by simp [results, Tryd.results41, go_sem, *]) rfl ⟨rfl, ?_⟩
    (with_reducible repeat (first | exact HB.out | refine below_set ?_ hge))
  | false =>
    by_cases he : er = 0
    · subst he
      have ht : ¬ t.toList = s.toList := fun e => by have := HK.out.2 ⟨rfl, e⟩; cases this
      clear HK
      have b1 : (t.toList == s.toList) = false := beq_eq_false_iff_ne.mpr ht
      have b2 : (t.toList != s.toList) = true := bne_iff_ne.mpr ht
      go_wp2
      refine bodyPost_ret (v := .tuple #[.agg #[.int .i64 0, .int .i64 0, .int .i64 0, .int .i64 0, .int .i64 0, .int .i64 0], .int .i64 2]) (by simp [results, Tryd.results41, go_sem, *]) rfl ⟨rfl, ?_⟩
      (with_reducible repeat (first | exact HB.out | refine below_set ?_ hge))
    · clear HK
      have b3 : (er == 0) = false := beq_eq_false_iff_ne.mpr he
      have b4 : (er != 0) = true := bne_iff_ne.mpr he
      go_wp2
      refine bodyPost_ret (v := .tuple #[.agg #[.int .i64 0, .int .i64 0, .int .i64 0, .int .i64 0, .int .i64 0, .int .i64 0], .int .i64 2]) (by simp [results, Tryd.results41, go_sem, *]) rfl ⟨rfl, ?_⟩
      (with_reducible repeat (first | exact HB.out | refine below_set ?_ hge))

def parseR (s : ByteArray) (t : ByteArray) (er : Int) : Int × Int × Int × Int × Int × Int × Int := if er = 0 ∧ t.toList = s.toList then (partZ s 0 4, partZ s 5 7, partZ s 8 10, partZ s 11 13, partZ s 14 16, partZ s 17 19, 0) else (0, 0, 0, 0, 0, 0, 2)
def clock_Parse.f (k : Nat) (s : ByteArray) : Option (Int × Int × Int × Int × Int × Int × Int) := if (s.size : Int) = 19 then (clock_Text.f k (partZ s 0 4) (partZ s 5 7) (partZ s 8 10) (partZ s 11 13) (partZ s 14 16) (partZ s 17 19)).bind fun te => some (parseR s te.1 te.2) else some (0, 0, 0, 0, 0, 0, 2)
theorem clock_Parse.mono : ∀ a0 k, LeO (clock_Parse.f k a0) (clock_Parse.f (k + 1) a0) := by
  intro a0 k
  unfold clock_Parse.f
  exact LeO.ite (LeO.bind (clock_Text.mono _ _ _ _ _ _ _) fun _ => LeO.refl _) (LeO.refl _)
theorem clock_Parse.calls (k : Nat) (a0 : ByteArray) (r1 : Int) (r2 : Int) (r3 : Int) (r4 : Int) (r5 : Int) (r6 : Int) (r7 : Int) (w : World) (h : clock_Parse.f k a0 = some (r1, r2, r3, r4, r5, r6, r7)) (hL : XGlob.Laid w) :
    Calls Tryd.prog 41 #[.string a0] w fun e w' => e = .returned (.tuple #[.agg #[.int .i64 r1, .int .i64 r2, .int .i64 r3, .int .i64 r4, .int .i64 r5, .int .i64 r6], .int .i64 r7]) ∧ Below w.heap.size w w' := by
  unfold clock_Parse.f at h
  by_cases hs : (a0.size : Int) = 19
  · rw [if_pos hs] at h
    obtain ⟨⟨t, er⟩, hT, h⟩ := Option.bind_eq_some_iff.1 h
    have h2 := Option.some.inj h
    clear h
    unfold parseR at h2
    by_cases hc : er = 0 ∧ t.toList = a0.toList
    · rw [if_pos hc] at h2
      simp only [Prod.mk.injEq] at h2
      obtain ⟨rfl, rfl, rfl, rfl, rfl, rfl, rfl⟩ := h2
      exact parse_long a0 w (by omega) hL k t er hT true ⟨fun _ => hc, fun _ => rfl⟩
    · rw [if_neg hc] at h2
      simp only [Prod.mk.injEq] at h2
      obtain ⟨rfl, rfl, rfl, rfl, rfl, rfl, rfl⟩ := h2
      exact parse_long a0 w (by omega) hL k t er hT false ⟨fun e => (by cases e), fun e => absurd e hc⟩
  · rw [if_neg hs] at h
    have h2 := Option.some.inj h
    simp only [Prod.mk.injEq] at h2
    obtain ⟨rfl, rfl, rfl, rfl, rfl, rfl, rfl⟩ := h2
    exact parse_short a0 w hs


end Go.Proofs.YtdaofffedfccmaaDoor.XClockDates
-- laidx
