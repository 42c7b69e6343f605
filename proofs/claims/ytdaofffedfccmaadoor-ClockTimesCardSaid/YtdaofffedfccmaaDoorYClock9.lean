/- Of It has no conditions. -/
import Derived.Test.YtdaofffedfccmaaDoorYClock4
import Derived.Test.YtdaofffedfccmaaDoorXClockDatesx6
import Derived.BigRegion
import Derived.RegionTactic
import Derived.ChangeAlike
import Derived.Deep.RegionWith
import Derived.Deep.RegionLaw
import Derived.Laws.Tables
import Derived.Deep.QuietTactic
import Derived.BigQuiet
import Derived.Deep.RegionHeld3
import Derived.Deep.AppendLies
import Derived.Deep.DrawnRows
import Derived.Laws.CopyOwn
import Derived.Deep.MidRow
import Derived.Laws.ResultCell
import Derived.ChangeKeysEq
import Derived.Laws.BitsAllLaws
namespace Go.Proofs.YtdaofffedfccmaaDoor.ClockP
set_option linter.unusedVariables false
set_option linter.unusedSimpArgs false
open Go.RowKit Go.Proofs.YtdaofffedfccmaaDoorW.PrintWords Go.Proofs.YtdaofffedfccmaaDoorW.PrintLast Go.Proofs.YtdaofffedfccmaaDoorW.PrintMore
attribute [local go_sem] max2_int min2_int max_two min_two max_three min_three max_four min_four
open XClockDates
/-! ### Of: the date of a packed number. -/
theorem bits_f (x : Nat) (hx : x ≤ 4294967295) (a b : Nat) (ha : a ≤ 25) (hb : b ≤ 7) : clock_bits.f (x : Int) (a : Int) (b : Int) = some ((x / 2 ^ a % 2 ^ b : Nat) : Int) := by
  unfold clock_bits.f
  rw [if_pos (by omega), if_pos (by omega)]
  congr 1
  have e1 : shr .i64 (x : Int) (a : Int) = ((x / 2 ^ a : Nat) : Int) := by
    unfold shr
    rw [Nat.min_eq_left (by rw [Int.toNat_natCast]; show a ≤ 64; omega), Int.toNat_natCast]
    push_cast
    rfl
  have hp : (2 : Nat) ^ b ≤ 2 ^ 7 := Nat.pow_le_pow_right (by decide) hb
  have hp7 : (2 : Nat) ^ 7 = 128 := by decide
  have hpos : 1 ≤ (2 : Nat) ^ b := Nat.one_le_two_pow
  have e2 : wrap64 (shl .i64 1 (b : Int) - 1) = ((2 ^ b - 1 : Nat) : Int) := by
    unfold shl
    rw [Nat.min_eq_left (by rw [Int.toNat_natCast]; show b ≤ 64; omega), Int.toNat_natCast, Int.one_mul, Go.IntKind.wrap_i64]
    have hc : ((2 : Int) ^ b) = ((2 ^ b : Nat) : Int) := by push_cast; rfl
    rw [hc]
    unfold wrap64
    omega
  have hle : x / 2 ^ a ≤ 4294967295 := Nat.le_trans (Nat.div_le_self _ _) hx
  have h63 : (2 : Int) ^ 63 = 9223372036854775808 := by decide
  have p63 : (2 : Nat) ^ 63 = 9223372036854775808 := by decide
  have e := (Go.bits_nat .i64 63 (by decide) (fun z h0 h1 => by rw [Go.IntKind.wrap_i64]; omega) (x / 2 ^ a) (2 ^ b - 1) (by omega) (by omega)).1
  rw [e1, e2, e, Nat.and_two_pow_sub_one_eq_mod]
theorem tq (x a : Nat) (h : x ≤ 4294967295) : wrap64 (Int.tdiv (x : Int) (a : Int)) = ((x / a : Nat) : Int) := by
  have : x / a ≤ 4294967295 := Nat.le_trans (Nat.div_le_self _ _) h
  rw [Int.tdiv_eq_ediv_of_nonneg (by omega), ← Int.natCast_ediv, w64c (x := ((x / a : Nat) : Int)) (by have := Int.natCast_nonneg (x / a); omega) (by have h2 : ((x / a : Nat) : Int) ≤ 4294967295 := Int.ofNat_le.2 this; omega)]
theorem tm (x b : Nat) : Int.tmod (x : Int) (b : Int) = ((x % b : Nat) : Int) := by
  rw [Int.tmod_eq_emod_of_nonneg (by omega), Int.natCast_emod]
theorem split_n (x : Nat) (hx : x ≤ 4294967295) : (x : Int) = ((x / 33554432 : Nat) : Int) * 33554432 + ((x / 2097152 % 16 : Nat) : Int) * 2097152 + ((x / 65536 % 32 : Nat) : Int) * 65536 + ((x / 2048 % 32 : Nat) : Int) * 2048 + ((x / 32 % 64 : Nat) : Int) * 32 + ((x % 32 : Nat) : Int) := by
  have a1 : x / 2097152 / 16 = x / 33554432 := by rw [Nat.div_div_eq_div_mul]
  have a2 : x / 65536 / 32 = x / 2097152 := by rw [Nat.div_div_eq_div_mul]
  have a3 : x / 2048 / 32 = x / 65536 := by rw [Nat.div_div_eq_div_mul]
  have a4 : x / 32 / 64 = x / 2048 := by rw [Nat.div_div_eq_div_mul]
  have b1 := Nat.div_add_mod (x / 2097152) 16
  have b2 := Nat.div_add_mod (x / 65536) 32
  have b3 := Nat.div_add_mod (x / 2048) 32
  have b4 := Nat.div_add_mod (x / 32) 64
  have b5 := Nat.div_add_mod x 32
  rw [a1] at b1
  rw [a2] at b2
  rw [a3] at b3
  rw [a4] at b4
  clear a1 a2 a3 a4
  generalize x / 33554432 = q at *
  generalize x / 2097152 % 16 = m at *
  generalize x / 2097152 = y1 at *
  generalize x / 65536 % 32 = d at *
  generalize x / 65536 = y2 at *
  generalize x / 2048 % 32 = h at *
  generalize x / 2048 = y3 at *
  generalize x / 32 % 64 = i at *
  generalize x / 32 = y4 at *
  generalize x % 32 = t at *
  omega
/-- The date that a packed number tells, as it stands there. -/
theorem of_fields (x : Nat) (hx : x ≤ 4294967295) (b : Bool) (hb : decide (MayP (1980 + ((x / 33554432 : Nat) : Int)) ((x / 2097152 % 16 : Nat) : Int) ((x / 65536 % 32 : Nat) : Int) ((x / 2048 % 32 : Nat) : Int) ((x / 32 % 64 : Nat) : Int) ((2 * (x % 32) : Nat) : Int)) = b) :
    Ev (fun k => clock_Of.f k (x : Int)) (if b = true then (1980 + ((x / 33554432 : Nat) : Int), ((x / 2097152 % 16 : Nat) : Int), ((x / 65536 % 32 : Nat) : Int), ((x / 2048 % 32 : Nat) : Int), ((x / 32 % 64 : Nat) : Int), ((2 * (x % 32) : Nat) : Int), true) else (0, 0, 0, 0, 0, 0, false)) ∧
    Ev (fun k => montageref41_Of.f k (x : Int)) (if b = true then (1980 + ((x / 33554432 : Nat) : Int), ((x / 2097152 % 16 : Nat) : Int), ((x / 65536 % 32 : Nat) : Int), ((x / 2048 % 32 : Nat) : Int), ((x / 32 % 64 : Nat) : Int), ((2 * (x % 32) : Nat) : Int), true) else (0, 0, 0, 0, 0, 0, false)) := by
  have hr := right_ev (1980 + ((x / 33554432 : Nat) : Int)) ((x / 2097152 % 16 : Nat) : Int) ((x / 65536 % 32 : Nat) : Int) ((x / 2048 % 32 : Nat) : Int) ((x / 32 % 64 : Nat) : Int) ((2 * (x % 32) : Nat) : Int)
  have hm := may_ev (1980 + ((x / 33554432 : Nat) : Int)) ((x / 2097152 % 16 : Nat) : Int) ((x / 65536 % 32 : Nat) : Int) ((x / 2048 % 32 : Nat) : Int) ((x / 32 % 64 : Nat) : Int) ((2 * (x % 32) : Nat) : Int)
  rw [hb] at hr hm
  clear hb
  constructor
  · obtain ⟨K, g⟩ := hr
    refine ⟨K, fun n hn => ?_⟩
    have gk := g n hn
    clear g
    have b0 : clock_bits.f (x : Int) 25 7 = some ((x / 33554432 : Nat) : Int) := by
      have e : clock_bits.f (x : Int) 25 7 = some ((x / 33554432 % 128 : Nat) : Int) := bits_f x hx 25 7 (by decide) (by decide)
      rw [e, show x / 33554432 % 128 = x / 33554432 from by omega]
    have b1 : clock_bits.f (x : Int) 21 4 = some ((x / 2097152 % 16 : Nat) : Int) := bits_f x hx 21 4 (by decide) (by decide)
    have b2 : clock_bits.f (x : Int) 16 5 = some ((x / 65536 % 32 : Nat) : Int) := bits_f x hx 16 5 (by decide) (by decide)
    have b3 : clock_bits.f (x : Int) 11 5 = some ((x / 2048 % 32 : Nat) : Int) := bits_f x hx 11 5 (by decide) (by decide)
    have b4 : clock_bits.f (x : Int) 5 6 = some ((x / 32 % 64 : Nat) : Int) := bits_f x hx 5 6 (by decide) (by decide)
    have b5 : clock_bits.f (x : Int) 0 5 = some ((x % 32 : Nat) : Int) := by
      have e : clock_bits.f (x : Int) 0 5 = some ((x / 1 % 32 : Nat) : Int) := bits_f x hx 0 5 (by decide) (by decide)
      rw [e, Nat.div_one]
    have w1 : wrap64 (1980 + ((x / 33554432 : Nat) : Int)) = 1980 + ((x / 33554432 : Nat) : Int) := w64c (by omega) (by omega)
    have w2 : wrap64 (2 * ((x % 32 : Nat) : Int)) = ((2 * (x % 32) : Nat) : Int) := by rw [w64c (by omega) (by omega)]; omega
    have hw : clock_within.f (x : Int) 0 4294967295 = some true := by rw [within_f, decide_eq_true (by omega)]
    simp only [] at gk
    show clock_Of.f n (x : Int) = _
    unfold clock_Of.f
    rw [hw, Option.bind_some, if_pos rfl, b0, Option.bind_some, b1, Option.bind_some, b2, Option.bind_some, b3, Option.bind_some, b4, Option.bind_some, b5, Option.bind_some, w1, w2, gk, Option.bind_some]
    cases b <;> rfl
  · obtain ⟨K, g⟩ := hm
    refine ⟨K + 1, fun n hn => ?_⟩
    obtain ⟨m, rfl⟩ : ∃ m, n = m + 1 := ⟨n - 1, by omega⟩
    have gk := g m (by omega)
    clear g
    have e0 : wrap64 (Int.tdiv (x : Int) 33554432) = ((x / 33554432 : Nat) : Int) := tq x 33554432 hx
    have e1 : wrap64 (Int.tdiv (x : Int) 2097152) = ((x / 2097152 : Nat) : Int) := tq x 2097152 hx
    have e2 : wrap64 (Int.tdiv (x : Int) 65536) = ((x / 65536 : Nat) : Int) := tq x 65536 hx
    have e3 : wrap64 (Int.tdiv (x : Int) 2048) = ((x / 2048 : Nat) : Int) := tq x 2048 hx
    have e4 : wrap64 (Int.tdiv (x : Int) 32) = ((x / 32 : Nat) : Int) := tq x 32 hx
    have m1 : Int.tmod ((x / 2097152 : Nat) : Int) 16 = ((x / 2097152 % 16 : Nat) : Int) := tm _ 16
    have m2 : Int.tmod ((x / 65536 : Nat) : Int) 32 = ((x / 65536 % 32 : Nat) : Int) := tm _ 32
    have m3 : Int.tmod ((x / 2048 : Nat) : Int) 32 = ((x / 2048 % 32 : Nat) : Int) := tm _ 32
    have m4 : Int.tmod ((x / 32 : Nat) : Int) 64 = ((x / 32 % 64 : Nat) : Int) := tm _ 64
    have m5 : Int.tmod (x : Int) 32 = ((x % 32 : Nat) : Int) := tm _ 32
    have w1 : wrap64 (1980 + ((x / 33554432 : Nat) : Int)) = 1980 + ((x / 33554432 : Nat) : Int) := w64c (by omega) (by omega)
    have w2 : wrap64 (((x % 32 : Nat) : Int) * 2) = ((2 * (x % 32) : Nat) : Int) := by rw [w64c (by omega) (by omega)]; omega
    simp only [] at gk
    show montageref41_Of.f (m + 1) (x : Int) = _
    unfold montageref41_Of.f
    rw [if_neg (show ¬ (x : Int) < 0 by omega), decide_eq_false (show ¬ (x : Int) > 4294967295 by omega)]
    simp only [montageref41_Of.j0]
    rw [if_neg (show ¬ (false = true) by decide), e0, e1, e2, e3, e4, m1, m2, m3, m4, m5, w1, w2, gk, Option.bind_some]
    cases b <;> rfl
theorem of_far (z : Int) (hz : z < 0 ∨ 4294967295 < z) : Ev (fun k => clock_Of.f k z) (0, 0, 0, 0, 0, 0, false) ∧ Ev (fun k => montageref41_Of.f k z) (0, 0, 0, 0, 0, 0, false) := by
  constructor
  · refine ⟨0, fun n _ => ?_⟩
    show clock_Of.f n z = _
    unfold clock_Of.f
    rw [within_f, decide_eq_false (by omega), Option.bind_some, if_neg (by decide)]
  · refine ⟨1, fun n hn => ?_⟩
    obtain ⟨m, rfl⟩ : ∃ m, n = m + 1 := ⟨n - 1, by omega⟩
    show montageref41_Of.f (m + 1) z = _
    unfold montageref41_Of.f
    by_cases h : z < 0
    · rw [if_pos h]
      simp only [montageref41_Of.j0]
      rw [if_pos trivial]
    · rw [if_neg h, decide_eq_true (show z > 4294967295 by omega)]
      simp only [montageref41_Of.j0]
      rw [if_pos trivial]
/-- Of, of any number: a date that may be, whose packed number it is, or both refuse. -/
theorem of_any (z : Int) : (∃ q j0 D H I S : Nat, MayP (1980 + (q : Int)) ((j0 : Int) + 1) D H I S ∧ z = putZ (1980 + (q : Int)) ((j0 : Int) + 1) D H I S ∧
      Ev (fun k => clock_Of.f k z) (1980 + (q : Int), (j0 : Int) + 1, (D : Int), (H : Int), (I : Int), (S : Int), true) ∧ Ev (fun k => montageref41_Of.f k z) (1980 + (q : Int), (j0 : Int) + 1, (D : Int), (H : Int), (I : Int), (S : Int), true)) ∨
    (Ev (fun k => clock_Of.f k z) (0, 0, 0, 0, 0, 0, false) ∧ Ev (fun k => montageref41_Of.f k z) (0, 0, 0, 0, 0, 0, false)) := by
  by_cases hz : z < 0 ∨ 4294967295 < z
  · exact .inr (of_far z hz)
  · obtain ⟨x, rfl⟩ := Int.eq_ofNat_of_zero_le (show 0 ≤ z by omega)
    have hx : x ≤ 4294967295 := by omega
    by_cases hm : MayP (1980 + ((x / 33554432 : Nat) : Int)) ((x / 2097152 % 16 : Nat) : Int) ((x / 65536 % 32 : Nat) : Int) ((x / 2048 % 32 : Nat) : Int) ((x / 32 % 64 : Nat) : Int) ((2 * (x % 32) : Nat) : Int)
    · obtain ⟨h1, h2⟩ := of_fields x hx true (decide_eq_true hm)
      rw [if_pos rfl] at h1 h2
      have hmo := hm.2.1.1
      obtain ⟨j0, hj⟩ : ∃ j, x / 2097152 % 16 = j + 1 := ⟨x / 2097152 % 16 - 1, by omega⟩
      have hj' : ((x / 2097152 % 16 : Nat) : Int) = (j0 : Int) + 1 := by omega
      have hs := split_n x hx
      rw [hj'] at h1 h2 hm hs
      refine .inl ⟨x / 33554432, j0, x / 65536 % 32, x / 2048 % 32, x / 32 % 64, 2 * (x % 32), hm, ?_, h1, h2⟩
      show (x : Int) = _
      unfold putZ
      omega
    · have h := of_fields x hx false (decide_eq_false hm)
      rw [if_neg (by decide)] at h
      exact .inr h

end Go.Proofs.YtdaofffedfccmaaDoor.ClockP
