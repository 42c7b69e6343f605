/- This text proves the statement over numbers and lists that the functions of the law ClockTimes come to. It has no conditions. -/
import Derived.Test.YtdaofffedfccmaaDoorXClockDatesx7
import Derived.Test.YtdaofffedfccmaaDoorYClock9
import Derived.Test.YtdaofffedfccmaaDoorYClock3
import Derived.Test.YtdaofffedfccmaaDoorYClock6a
namespace Go.Proofs.YtdaofffedfccmaaDoor.Pure
open Go.RowKit Go.Proofs.YtdaofffedfccmaaDoor.XClockDates Go.Proofs.YtdaofffedfccmaaDoorW.PrintWords Go.Proofs.YtdaofffedfccmaaDoorW.PrintLast Go.Proofs.YtdaofffedfccmaaDoorW.PrintMore
set_option linter.unusedVariables false
set_option linter.unusedSimpArgs false

open ClockP
theorem awake_ev : Ev (fun k => montagelaw41_awake.f k) true := Ev.of (fun k => montagelaw41_awake.mono k) (k := 60) (by kernel_rfl)
/-- At, of the seconds of a date, or of one second more. -/
theorem at_date (q j0 D H I S : Nat) (hm : MayP (1980 + (q : Int)) ((j0 : Int) + 1) D H I S) (t : Int) (ht : 0 ≤ t ∧ t ≤ 1) : Ev (fun k => clock_At.f k (secZ q j0 D H I S + t)) (1980 + (q : Int), (j0 : Int) + 1, (D : Int), (H : Int), (I : Int), (S : Int), 0) := by
  have hm' := hm
  obtain ⟨hy, hmo, hd, hh, hmi, hs, hs2⟩ := hm'
  have hn := accp_nonneg (12 * q + j0)
  have hz : (secZ q j0 D H I S + t) / 86400 = accp (12 * q + j0) + D - 1 := by
    unfold secZ
    generalize accp (12 * q + j0) = A at *
    omega
  have hz0 : 0 ≤ secZ q j0 D H I S + t := by
    unfold secZ
    generalize accp (12 * q + j0) = A at *
    omega
  have hz1 : (secZ q j0 D H I S + t) % 86400 = 3600 * H + 60 * I + S + t := by
    unfold secZ
    generalize accp (12 * q + j0) = A at *
    omega
  have hz2 : (secZ q j0 D H I S + t) % 60 = S + t := by
    unfold secZ
    generalize accp (12 * q + j0) = A at *
    omega
  have e2 : accp (12 * q + j0 + 1) = accp (12 * q + j0) + dzp (12 * q + j0) := rfl
  have e3 : dzp (12 * q + j0) = dz (1980 + (q : Int)) ((j0 : Int) + 1) := dzp_at q j0 (by omega)
  have h := (at_ok (secZ q j0 D H I S + t) hz0 (12 * q + j0) (by omega) (by omega) (by omega)).1
  have ea : atT (12 * q + j0) (secZ q j0 D H I S + t) = (1980 + (q : Int), (j0 : Int) + 1, (D : Int), (H : Int), (I : Int), (S : Int), 0) := by
    unfold atT
    rw [hz, hz1, hz2, show (12 * q + j0) / 12 = q from by omega, show (12 * q + j0) % 12 = j0 from by omega]
    simp only [Prod.mk.injEq, true_and]
    refine ⟨by omega, by omega, by omega, by omega, trivial⟩
  rw [ea] at h
  exact h
theorem times_yes (q j0 D H I S : Nat) (hm : MayP (1980 + (q : Int)) ((j0 : Int) + 1) D H I S) (z : Int) (hz : z = putZ (1980 + (q : Int)) ((j0 : Int) + 1) D H I S)
    (ho : Ev (fun k => clock_Of.f k z) (1980 + (q : Int), (j0 : Int) + 1, (D : Int), (H : Int), (I : Int), (S : Int), true)) (hd : Ev (fun k => montageref41_Of.f k z) (1980 + (q : Int), (j0 : Int) + 1, (D : Int), (H : Int), (I : Int), (S : Int), true)) :
    Ev (fun k => montagelaw41_ClockTimes.f k z) true := by
  have hm' := hm
  obtain ⟨hy, hmo, hdd, hh, hmi, hs, hs2⟩ := hm'
  have hdz := dz_le (1980 + (q : Int)) ((j0 : Int) + 1)
  obtain ⟨K0, g0⟩ := awake_ev
  obtain ⟨p1, _⟩ := put_ev q (j0 + 1) D H I S (by omega) (by omega) (by omega) (by omega) (by omega) (by omega)
  rw [show ((j0 + 1 : Nat) : Int) = (j0 : Int) + 1 from by omega] at p1
  obtain ⟨K2, g2⟩ := sec_ev (q := q) (j0 := j0) (by omega) (by omega) ⟨hdd.1, by omega⟩ hh hmi hs hm
  have hr := right_ev (1980 + (q : Int)) ((j0 : Int) + 1) D H I S
  rw [decide_eq_true hm] at hr
  obtain ⟨K3, g3⟩ := hr
  obtain ⟨K5, g5⟩ := dsec_ev (q := q) (j0 := j0) (d := D) (h := H) (mi := I) (s := S) (by omega) (by omega) ⟨hdd.1, by omega⟩ hh hmi hs
  have hsm := accp_small (12 * q + j0) (by omega)
  have hsn := accp_nonneg (12 * q + j0)
  have hw : wrap64 (secZ q j0 D H I S + 1) = secZ q j0 D H I S + 1 := w64c (by unfold secZ; omega) (by unfold secZ; omega)
  have hA := at_date q j0 D H I S hm 0 (by omega)
  rw [Int.add_zero] at hA
  obtain ⟨K6, g6⟩ := hA
  obtain ⟨K7, g7⟩ := at_date q j0 D H I S hm 1 (by omega)
  have ht := text_ev q (j0 + 1) D H I S (by omega) (by omega) (by omega) (by omega) (by omega) (by omega)
  have hp := (parse_yes1 q (j0 + 1) D H I S (by rw [show ((j0 + 1 : Nat) : Int) = (j0 : Int) + 1 from by omega]; exact hm) ⟨by omega, by omega, by omega, by omega, by omega, by omega⟩)
  rw [show ((j0 + 1 : Nat) : Int) = (j0 : Int) + 1 from by omega] at ht hp
  obtain ⟨t1, K8, g8⟩ := ht
  obtain ⟨K9, g9⟩ := hp
  obtain ⟨Ka, ga⟩ := ho
  obtain ⟨Kb, gb⟩ := hd
  refine ⟨K0 + K2 + K3 + K5 + K6 + K7 + K8 + K9 + Ka + Kb + 1, fun n hn => ?_⟩
  obtain ⟨m, rfl⟩ : ∃ m, n = m + 1 := ⟨n - 1, by omega⟩
  have a0 := g0 (m + 1) (by omega)
  have a1 := p1 m (g3 m (by omega))
  have a2 := g2 m (by omega)
  have a3 := t1 m (g3 m (by omega))
  have a5 := g5 m (by omega)
  have a6 := g6 m (by omega)
  have a7 := g7 m (by omega)
  have a8 := g8 m (by omega)
  have a9 := g9 m (by omega)
  have aa := ga (m + 1) (by omega)
  have ab := gb (m + 1) (by omega)
  clear g0 p1 g2 t1 g3 g5 g6 g7 g8 g9 ga gb
  simp only [] at a0 a2 a5 a6 a7 a8 a9 aa ab
  rw [← hz] at a1
  clear hz hdz hy hmo hdd hh hmi hs hs2 hm hn hsm hsn
  show montagelaw41_ClockTimes.f (m + 1) z = _
  unfold montagelaw41_ClockTimes.f
  rw [a0, Option.bind_some, if_pos rfl, aa, Option.bind_some, ab, Option.bind_some, if_neg (by simp)]
  show montagelaw41_ClockTimes.j0 (m + 1) z true (true != true) (1980 + (q : Int)) ((j0 : Int) + 1) (D : Int) (H : Int) (I : Int) (S : Int) = some true
  rw [montagelaw41_ClockTimes.j0]
  rw [if_neg (by decide), if_pos rfl, a1, Option.bind_some, a2, Option.bind_some]
  simp only [hw]
  rw [a6, Option.bind_some, a7, Option.bind_some, a3, Option.bind_some]
  simp only []
  rw [a9, Option.bind_some]
  simp only [↓reduceIte, a5, Option.bind_some, beq_self_eq_true, Bool.and_self, a8]
theorem times_no (z : Int) (ho : Ev (fun k => clock_Of.f k z) (0, 0, 0, 0, 0, 0, false)) (hd : Ev (fun k => montageref41_Of.f k z) (0, 0, 0, 0, 0, 0, false)) : Ev (fun k => montagelaw41_ClockTimes.f k z) true := by
  obtain ⟨K0, g0⟩ := awake_ev
  obtain ⟨Ka, ga⟩ := ho
  obtain ⟨Kb, gb⟩ := hd
  refine ⟨K0 + Ka + Kb + 1, fun n hn => ?_⟩
  obtain ⟨m, rfl⟩ : ∃ m, n = m + 1 := ⟨n - 1, by omega⟩
  have a0 := g0 (m + 1) (by omega)
  have aa := ga (m + 1) (by omega)
  have ab := gb (m + 1) (by omega)
  clear g0 ga gb
  simp only [] at a0 aa ab
  show montagelaw41_ClockTimes.f (m + 1) z = _
  unfold montagelaw41_ClockTimes.f
  rw [a0, Option.bind_some, if_pos rfl, aa, Option.bind_some, ab, Option.bind_some, if_neg (by simp)]
  show montagelaw41_ClockTimes.j0 (m + 1) z false (false != false) 0 0 0 0 0 0 = some true
  rw [montagelaw41_ClockTimes.j0]
  rw [if_neg (by decide), if_neg (by decide)]
theorem ClockTimes : montagelaw41_ClockTimes.Pure := by
  intro z _
  refine Ev.rounds (r := true) ?_
  rcases of_any z with ⟨q, j0, D, H, I, S, hm, hz, h1, h2⟩ | ⟨h1, h2⟩
  · exact times_yes q j0 D H I S hm z hz h1 h2
  · exact times_no z h1 h2

end Go.Proofs.YtdaofffedfccmaaDoor.Pure
