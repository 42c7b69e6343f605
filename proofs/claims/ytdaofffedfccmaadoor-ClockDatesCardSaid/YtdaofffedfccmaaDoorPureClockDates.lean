/- This text proves the statement over numbers and lists that the functions of the law ClockDates come to. It has no conditions. -/
import Derived.Test.YtdaofffedfccmaaDoorXClockDatesx6
import Derived.Test.YtdaofffedfccmaaDoorYClock4
namespace Go.Proofs.YtdaofffedfccmaaDoor.Pure
open Go.RowKit Go.Proofs.YtdaofffedfccmaaDoor.XClockDates Go.Proofs.YtdaofffedfccmaaDoorW.PrintWords Go.Proofs.YtdaofffedfccmaaDoorW.PrintLast Go.Proofs.YtdaofffedfccmaaDoorW.PrintMore
set_option linter.unusedVariables false
set_option linter.unusedSimpArgs false

open ClockP
theorem bytes_nil : (⟨#[]⟩ : ByteArray).toList = [] := by first | rfl | kernel_rfl | decide +kernel
theorem awake_ev : Ev (fun k => montagelaw41_awake.f k) true := Ev.of (fun k => montagelaw41_awake.mono k) (k := 60) (by kernel_rfl)
theorem dates_yes (q j0 D H I S : Nat) (hm : MayP (1980 + (q : Int)) ((j0 : Int) + 1) D H I S) : Ev (fun k => montagelaw41_ClockDates.f k (1980 + (q : Int)) ((j0 : Int) + 1) D H I S) true := by
  have hm' := hm
  obtain ⟨hy, hmo, hd, hh, hmi, hs, hs2⟩ := hm'
  have hdz := dz_le (1980 + (q : Int)) ((j0 : Int) + 1)
  obtain ⟨K0, g0⟩ := awake_ev
  obtain ⟨g1, pu2⟩ := put_ev q (j0 + 1) D H I S (by omega) (by omega) (by omega) (by omega) (by omega) (by omega)
  rw [show ((j0 + 1 : Nat) : Int) = (j0 : Int) + 1 from by omega] at g1 pu2
  obtain ⟨K2, g2⟩ := sec_ev (q := q) (j0 := j0) (by omega) (by omega) ⟨hd.1, by omega⟩ hh hmi hs hm
  have hr := right_ev (1980 + (q : Int)) ((j0 : Int) + 1) D H I S
  rw [decide_eq_true hm] at hr
  obtain ⟨K3, g3⟩ := hr
  have hy2 := may_ev (1980 + (q : Int)) ((j0 : Int) + 1) D H I S
  rw [decide_eq_true hm] at hy2
  obtain ⟨K4, g4⟩ := hy2
  obtain ⟨K5, g5⟩ := dsec_ev (q := q) (j0 := j0) (d := D) (h := H) (mi := I) (s := S) (by omega) (by omega) ⟨hd.1, by omega⟩ hh hmi hs
  have ht := text_ev q (j0 + 1) D H I S (by omega) (by omega) (by omega) (by omega) (by omega) (by omega)
  rw [show ((j0 + 1 : Nat) : Int) = (j0 : Int) + 1 from by omega] at ht
  obtain ⟨t1, K6, g6⟩ := ht
  refine ⟨K0 + K2 + K3 + K4 + K5 + K6, fun n hn => ?_⟩
  have a0 := g0 n (by omega)
  have a1 := g1 n (g3 n (by omega))
  have a2 := g2 n (by omega)
  have a3 := t1 n (g3 n (by omega))
  have a4 := g4 n (by omega)
  have a5 := g5 n (by omega)
  have a6 := g6 n (by omega)
  clear g0 g1 g2 g3 g4 g5 g6 t1
  simp only [] at a0 a2 a4 a5 a6
  show montagelaw41_ClockDates.f n (1980 + (q : Int)) ((j0 : Int) + 1) D H I S = _
  unfold montagelaw41_ClockDates.f
  rw [a0, Option.bind_some, if_pos rfl, a1, Option.bind_some, a2, Option.bind_some, a3, Option.bind_some, a4, Option.bind_some, if_pos rfl, pu2, Option.bind_some, if_pos rfl, if_pos rfl, a5, Option.bind_some, if_pos rfl, if_pos rfl, a6, Option.bind_some, if_pos rfl]
  rfl
theorem dates_no (y mo d h mi s : Int) (hm : ¬ MayP y mo d h mi s) : Ev (fun k => montagelaw41_ClockDates.f k y mo d h mi s) true := by
  obtain ⟨K0, g0⟩ := awake_ev
  have hr := right_ev y mo d h mi s
  rw [decide_eq_false hm] at hr
  obtain ⟨K3, g3⟩ := hr
  have hy2 := may_ev y mo d h mi s
  rw [decide_eq_false hm] at hy2
  obtain ⟨K4, g4⟩ := hy2
  refine ⟨K0 + K3 + K4, fun n hn => ?_⟩
  have a0 := g0 n (by omega)
  have a3 := g3 n (by omega)
  have a4 := g4 n (by omega)
  clear g0 g3 g4
  simp only [] at a0 a3 a4
  have nf : ¬ (false = true) := by simp
  have a1 : clock_Put.f n y mo d h mi s = some (0, 1) := by
    unfold clock_Put.f
    rw [a3, Option.bind_some, if_neg nf]
  have a2 : clock_Seconds.f n y mo d h mi s = some (0, 1) := by
    unfold clock_Seconds.f
    rw [a3, Option.bind_some, if_neg nf]
  have a5 : clock_Text.f n y mo d h mi s = some ((⟨#[]⟩ : ByteArray), 1) := by
    unfold clock_Text.f
    rw [a3, Option.bind_some, if_neg nf]
  show montagelaw41_ClockDates.f n y mo d h mi s = _
  unfold montagelaw41_ClockDates.f
  rw [a0, Option.bind_some, if_pos rfl, a1, Option.bind_some, a2, Option.bind_some, a5, Option.bind_some, a4, Option.bind_some, if_neg nf, if_pos rfl, if_pos rfl, if_pos rfl, if_pos rfl, if_pos bytes_nil]
  rfl
theorem ClockDates : montagelaw41_ClockDates.Pure := by
  intro y mo d h mi s _
  refine Ev.rounds (r := true) ?_
  by_cases hm : MayP y mo d h mi s
  · have hm' := hm
    obtain ⟨hy, hmo, hd, hh, hmi, hs, hs2⟩ := hm'
    obtain ⟨q, rfl⟩ : ∃ q : Nat, y = 1980 + (q : Int) := ⟨(y - 1980).toNat, by omega⟩
    obtain ⟨j0, rfl⟩ : ∃ j : Nat, mo = (j : Int) + 1 := ⟨(mo - 1).toNat, by omega⟩
    obtain ⟨D, rfl⟩ := Int.eq_ofNat_of_zero_le (show 0 ≤ d from by omega)
    obtain ⟨H, rfl⟩ := Int.eq_ofNat_of_zero_le (show 0 ≤ h from by omega)
    obtain ⟨I, rfl⟩ := Int.eq_ofNat_of_zero_le (show 0 ≤ mi from by omega)
    obtain ⟨S, rfl⟩ := Int.eq_ofNat_of_zero_le (show 0 ≤ s from by omega)
    exact dates_yes q j0 D H I S hm
  · exact dates_no y mo d h mi s hm

end Go.Proofs.YtdaofffedfccmaaDoor.Pure
