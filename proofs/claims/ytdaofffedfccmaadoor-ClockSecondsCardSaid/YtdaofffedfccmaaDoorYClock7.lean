/- At of any number It has no conditions. -/
import Derived.Test.YtdaofffedfccmaaDoorYClock4
import Derived.Test.YtdaofffedfccmaaDoorYClock5
import Derived.Test.YtdaofffedfccmaaDoorYClock6
import Derived.BigRegion
import Derived.RegionTactic
import Derived.ChangeAlike
import Derived.Deep.RegionWith
import Derived.Deep.RegionLaw
import Derived.Laws.Tables
import Derived.Deep.QuietTactic
import Derived.BigQuiet
import Derived.Deep.RegionHeld3
import Derived.Deep.AppendLies
import Derived.Deep.DrawnRows
import Derived.Laws.CopyOwn
import Derived.Deep.MidRow
import Derived.Laws.ResultCell
import Derived.ChangeKeysEq
import Derived.Laws.BitsAllLaws
namespace Go.Proofs.YtdaofffedfccmaaDoor.ClockP
set_option linter.unusedVariables false
set_option linter.unusedSimpArgs false
open Go.RowKit Go.Proofs.YtdaofffedfccmaaDoorW.PrintWords Go.Proofs.YtdaofffedfccmaaDoorW.PrintLast Go.Proofs.YtdaofffedfccmaaDoorW.PrintMore
attribute [local go_sem] max2_int min2_int max_two min_two max_three min_three max_four min_four
open XClockDates
/-! ### What At answers, for both and for each number; and what Put makes of it. -/
/-- The date at z seconds is one that may be. -/
theorem may_at (P : Nat) (hP : P < 1536) (z : Int) (hz : 0 ≤ z) (h1 : accp P ≤ z / 86400) (h2 : z / 86400 < accp (P + 1)) : MayP (1980 + ((P / 12 : Nat) : Int)) (((P % 12 : Nat) : Int) + 1) (z / 86400 - accp P + 1) (z % 86400 / 3600) (z % 86400 / 60 % 60) (z % 60 / 2 * 2) := by
  have e2 : accp (P + 1) = accp P + dz (1980 + ((P / 12 : Nat) : Int)) (((P % 12 : Nat) : Int) + 1) := rfl
  refine ⟨⟨by omega, by omega⟩, ⟨by omega, by omega⟩, ⟨by omega, by omega⟩, ⟨by omega, by omega⟩, ⟨by omega, by omega⟩, ⟨by omega, by omega⟩, by omega⟩
/-- clock.Put of the date at z seconds. -/
theorem put_at (P : Nat) (hP : P < 1536) (z : Int) (hz : 0 ≤ z) (h1 : accp P ≤ z / 86400) (h2 : z / 86400 < accp (P + 1)) : Ev (fun k => clock_Put.f k (1980 + ((P / 12 : Nat) : Int)) (((P % 12 : Nat) : Int) + 1) (z / 86400 - accp P + 1) (z % 86400 / 3600) (z % 86400 / 60 % 60) (z % 60 / 2 * 2)) (putA P z, 0) := by
  have hm := may_at P hP z hz h1 h2
  have hr := right_ev (1980 + ((P / 12 : Nat) : Int)) (((P % 12 : Nat) : Int) + 1) (z / 86400 - accp P + 1) (z % 86400 / 3600) (z % 86400 / 60 % 60) (z % 60 / 2 * 2)
  rw [decide_eq_true hm] at hr
  obtain ⟨K, g⟩ := hr
  unfold putA
  obtain ⟨q, M, D, H, I, S, hb, e0, e1, e2, e3, e4, e5⟩ := may_nats hm
  rw [e1, e2, e3, e4, e5] at g ⊢
  have hq : P / 12 = q := by omega
  rw [hq] at g ⊢
  exact ⟨K, fun n hn => (put_ev q M D H I S hb.1 hb.2.1 hb.2.2.1 hb.2.2.2.1 hb.2.2.2.2.1 hb.2.2.2.2.2).1 n (g n hn)⟩
/-- At, of any number: a date at a month, or both refuse. -/
theorem at_any (z : Int) (hw : z ≤ 9223372036854775807) : (∃ P, P < 1536 ∧ 0 ≤ z ∧ accp P ≤ z / 86400 ∧ z / 86400 < accp (P + 1)) ∨ (Ev (fun k => clock_At.f k z) (0, 0, 0, 0, 0, 0, 7) ∧ Ev (fun k => montageref41_At.f k z) (0, 0, 0, 0, 0, 0, 7)) := by
  by_cases h : z < 0 ∨ accp 1536 ≤ z / 86400
  · exact .inr (at_no z hw h)
  · left
    obtain ⟨P, h1, h2, h3⟩ := month_of 1536 (z / 86400) (by omega) (by omega)
    exact ⟨P, h1, by omega, h2, h3⟩

end Go.Proofs.YtdaofffedfccmaaDoor.ClockP
