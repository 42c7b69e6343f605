/- Two dates It has no conditions. -/
import Derived.Test.YtdaofffedfccmaaDoorYClock7
import Derived.BigRegion
import Derived.RegionTactic
import Derived.ChangeAlike
import Derived.Deep.RegionWith
import Derived.Deep.RegionLaw
import Derived.Laws.Tables
import Derived.Deep.QuietTactic
import Derived.BigQuiet
import Derived.Deep.RegionHeld3
import Derived.Deep.AppendLies
import Derived.Deep.DrawnRows
import Derived.Laws.CopyOwn
import Derived.Deep.MidRow
import Derived.Laws.ResultCell
import Derived.ChangeKeysEq
import Derived.Laws.BitsAllLaws
namespace Go.Proofs.YtdaofffedfccmaaDoor.ClockP
set_option linter.unusedVariables false
set_option linter.unusedSimpArgs false
open Go.RowKit Go.Proofs.YtdaofffedfccmaaDoorW.PrintWords Go.Proofs.YtdaofffedfccmaaDoorW.PrintLast Go.Proofs.YtdaofffedfccmaaDoorW.PrintMore
attribute [local go_sem] max2_int min2_int max_two min_two max_three min_three max_four min_four
open XClockDates
/-! ### ClockSeconds: what its calls answer, all at one number of rounds. -/
theorem at_same (z : Int) (hw : z ≤ 9223372036854775807) : ∃ d, Ev (fun k => clock_At.f k z) d ∧ Ev (fun k => montageref41_At.f k z) d := by
  rcases at_any z hw with ⟨P, hP, hz, h1, h2⟩ | h
  · exact ⟨_, at_ok z hz P hP h1 h2⟩
  · exact ⟨_, h⟩
/-- Two dates of two numbers: one of them is refused, or Put's numbers stand as the numbers' halves do. -/
theorem at_two (y z : Int) (hy : y ≤ 9223372036854775807) (hz : z ≤ 9223372036854775807) :
    (Ev (fun k => clock_At.f k y) (0, 0, 0, 0, 0, 0, 7) ∨ Ev (fun k => clock_At.f k z) (0, 0, 0, 0, 0, 0, 7)) ∨
    ∃ P Q : Nat, Ev (fun k => clock_At.f k y) (atT P y) ∧ Ev (fun k => clock_At.f k z) (atT Q z) ∧ 0 ≤ y ∧ 0 ≤ z ∧
      Ev (fun k => clock_Put.f k (atT P y).1 (atT P y).2.1 (atT P y).2.2.1 (atT P y).2.2.2.1 (atT P y).2.2.2.2.1 (atT P y).2.2.2.2.2.1) (putA P y, 0) ∧
      Ev (fun k => clock_Put.f k (atT Q z).1 (atT Q z).2.1 (atT Q z).2.2.1 (atT Q z).2.2.2.1 (atT Q z).2.2.2.2.1 (atT Q z).2.2.2.2.2.1) (putA Q z, 0) ∧
      ((y / 2 < z / 2) ↔ (putA P y < putA Q z)) := by
  rcases at_any y hy with ⟨P, hP, y0, h1, h2⟩ | h
  · rcases at_any z hz with ⟨Q, hQ, z0, h3, h4⟩ | h
    · exact .inr ⟨P, Q, (at_ok y y0 P hP h1 h2).1, (at_ok z z0 Q hQ h3 h4).1, y0, z0, put_at P hP y y0 h1 h2, put_at Q hQ z z0 h3 h4, put_order P Q y z y0 z0 h1 h2 h3 h4⟩
    · exact .inl (.inr h.1)
  · exact .inl (.inl h.1)

end Go.Proofs.YtdaofffedfccmaaDoor.ClockP
