/- inflate: awake It has no conditions. -/
import Derived.Test.YtmanmjjjepdhlaaYIC
import Derived.BigRegion
import Derived.RegionTactic
import Derived.ChangeAlike
import Derived.Deep.RegionWith
import Derived.Deep.RegionLaw
import Derived.Laws.Tables
import Derived.Deep.QuietTactic
import Derived.BigQuiet
import Derived.Deep.RegionHeld3
import Derived.Deep.AppendLies
import Derived.Deep.DrawnRows
import Derived.Laws.CopyOwn
import Derived.Deep.MidRow
import Derived.Laws.ResultCell
import Derived.ChangeKeysEq
import Derived.Laws.BitsAllLaws
namespace Go.Proofs.Ytmanmjjjepdhlaa.XPrefix
set_option linter.unusedVariables false
set_option linter.unusedSimpArgs false
open Go.RowKit Go.Proofs.YtmanmjjjepdhlaaW.PrintWords Go.Proofs.YtmanmjjjepdhlaaW.PrintLast Go.Proofs.YtmanmjjjepdhlaaW.PrintMore
attribute [local go_sem] max2_int min2_int max_two min_two max_three min_three max_four min_four
open XInflateAny XTok
/-! The program answers: a few streams. -/
theorem readA_fix : readA fixA 0 3 16 3 = (256, 0, 10, false) := by decide +kernel
theorem dec_plain (most : Int) : decS ⟨#[3, 0]⟩ 3 most = .ok (10, [], [1]) := by
 have hc : codedS fixA fixB 3 16 (mostS most) 17 3 [] = .ok (10, []) := by
  rw [codedS, (kS_of fixA_ok).1, readA_fix]
  rfl
 show streamS 3 16 (mostS most) 17 0 [] [] = _
 rw [streamS, if_neg (by decide)]
 have hb : bodyS 3 16 (mostS most) (3 / 2 ^ (0 + 1) % 2 ^ 2) (0 + 3) [] = .ok (10, []) := hc
 rw [hb]
 rfl
theorem dec_none : decS ⟨#[]⟩ 0 9 = .error 3 := rfl
theorem dec_stored : decS ⟨#[1, 2, 0, 253, 255, 97, 98]⟩ 27692299806835201 2 = .ok (56, [97, 98], [0]) := by
 show streamS 27692299806835201 56 2 57 0 [] [] = _
 rw [streamS, if_neg (by decide)]
 have hb : bodyS 27692299806835201 56 2 (27692299806835201 / 2 ^ (0 + 1) % 2 ^ 2) (0 + 3) [] = .ok (56, [97, 98]) := by
  show storedS 27692299806835201 56 2 3 [] = _
  kernel_rfl
 rw [hb]
 show (if 27692299806835201 / 2 ^ 0 % 2 ^ 1 = 1 then Except.ok (56, [97, 98], [] ++ [((27692299806835201 / 2 ^ (0 + 1) % 2 ^ 2 : Nat) : Int)]) else _) = _
 rw [if_pos (by decide)]
 rfl
theorem isZ_plain : IsZ ⟨#[3, 0]⟩ 3 := ⟨by decide, by decide +kernel⟩
theorem isZ_none : IsZ ⟨#[]⟩ 0 := ⟨by decide, fun i h => absurd h (Nat.not_lt_zero _)⟩
theorem isZ_stored : IsZ ⟨#[1, 2, 0, 253, 255, 97, 98]⟩ 27692299806835201 := ⟨by decide, by decide +kernel⟩
set_option maxHeartbeats 1600000 in
set_option maxRecDepth 100000 in
theorem inflate_awake (w : World) : Calls Try.prog 22 #[] w fun e w' => e = .returned (.bool true) ∧ Below w.heap.size w w' := by
 have H1 := Aside0.mk (fun W => show Calls Try.prog 23 #[.string ⟨#[3, 0]⟩, .int .i64 9] W fun e w' => e = .returned (.tuple #[.string ⟨#[]⟩, .int .i64 2, .int .i64 0]) ∧ Below W.heap.size W w' from by
  have := stream_calls ⟨#[3, 0]⟩ 3 9 W isZ_plain
  rw [dec_plain] at this
  exact this)
 have H2 := Aside0.mk (fun W => show Calls Try.prog 25 #[.string ⟨#[1, 2, 0, 253, 255, 97, 98]⟩, .int .i64 2] W fun e w' => e = .returned (.tuple #[.string ⟨#[97, 98]⟩, .int .i64 0]) ∧ Below W.heap.size W w' from by
  have := all_calls ⟨#[1, 2, 0, 253, 255, 97, 98]⟩ 27692299806835201 2 W isZ_stored
  rw [dec_stored] at this
  exact this)
 have H3 := Aside0.mk (fun W => show Calls Try.prog 27 #[.string ⟨#[3, 0]⟩, .int .i64 0] W fun e w' => ∃ v, e = .returned (.tuple #[v, .int .i64 0]) ∧ Kd.R (Kd.int .i64) 3 w' W.heap.size (fun _ => True) v [1] ∧ Below W.heap.size W w' from by
  have := blocks_calls ⟨#[3, 0]⟩ 3 0 W isZ_plain
  rw [dec_plain] at this
  exact this)
 have H4 := Aside0.mk (fun W => show Calls Try.prog 23 #[.string ⟨#[]⟩, .int .i64 9] W fun e w' => e = .returned (.tuple #[.string ⟨#[]⟩, .int .i64 0, .int .i64 3]) ∧ Below W.heap.size W w' from by
  have := stream_calls ⟨#[]⟩ 0 9 W isZ_none
  rw [dec_none] at this
  exact this)
 go_enter Try.func22, Try.ntmps22
 go_wp2_with fail
 refine (H1.out _).mono ?_
 rintro e w1 ⟨rfl, hb⟩
 have B1 := Aside0.mk hb
 clear hb H1
 go_wp2_with fail
 refine (H2.out _).mono ?_
 rintro e w2 ⟨rfl, hb⟩
 have B2 := Aside0.mk (below_step B1.out hb)
 clear hb H2 B1
 go_wp2_with fail
 refine (H3.out _).mono ?_
 rintro e w3 ⟨v, rfl, hR, hb⟩
 have B3 := Aside0.mk (below_step B2.out hb)
 have R3 := Aside0.mk hR
 clear hb H3 B2 hR
 go_wp2_with fail
 refine (H4.out _).mono ?_
 rintro e w4 ⟨rfl, hb⟩
 have B4 := Aside0.mk (below_step B3.out hb)
 have R4 := Aside0.mk (Kd.R_below R3.out hb)
 clear hb H4 B3 R3
 obtain ⟨g, c, rfl, _, _, _, _⟩ := Kd.R_form R4.out (by decide)
 obtain ⟨hx, _⟩ := Kd.R_celln 0 R4.out (0 : Int) (by decide) (by decide)
 replace hx : w4.cell? ⟨g, 0, none⟩ = some (.int .i64 1) := hx.trans rfl
 rw [show ([1] : List Int).length = 1 from rfl]
 go_wp2
 go_ret
 exact ⟨rfl, B4.out⟩
end Go.Proofs.Ytmanmjjjepdhlaa.XPrefix
