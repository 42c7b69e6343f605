/- inflate: awake It has no conditions. -/
import Derived.Test.YtmanmjjjepdhlaaYIC
import Derived.BigRegion
import Derived.RegionTactic
import Derived.ChangeAlike
import Derived.Deep.RegionWith
import Derived.Deep.RegionLaw
import Derived.Laws.Tables
import Derived.Deep.QuietTactic
import Derived.BigQuiet
import Derived.Deep.RegionHeld3
import Derived.Deep.AppendLies
import Derived.Deep.DrawnRows
import Derived.Laws.CopyOwn
import Derived.Deep.MidRow
import Derived.Laws.ResultCell
import Derived.ChangeKeysEq
import Derived.Laws.BitsAllLaws
namespace Go.Proofs.Ytmanmjjjepdhlaa.XPrefix
set_option linter.unusedVariables false
set_option linter.unusedSimpArgs false
open Go.RowKit Go.Proofs.YtmanmjjjepdhlaaW.PrintWords Go.Proofs.YtmanmjjjepdhlaaW.PrintLast Go.Proofs.YtmanmjjjepdhlaaW.PrintMore
attribute [local go_sem] max2_int min2_int max_two min_two max_three min_three max_four min_four

open XInflateAny XTok
theorem ints_same_l0 (l : List Int) (hl : l.length ≤ 100000) : ∀ d i : Nat, l.length - i = d → i ≤ l.length → Ev (fun k => montagelaw08_ints.l0 k l l (l.length : Int) (i : Int)) true := by
  intro d
  induction d with
  | zero =>
    intro i hd hi
    refine Ev.step (f := fun _ => some true) (fun k => ?_) (Ev.now _)
    simp only [montagelaw08_ints.l0]
    rw [if_neg (by omega)]
  | succ d ih =>
    intro i hd hi
    have h := ih (i + 1) (by omega) (by omega)
    refine Ev.step (fun k => ?_) h
    simp only [montagelaw08_ints.l0]
    rw [if_pos (by omega), if_pos (by omega), if_pos (by omega), if_pos (by omega), if_pos trivial, w64 (by omega) (by omega)]
    rfl
theorem ints_same (l : List Int) (hl : l.length ≤ 100000) : ∃ k, montagelaw08_ints.f k l l = some true := by
  have := ints_same_l0 l hl l.length 0 (by omega) (by omega)
  obtain ⟨k, hk⟩ := this.rounds
  exact ⟨k, by unfold montagelaw08_ints.f; rw [if_pos rfl]; exact hk⟩
theorem streamS_ks {Z M : Nat} {most : Int} : ∀ (f p : Nat) (out ks : List Int) (q : Nat) (o2 k2 : List Int), streamS Z M most f p out ks = .ok (q, o2, k2) → k2.length ≤ ks.length + f
  | 0, p, out, ks, q, o2, k2, h => by rw [streamS] at h; injection h with h; injection h with _ h; injection h with _ h; rw [← h]; omega
  | f + 1, p, out, ks, q, o2, k2, h => by
    rw [streamS] at h
    by_cases h1 : M < p + 3
    · rw [if_pos h1] at h; cases h
    rw [if_neg h1] at h
    obtain ⟨B, hB⟩ : ∃ B, bodyS Z M most (Z / 2 ^ (p + 1) % 2 ^ 2) (p + 3) out = B := ⟨_, rfl⟩
    rw [hB] at h
    rcases B with e | ⟨r, o⟩
    · cases h
    change (if Z / 2 ^ p % 2 ^ 1 = 1 then Except.ok (r, o, ks ++ [((Z / 2 ^ (p + 1) % 2 ^ 2 : Nat) : Int)]) else streamS Z M most f r o (ks ++ [((Z / 2 ^ (p + 1) % 2 ^ 2 : Nat) : Int)])) = .ok (q, o2, k2) at h
    by_cases h2 : Z / 2 ^ p % 2 ^ 1 = 1
    · rw [if_pos h2] at h
      injection h with h; injection h with _ h; injection h with _ h
      rw [← h, List.length_append]
      simp
    · rw [if_neg h2] at h
      have := streamS_ks f r o _ q o2 k2 h
      rw [List.length_append] at this
      simp at this
      omega
theorem kindS_len (S : ByteArray) (Z : Nat) (most : Int) (hS : S.size ≤ 10000) : (kindS (decS S Z most)).1.length ≤ 100000 := by
  obtain ⟨R, hR⟩ : ∃ R, decS S Z most = R := ⟨_, rfl⟩
  rw [hR]
  rcases R with e | ⟨q, o, k⟩
  · exact Nat.zero_le _
  · have := streamS_ks _ _ _ _ _ _ _ hR
    simp at this
    show k.length ≤ _
    omega
/-! The program answers: a few streams. -/
theorem readA_fix : readA fixA 0 3 16 3 = (256, 0, 10, false) := by decide +kernel
theorem dec_plain (most : Int) : decS ⟨#[3, 0]⟩ 3 most = .ok (10, [], [1]) := by
  have hc : codedS fixA fixB 3 16 (mostS most) 17 3 [] = .ok (10, []) := by
    rw [codedS, (kS_of fixA_ok).1, readA_fix]
    rfl
  show streamS 3 16 (mostS most) 17 0 [] [] = _
  rw [streamS, if_neg (by decide)]
  have hb : bodyS 3 16 (mostS most) (3 / 2 ^ (0 + 1) % 2 ^ 2) (0 + 3) [] = .ok (10, []) := hc
  rw [hb]
  rfl
theorem dec_none : decS ⟨#[]⟩ 0 9 = .error 3 := rfl
theorem dec_stored : decS ⟨#[1, 2, 0, 253, 255, 97, 98]⟩ 27692299806835201 2 = .ok (56, [97, 98], [0]) := by
  show streamS 27692299806835201 56 2 57 0 [] [] = _
  rw [streamS, if_neg (by decide)]
  have hb : bodyS 27692299806835201 56 2 (27692299806835201 / 2 ^ (0 + 1) % 2 ^ 2) (0 + 3) [] = .ok (56, [97, 98]) := by
    show storedS 27692299806835201 56 2 3 [] = _
    kernel_rfl
  rw [hb]
  show (if 27692299806835201 / 2 ^ 0 % 2 ^ 1 = 1 then Except.ok (56, [97, 98], [] ++ [((27692299806835201 / 2 ^ (0 + 1) % 2 ^ 2 : Nat) : Int)]) else _) = _
  rw [if_pos (by decide)]
  rfl
theorem isZ_plain : IsZ ⟨#[3, 0]⟩ 3 := ⟨by decide, by decide +kernel⟩
theorem isZ_none : IsZ ⟨#[]⟩ 0 := ⟨by decide, fun i h => absurd h (Nat.not_lt_zero _)⟩
theorem isZ_stored : IsZ ⟨#[1, 2, 0, 253, 255, 97, 98]⟩ 27692299806835201 := ⟨by decide, by decide +kernel⟩
set_option maxHeartbeats 1600000 in
set_option maxRecDepth 100000 in
theorem inflate_awake (w : World) : Calls Try.prog 22 #[] w fun e w' => e = .returned (.bool true) ∧ Below w.heap.size w w' := by
  have H1 := Aside0.mk (fun W => show Calls Try.prog 23 #[.string ⟨#[3, 0]⟩, .int .i64 9] W fun e w' => e = .returned (.tuple #[.string ⟨#[]⟩, .int .i64 2, .int .i64 0]) ∧ Below W.heap.size W w' from by
    have := stream_calls ⟨#[3, 0]⟩ 3 9 W isZ_plain
    rw [dec_plain] at this
    exact this)
  have H2 := Aside0.mk (fun W => show Calls Try.prog 25 #[.string ⟨#[1, 2, 0, 253, 255, 97, 98]⟩, .int .i64 2] W fun e w' => e = .returned (.tuple #[.string ⟨#[97, 98]⟩, .int .i64 0]) ∧ Below W.heap.size W w' from by
    have := all_calls ⟨#[1, 2, 0, 253, 255, 97, 98]⟩ 27692299806835201 2 W isZ_stored
    rw [dec_stored] at this
    exact this)
  have H3 := Aside0.mk (fun W => show Calls Try.prog 27 #[.string ⟨#[3, 0]⟩, .int .i64 0] W fun e w' => ∃ v, e = .returned (.tuple #[v, .int .i64 0]) ∧ Kd.R (Kd.int .i64) 3 w' W.heap.size (fun _ => True) v [1] ∧ Below W.heap.size W w' from by
    have := blocks_calls ⟨#[3, 0]⟩ 3 0 W isZ_plain
    rw [dec_plain] at this
    exact this)
  have H4 := Aside0.mk (fun W => show Calls Try.prog 23 #[.string ⟨#[]⟩, .int .i64 9] W fun e w' => e = .returned (.tuple #[.string ⟨#[]⟩, .int .i64 0, .int .i64 3]) ∧ Below W.heap.size W w' from by
    have := stream_calls ⟨#[]⟩ 0 9 W isZ_none
    rw [dec_none] at this
    exact this)
  go_enter Try.func22, Try.ntmps22
  go_wp2_with fail
  refine (H1.out _).mono ?_
  rintro e w1 ⟨rfl, hb⟩
  have B1 := Aside0.mk hb
  clear hb H1
  go_wp2_with fail
  refine (H2.out _).mono ?_
  rintro e w2 ⟨rfl, hb⟩
  have B2 := Aside0.mk (below_step B1.out hb)
  clear hb H2 B1
  go_wp2_with fail
  refine (H3.out _).mono ?_
  rintro e w3 ⟨v, rfl, hR, hb⟩
  have B3 := Aside0.mk (below_step B2.out hb)
  have R3 := Aside0.mk hR
  clear hb H3 B2 hR
  go_wp2_with fail
  refine (H4.out _).mono ?_
  rintro e w4 ⟨rfl, hb⟩
  have B4 := Aside0.mk (below_step B3.out hb)
  have R4 := Aside0.mk (Kd.R_below R3.out hb)
  clear hb H4 B3 R3
  obtain ⟨g, c, rfl, _, _, _, _⟩ := Kd.R_form R4.out (by decide)
  obtain ⟨hx, _⟩ := Kd.R_celln 0 R4.out (0 : Int) (by decide) (by decide)
  replace hx : w4.cell? ⟨g, 0, none⟩ = some (.int .i64 1) := hx.trans rfl
  rw [show ([1] : List Int).length = 1 from rfl]
  go_wp2
  go_ret
  exact ⟨rfl, B4.out⟩

end Go.Proofs.Ytmanmjjjepdhlaa.XPrefix
