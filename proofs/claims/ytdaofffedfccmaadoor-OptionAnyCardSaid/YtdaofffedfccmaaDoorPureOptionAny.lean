/- This text proves the statement over numbers and lists that the functions of the law OptionAny come to. It has no conditions. -/
import Derived.Test.YtdaofffedfccmaaDoorXOptionAnyx4
import Derived.Test.YtdaofffedfccmaaDoorYOpt2
namespace Go.Proofs.YtdaofffedfccmaaDoor.Pure
open Go.RowKit Go.Proofs.YtdaofffedfccmaaDoor.XOptionAny Go.Proofs.YtdaofffedfccmaaDoorW.PrintWords Go.Proofs.YtdaofffedfccmaaDoorW.PrintLast Go.Proofs.YtdaofffedfccmaaDoorW.PrintMore
set_option linter.unusedVariables false
set_option linter.unusedSimpArgs false

open OptP
theorem awake_f : montagelaw31_awake.f = some true := by kernel_rfl
theorem opt_parse (l : List ByteArray) (hl : l.length ≤ 1000) (hz : ∀ s ∈ l, s.size ≤ 1000) : option_Parse.f l = some (XGlob.parseL l (1, false, false, false, 4194304, [])) := by
  unfold option_Parse.f
  rw [if_pos ⟨hl, List.all_eq_true.2 fun s hs => decide_eq_true (hz s hs)⟩]
theorem any_l0 (l : List ByteArray) (hl : l.length ≤ 10) : ∀ (e i : Nat), i + e = l.length → (∀ s ∈ l.take i, s.size ≤ 30) → Ev (fun k => montagelaw31_OptionAny.l0 k l l (l.length : Int) (i : Int)) true := by
  intro e
  induction e with
  | zero =>
    intro i hi hs
    have hz : ∀ s ∈ l, s.size ≤ 1000 := by
      intro s h
      rw [List.take_of_length_le (by omega)] at hs
      exact Nat.le_trans (hs s h) (by decide)
    obtain ⟨⟨r1, r2, r3, r4, r5, r6⟩, hr⟩ : ∃ t, XGlob.parseL l (1, false, false, false, 4194304, []) = t := ⟨_, rfl⟩
    have hp := parse_ev l (by omega) hz
    have ho := opt_parse l (by omega) hz
    rw [hr] at hp ho
    refine Ev.step (f := fun k => (montageref31_Parse.f k l).bind fun bt174 => (if (r1 == bt174.1 && (r2 == bt174.2.1 && (r3 == bt174.2.2.1 && (r4 == bt174.2.2.2.1 && (r5 == bt174.2.2.2.2.1))))) = true then (some (r6 == bt174.2.2.2.2.2)) else (some false))) (fun k => ?_) (Ev.bind hp ?_)
    · rw [montagelaw31_OptionAny.l0, if_neg (by omega), ho]
      rfl
    · refine Ev.congr (fun k => ?_) (Ev.now _)
      simp
  | succ e ih =>
    intro i hi hs
    have hlt : i < l.length := by omega
    have hx : rdOf ByteArray.empty l (i : Int) = l[i] := rd_at _ _ _ _ (List.getElem?_eq_getElem hlt)
    by_cases h30 : (l[i].size : Int) > 30
    · refine Ev.step (f := fun _ => some true) (fun k => ?_) (Ev.now _)
      rw [montagelaw31_OptionAny.l0, if_pos (by omega), if_pos (by omega), if_pos (by omega), hx, if_pos h30]
    · refine Ev.step (f := fun k => montagelaw31_OptionAny.l0 k l l (l.length : Int) ((i + 1 : Nat) : Int)) (fun k => ?_) (ih (i + 1) (by omega) ?_)
      · rw [montagelaw31_OptionAny.l0, if_pos (by omega), if_pos (by omega), if_pos (by omega), hx, if_neg h30, wn5 i (by omega)]
      · intro s h
        rw [List.take_add_one, List.mem_append] at h
        rcases h with h | h
        · exact hs s h
        · rw [List.getElem?_eq_getElem hlt] at h
          have : s = l[i] := by simpa using h
          subst this
          omega
theorem OptionAny : montagelaw31_OptionAny.Pure := by
  intro l _ _ _
  refine Ev.rounds (g := fun k => montagelaw31_OptionAny.f k l) ?_
  by_cases h : (l.length : Int) > 10
  · refine Ev.congr (f := fun _ => some true) (fun k => ?_) (Ev.now _)
    unfold montagelaw31_OptionAny.f
    rw [awake_f, Option.bind_some, if_pos rfl, if_pos h]
  · refine Ev.congr (fun k => ?_) (any_l0 l (by omega) l.length 0 (by omega) (by intro s hs; simp at hs))
    unfold montagelaw31_OptionAny.f
    rw [awake_f, Option.bind_some, if_pos rfl, if_neg h]
    rfl

end Go.Proofs.YtdaofffedfccmaaDoor.Pure
