/- This text proves the statement over numbers and lists that the functions of the law GlobFits come to. It has no conditions. -/
import Derived.Test.YtdaofffedfccmaaDoorXGlobFitsx7
import Derived.Test.YtdaofffedfccmaaDoorYGlob5
namespace Go.Proofs.YtdaofffedfccmaaDoor.Pure
open Go.RowKit Go.Proofs.YtdaofffedfccmaaDoor.XGlobFits Go.Proofs.YtdaofffedfccmaaDoorW.PrintWords Go.Proofs.YtdaofffedfccmaaDoorW.PrintLast Go.Proofs.YtdaofffedfccmaaDoorW.PrintMore
set_option linter.unusedVariables false
set_option linter.unusedSimpArgs false

open XGlob
theorem awake_ev : Ev (fun k => montagelaw37_awake.f k) true := Ev.of (fun k => montagelaw37_awake.mono k) (k := 30) (by kernel_rfl)
theorem GlobFits : montagelaw37_GlobFits.Pure := by
  intro p s _ _
  refine Ev.rounds (r := true) ?_
  unfold montagelaw37_GlobFits.f
  refine Ev.bind (f := fun k (t215 : Bool) => (if t215 = true then (if (p.size : Int) > 60 then (montagelaw37_GlobFits.j0 k p s true) else (montagelaw37_GlobFits.j0 k p s (decide ((s.size : Int) > 60)))) else (some false))) awake_ev ?_
  by_cases hbig : 60 < p.size ∨ 60 < s.size
  · refine Ev.congr (f := fun k => montagelaw37_GlobFits.j0 k p s true) (fun k => ?_) (Ev.step (f := fun _ => some true) (fun k => ?_) (Ev.now _))
    · rw [if_pos rfl]
      by_cases h : (p.size : Int) > 60
      · rw [if_pos h]
      · rw [if_neg h, decide_eq_true (by omega)]
    · simp only [montagelaw37_GlobFits.j0]
      rw [if_pos trivial]
  · obtain ⟨rs, b, h1, h2, h3, h4, h5⟩ := glob_all p (by omega)
    obtain ⟨f1, f2⟩ := h5 s (by omega)
    obtain ⟨r, ok, hb⟩ := both_any p (by omega)
    obtain ⟨q1, q2⟩ := part_both p s (by omega) (by omega) hb
    generalize (b && fitsB (partsB p) (partsB s) (rs.map (·.1))) = c at f1 f2
    generalize (ok && pfitB r s) = d at q1 q2
    refine Ev.congr (f := fun k => montagelaw37_GlobFits.j0 k p s false) (fun k => ?_) (Ev.step (f := fun k => (glob_Check.f k p).bind fun t216 => ((montageref37_Right.f k p).bind fun t217 => (if ((t216 == 0) == t217) = true then ((montageref37_Right.f k p).bind fun t218 => (if ((t216 == 2) != t218) = true then ((glob_Fits.f k p s).bind fun t219 => ((montageref37_Fits.f k p s).bind fun t220 => (if (t219 == t220) = true then ((glob_Part.f k p s).bind fun t221 => ((montageref37_Part.f k p s).bind fun t222 => (some (t221 == t222)))) else (some false)))) else (some false))) else (some false)))) (fun k => ?_) ?_)
    · rw [if_pos rfl, if_neg (by omega), decide_eq_false (by omega)]
    · simp only [montagelaw37_GlobFits.j0]
      rw [if_neg (by simp)]
    · have e6 : Ev (fun k => (glob_Part.f k p s).bind fun t221 => ((montageref37_Part.f k p s).bind fun t222 => (some (t221 == t222)))) true := by
        refine Ev.bind (f := fun k t221 => ((montageref37_Part.f k p s).bind fun t222 => (some (t221 == t222)))) q2 ?_
        refine Ev.bind (f := fun k t222 => some (d == t222)) q1 ?_
        rw [beq_self_eq_true]
        exact Ev.now _
      have e5 : Ev (fun k => (glob_Fits.f k p s).bind fun t219 => ((montageref37_Fits.f k p s).bind fun t220 => (if (t219 == t220) = true then ((glob_Part.f k p s).bind fun t221 => ((montageref37_Part.f k p s).bind fun t222 => (some (t221 == t222)))) else (some false)))) true := by
        refine Ev.bind (f := fun k t219 => ((montageref37_Fits.f k p s).bind fun t220 => (if (t219 == t220) = true then ((glob_Part.f k p s).bind fun t221 => ((montageref37_Part.f k p s).bind fun t222 => (some (t221 == t222)))) else (some false)))) f1 ?_
        refine Ev.bind (f := fun k t220 => (if (c == t220) = true then ((glob_Part.f k p s).bind fun t221 => ((montageref37_Part.f k p s).bind fun t222 => (some (t221 == t222)))) else (some false))) f2 ?_
        refine Ev.congr (fun k => ?_) e6
        rw [beq_self_eq_true, if_pos rfl]
      refine Ev.bind (f := fun k t216 => ((montageref37_Right.f k p).bind fun t217 => (if ((t216 == 0) == t217) = true then ((montageref37_Right.f k p).bind fun t218 => (if ((t216 == 2) != t218) = true then ((glob_Fits.f k p s).bind fun t219 => ((montageref37_Fits.f k p s).bind fun t220 => (if (t219 == t220) = true then ((glob_Part.f k p s).bind fun t221 => ((montageref37_Part.f k p s).bind fun t222 => (some (t221 == t222)))) else (some false)))) else (some false))) else (some false)))) h2 ?_
      refine Ev.bind (f := fun k t217 => (if (((if b = true then (0 : Int) else 2) == 0) == t217) = true then ((montageref37_Right.f k p).bind fun t218 => (if (((if b = true then (0 : Int) else 2) == 2) != t218) = true then ((glob_Fits.f k p s).bind fun t219 => ((montageref37_Fits.f k p s).bind fun t220 => (if (t219 == t220) = true then ((glob_Part.f k p s).bind fun t221 => ((montageref37_Part.f k p s).bind fun t222 => (some (t221 == t222)))) else (some false)))) else (some false))) else (some false))) h3 ?_
      refine Ev.congr (f := fun k => (montageref37_Right.f k p).bind fun t218 => (if (((if b = true then (0 : Int) else 2) == 2) != t218) = true then ((glob_Fits.f k p s).bind fun t219 => ((montageref37_Fits.f k p s).bind fun t220 => (if (t219 == t220) = true then ((glob_Part.f k p s).bind fun t221 => ((montageref37_Part.f k p s).bind fun t222 => (some (t221 == t222)))) else (some false)))) else (some false))) (fun k => ?_) ?_
      · rw [if_pos (by cases b <;> rfl)]
      · refine Ev.bind (f := fun k t218 => (if (((if b = true then (0 : Int) else 2) == 2) != t218) = true then ((glob_Fits.f k p s).bind fun t219 => ((montageref37_Fits.f k p s).bind fun t220 => (if (t219 == t220) = true then ((glob_Part.f k p s).bind fun t221 => ((montageref37_Part.f k p s).bind fun t222 => (some (t221 == t222)))) else (some false)))) else (some false))) h3 ?_
        refine Ev.congr (fun k => ?_) e5
        rw [if_pos (by cases b <;> rfl)]

end Go.Proofs.YtdaofffedfccmaaDoor.Pure
