-- Written by this session's own program wip/xprint.py: a changed copy of the kit's print.
import Derived.Test.YtlgdjacgdflfaaaXTokenSymbolsx0
import Derived.Test.YtlgdjacgdflfaaaXTokenSymbolsx2
import Derived.Test.YtlgdjacgdflfaaaXTokenSymbolsx3
namespace Go.Proofs.Ytlgdjacgdflfaaa.XTokenSymbols
open Go.RowKit Go.Proofs.YtlgdjacgdflfaaaW.PrintWords Go.Proofs.YtlgdjacgdflfaaaW.PrintLast Go.Proofs.YtlgdjacgdflfaaaW.PrintMore
attribute [local go_sem] max2_int min2_int max_two min_two max_three min_three max_four min_four   -- for this text's walks alone
set_option linter.unusedVariables false
set_option linter.unusedSimpArgs false

/-! ### montagelaw07_TokenSymbols: function 4 -/
def montagelaw07_TokenSymbols.j0 : Nat → Int → Int → Int → Int → Bool → Int → Int → Bool → Bool → Option (Bool)
  | 0, _, _, _, _, _, _, _, _, _ => none
  | k + 1, x0, x1, x5, x7, x8, x13, x15, x16, x92 => if x92 = true then (some false) else ((token_LengthOf.f k x5 x7).bind fun bt190 => ((token_DistanceOf.f k x13 x15).bind fun bt192 => (if x8 = true then (if bt190.1 = x0 then (if bt190.2 = true then (if x16 = true then (if bt192.1 = x1 then (some bt192.2) else (some false)) else (some true)) else (some false)) else (some false)) else (if x16 = true then (if bt192.1 = x1 then (some bt192.2) else (some false)) else (some true)))))
def montagelaw07_TokenSymbols.f (k : Nat) (a0 : Int) (a1 : Int) : Option (Bool) := (montagelaw07_awake.f k).bind fun t173 => (if t173 = true then ((token_Length.f k a0).bind fun bt174 => ((montageref07_Length.f k a0).bind fun bt178 => ((token_Distance.f k a1).bind fun bt182 => ((montageref07_Distance.f k a1).bind fun bt186 => (if bt174.1 = bt178.1 then (if bt174.2.1 = bt178.2.1 then (if bt174.2.2.1 = bt178.2.2.1 then (if (bt174.2.2.2 != bt178.2.2.2) = true then (montagelaw07_TokenSymbols.j0 k a0 a1 bt174.1 bt174.2.2.1 bt174.2.2.2 bt182.1 bt182.2.2.1 bt182.2.2.2 true) else (if bt182.1 = bt186.1 then (if bt182.2.1 = bt186.2.1 then (if bt182.2.2.1 = bt186.2.2.1 then (montagelaw07_TokenSymbols.j0 k a0 a1 bt174.1 bt174.2.2.1 bt174.2.2.2 bt182.1 bt182.2.2.1 bt182.2.2.2 (bt182.2.2.2 != bt186.2.2.2)) else (montagelaw07_TokenSymbols.j0 k a0 a1 bt174.1 bt174.2.2.1 bt174.2.2.2 bt182.1 bt182.2.2.1 bt182.2.2.2 true)) else (montagelaw07_TokenSymbols.j0 k a0 a1 bt174.1 bt174.2.2.1 bt174.2.2.2 bt182.1 bt182.2.2.1 bt182.2.2.2 true)) else (montagelaw07_TokenSymbols.j0 k a0 a1 bt174.1 bt174.2.2.1 bt174.2.2.2 bt182.1 bt182.2.2.1 bt182.2.2.2 true))) else (montagelaw07_TokenSymbols.j0 k a0 a1 bt174.1 bt174.2.2.1 bt174.2.2.2 bt182.1 bt182.2.2.1 bt182.2.2.2 true)) else (montagelaw07_TokenSymbols.j0 k a0 a1 bt174.1 bt174.2.2.1 bt174.2.2.2 bt182.1 bt182.2.2.1 bt182.2.2.2 true)) else (montagelaw07_TokenSymbols.j0 k a0 a1 bt174.1 bt174.2.2.1 bt174.2.2.2 bt182.1 bt182.2.2.1 bt182.2.2.2 true)))))) else (some false))
theorem montagelaw07_TokenSymbols.mono_l : ∀ k, (∀ y0 y1 y2 y3 y4 y5 y6 y7 y8, LeO (montagelaw07_TokenSymbols.j0 k y0 y1 y2 y3 y4 y5 y6 y7 y8) (montagelaw07_TokenSymbols.j0 (k + 1) y0 y1 y2 y3 y4 y5 y6 y7 y8))
  | 0 => fun _ _ _ _ _ _ _ _ _ r h => by simp [montagelaw07_TokenSymbols.j0] at h
  | k + 1 => by
    have ih0 := montagelaw07_TokenSymbols.mono_l k
    · intro y0 y1 y2 y3 y4 y5 y6 y7 y8
      unfold montagelaw07_TokenSymbols.j0
      repeat' first
      | (with_reducible exact ih0 _ _ _ _ _ _ _ _ _)
      | (with_reducible exact montagelaw07_awake.mono _)
      | (with_reducible exact montageref07_Distance.mono _ _)
      | (with_reducible exact montageref07_Length.mono _ _)
      | (with_reducible exact token_Distance.mono _ _)
      | (with_reducible exact token_DistanceOf.mono _ _ _)
      | (with_reducible exact token_Length.mono _ _)
      | (with_reducible exact token_LengthOf.mono _ _ _)
      | (with_reducible exact LeO.refl _)
      | (with_reducible exact LeO.none _)
      | (with_reducible refine LeO.ite ?_ ?_)
      | (with_reducible refine LeO.bind ?_ (fun _ => ?_))
      | exact ih0 _ _ _ _ _ _ _ _ _
      | exact montagelaw07_awake.mono _
      | exact montageref07_Distance.mono _ _
      | exact montageref07_Length.mono _ _
      | exact token_Distance.mono _ _
      | exact token_DistanceOf.mono _ _ _
      | exact token_Length.mono _ _
      | exact token_LengthOf.mono _ _ _
      | exact LeO.none _
      | refine LeO.ite ?_ ?_
      | refine LeO.bind ?_ (fun _ => ?_)
theorem montagelaw07_TokenSymbols.mono : ∀ a0 a1 k, LeO (montagelaw07_TokenSymbols.f k a0 a1) (montagelaw07_TokenSymbols.f (k + 1) a0 a1) := by
  intro a0 a1 k
  have ih0 := montagelaw07_TokenSymbols.mono_l k
  unfold montagelaw07_TokenSymbols.f
  repeat' first
      | (with_reducible exact ih0 _ _ _ _ _ _ _ _ _)
      | (with_reducible exact montagelaw07_awake.mono _)
      | (with_reducible exact montageref07_Distance.mono _ _)
      | (with_reducible exact montageref07_Length.mono _ _)
      | (with_reducible exact token_Distance.mono _ _)
      | (with_reducible exact token_DistanceOf.mono _ _ _)
      | (with_reducible exact token_Length.mono _ _)
      | (with_reducible exact token_LengthOf.mono _ _ _)
      | (with_reducible exact LeO.refl _)
      | (with_reducible exact LeO.none _)
      | (with_reducible refine LeO.ite ?_ ?_)
      | (with_reducible refine LeO.bind ?_ (fun _ => ?_))
      | exact ih0 _ _ _ _ _ _ _ _ _
      | exact montagelaw07_awake.mono _
      | exact montageref07_Distance.mono _ _
      | exact montageref07_Length.mono _ _
      | exact token_Distance.mono _ _
      | exact token_DistanceOf.mono _ _ _
      | exact token_Length.mono _ _
      | exact token_LengthOf.mono _ _ _
      | exact LeO.none _
      | refine LeO.ite ?_ ?_
      | refine LeO.bind ?_ (fun _ => ?_)
set_option maxHeartbeats 8000000 in
set_option maxRecDepth 100000 in
theorem montagelaw07_TokenSymbols.calls (k : Nat) (a0 : Int) (a1 : Int) (r : Bool) (w : World) (h : montagelaw07_TokenSymbols.f k a0 a1 = some r) :
    Calls Try.prog 4 #[.int .i64 a0, .int .i64 a1] w fun e w' => e = .returned (.bool r) ∧ Below w.heap.size w w' := by
  have HB := Aside0.mk (Below.refl w.heap.size w)
  have H : ((montagelaw07_awake.f k).bind fun t173 => (if t173 = true then ((token_Length.f k a0).bind fun bt174 => ((montageref07_Length.f k a0).bind fun bt178 => ((token_Distance.f k a1).bind fun bt182 => ((montageref07_Distance.f k a1).bind fun bt186 => (if bt174.1 = bt178.1 then (if bt174.2.1 = bt178.2.1 then (if bt174.2.2.1 = bt178.2.2.1 then (if (bt174.2.2.2 != bt178.2.2.2) = true then (montagelaw07_TokenSymbols.j0 k a0 a1 bt174.1 bt174.2.2.1 bt174.2.2.2 bt182.1 bt182.2.2.1 bt182.2.2.2 true) else (if bt182.1 = bt186.1 then (if bt182.2.1 = bt186.2.1 then (if bt182.2.2.1 = bt186.2.2.1 then (montagelaw07_TokenSymbols.j0 k a0 a1 bt174.1 bt174.2.2.1 bt174.2.2.2 bt182.1 bt182.2.2.1 bt182.2.2.2 (bt182.2.2.2 != bt186.2.2.2)) else (montagelaw07_TokenSymbols.j0 k a0 a1 bt174.1 bt174.2.2.1 bt174.2.2.2 bt182.1 bt182.2.2.1 bt182.2.2.2 true)) else (montagelaw07_TokenSymbols.j0 k a0 a1 bt174.1 bt174.2.2.1 bt174.2.2.2 bt182.1 bt182.2.2.1 bt182.2.2.2 true)) else (montagelaw07_TokenSymbols.j0 k a0 a1 bt174.1 bt174.2.2.1 bt174.2.2.2 bt182.1 bt182.2.2.1 bt182.2.2.2 true))) else (montagelaw07_TokenSymbols.j0 k a0 a1 bt174.1 bt174.2.2.1 bt174.2.2.2 bt182.1 bt182.2.2.1 bt182.2.2.2 true)) else (montagelaw07_TokenSymbols.j0 k a0 a1 bt174.1 bt174.2.2.1 bt174.2.2.2 bt182.1 bt182.2.2.1 bt182.2.2.2 true)) else (montagelaw07_TokenSymbols.j0 k a0 a1 bt174.1 bt174.2.2.1 bt174.2.2.2 bt182.1 bt182.2.2.1 bt182.2.2.2 true)))))) else (some false))) = some r := h
  clear h
  replace H := Option.bind_eq_some_iff.mp H
  obtain ⟨t173, A30, H⟩ := H
  replace H : (if t173 = true then ((token_Length.f k a0).bind fun bt174 => ((montageref07_Length.f k a0).bind fun bt178 => ((token_Distance.f k a1).bind fun bt182 => ((montageref07_Distance.f k a1).bind fun bt186 => (if bt174.1 = bt178.1 then (if bt174.2.1 = bt178.2.1 then (if bt174.2.2.1 = bt178.2.2.1 then (if (bt174.2.2.2 != bt178.2.2.2) = true then (montagelaw07_TokenSymbols.j0 k a0 a1 bt174.1 bt174.2.2.1 bt174.2.2.2 bt182.1 bt182.2.2.1 bt182.2.2.2 true) else (if bt182.1 = bt186.1 then (if bt182.2.1 = bt186.2.1 then (if bt182.2.2.1 = bt186.2.2.1 then (montagelaw07_TokenSymbols.j0 k a0 a1 bt174.1 bt174.2.2.1 bt174.2.2.2 bt182.1 bt182.2.2.1 bt182.2.2.2 (bt182.2.2.2 != bt186.2.2.2)) else (montagelaw07_TokenSymbols.j0 k a0 a1 bt174.1 bt174.2.2.1 bt174.2.2.2 bt182.1 bt182.2.2.1 bt182.2.2.2 true)) else (montagelaw07_TokenSymbols.j0 k a0 a1 bt174.1 bt174.2.2.1 bt174.2.2.2 bt182.1 bt182.2.2.1 bt182.2.2.2 true)) else (montagelaw07_TokenSymbols.j0 k a0 a1 bt174.1 bt174.2.2.1 bt174.2.2.2 bt182.1 bt182.2.2.1 bt182.2.2.2 true))) else (montagelaw07_TokenSymbols.j0 k a0 a1 bt174.1 bt174.2.2.1 bt174.2.2.2 bt182.1 bt182.2.2.1 bt182.2.2.2 true)) else (montagelaw07_TokenSymbols.j0 k a0 a1 bt174.1 bt174.2.2.1 bt174.2.2.2 bt182.1 bt182.2.2.1 bt182.2.2.2 true)) else (montagelaw07_TokenSymbols.j0 k a0 a1 bt174.1 bt174.2.2.1 bt174.2.2.2 bt182.1 bt182.2.2.1 bt182.2.2.2 true)))))) else (some false)) = some r := H
  have A3 := Aside0.mk A30
  clear A30
  by_cases c4 : t173 = true
  · subst c4
    have H1 : ((token_Length.f k a0).bind fun bt174 => ((montageref07_Length.f k a0).bind fun bt178 => ((token_Distance.f k a1).bind fun bt182 => ((montageref07_Distance.f k a1).bind fun bt186 => (if bt174.1 = bt178.1 then (if bt174.2.1 = bt178.2.1 then (if bt174.2.2.1 = bt178.2.2.1 then (if (bt174.2.2.2 != bt178.2.2.2) = true then (montagelaw07_TokenSymbols.j0 k a0 a1 bt174.1 bt174.2.2.1 bt174.2.2.2 bt182.1 bt182.2.2.1 bt182.2.2.2 true) else (if bt182.1 = bt186.1 then (if bt182.2.1 = bt186.2.1 then (if bt182.2.2.1 = bt186.2.2.1 then (montagelaw07_TokenSymbols.j0 k a0 a1 bt174.1 bt174.2.2.1 bt174.2.2.2 bt182.1 bt182.2.2.1 bt182.2.2.2 (bt182.2.2.2 != bt186.2.2.2)) else (montagelaw07_TokenSymbols.j0 k a0 a1 bt174.1 bt174.2.2.1 bt174.2.2.2 bt182.1 bt182.2.2.1 bt182.2.2.2 true)) else (montagelaw07_TokenSymbols.j0 k a0 a1 bt174.1 bt174.2.2.1 bt174.2.2.2 bt182.1 bt182.2.2.1 bt182.2.2.2 true)) else (montagelaw07_TokenSymbols.j0 k a0 a1 bt174.1 bt174.2.2.1 bt174.2.2.2 bt182.1 bt182.2.2.1 bt182.2.2.2 true))) else (montagelaw07_TokenSymbols.j0 k a0 a1 bt174.1 bt174.2.2.1 bt174.2.2.2 bt182.1 bt182.2.2.1 bt182.2.2.2 true)) else (montagelaw07_TokenSymbols.j0 k a0 a1 bt174.1 bt174.2.2.1 bt174.2.2.2 bt182.1 bt182.2.2.1 bt182.2.2.2 true)) else (montagelaw07_TokenSymbols.j0 k a0 a1 bt174.1 bt174.2.2.1 bt174.2.2.2 bt182.1 bt182.2.2.1 bt182.2.2.2 true)))))) = some r := by rw [if_pos rfl] at H; exact H
    clear H
    have H := H1
    clear H1
    replace H := Option.bind_eq_some_iff.mp H
    obtain ⟨⟨t174, t175, t176, t177⟩, A50, H⟩ := H
    replace H : ((montageref07_Length.f k a0).bind fun bt178 => ((token_Distance.f k a1).bind fun bt182 => ((montageref07_Distance.f k a1).bind fun bt186 => (if t174 = bt178.1 then (if t175 = bt178.2.1 then (if t176 = bt178.2.2.1 then (if (t177 != bt178.2.2.2) = true then (montagelaw07_TokenSymbols.j0 k a0 a1 t174 t176 t177 bt182.1 bt182.2.2.1 bt182.2.2.2 true) else (if bt182.1 = bt186.1 then (if bt182.2.1 = bt186.2.1 then (if bt182.2.2.1 = bt186.2.2.1 then (montagelaw07_TokenSymbols.j0 k a0 a1 t174 t176 t177 bt182.1 bt182.2.2.1 bt182.2.2.2 (bt182.2.2.2 != bt186.2.2.2)) else (montagelaw07_TokenSymbols.j0 k a0 a1 t174 t176 t177 bt182.1 bt182.2.2.1 bt182.2.2.2 true)) else (montagelaw07_TokenSymbols.j0 k a0 a1 t174 t176 t177 bt182.1 bt182.2.2.1 bt182.2.2.2 true)) else (montagelaw07_TokenSymbols.j0 k a0 a1 t174 t176 t177 bt182.1 bt182.2.2.1 bt182.2.2.2 true))) else (montagelaw07_TokenSymbols.j0 k a0 a1 t174 t176 t177 bt182.1 bt182.2.2.1 bt182.2.2.2 true)) else (montagelaw07_TokenSymbols.j0 k a0 a1 t174 t176 t177 bt182.1 bt182.2.2.1 bt182.2.2.2 true)) else (montagelaw07_TokenSymbols.j0 k a0 a1 t174 t176 t177 bt182.1 bt182.2.2.1 bt182.2.2.2 true))))) = some r := H
    have A5 := Aside0.mk A50
    clear A50
    replace H := Option.bind_eq_some_iff.mp H
    obtain ⟨⟨t178, t179, t180, t181⟩, A60, H⟩ := H
    replace H : ((token_Distance.f k a1).bind fun bt182 => ((montageref07_Distance.f k a1).bind fun bt186 => (if t174 = t178 then (if t175 = t179 then (if t176 = t180 then (if (t177 != t181) = true then (montagelaw07_TokenSymbols.j0 k a0 a1 t174 t176 t177 bt182.1 bt182.2.2.1 bt182.2.2.2 true) else (if bt182.1 = bt186.1 then (if bt182.2.1 = bt186.2.1 then (if bt182.2.2.1 = bt186.2.2.1 then (montagelaw07_TokenSymbols.j0 k a0 a1 t174 t176 t177 bt182.1 bt182.2.2.1 bt182.2.2.2 (bt182.2.2.2 != bt186.2.2.2)) else (montagelaw07_TokenSymbols.j0 k a0 a1 t174 t176 t177 bt182.1 bt182.2.2.1 bt182.2.2.2 true)) else (montagelaw07_TokenSymbols.j0 k a0 a1 t174 t176 t177 bt182.1 bt182.2.2.1 bt182.2.2.2 true)) else (montagelaw07_TokenSymbols.j0 k a0 a1 t174 t176 t177 bt182.1 bt182.2.2.1 bt182.2.2.2 true))) else (montagelaw07_TokenSymbols.j0 k a0 a1 t174 t176 t177 bt182.1 bt182.2.2.1 bt182.2.2.2 true)) else (montagelaw07_TokenSymbols.j0 k a0 a1 t174 t176 t177 bt182.1 bt182.2.2.1 bt182.2.2.2 true)) else (montagelaw07_TokenSymbols.j0 k a0 a1 t174 t176 t177 bt182.1 bt182.2.2.1 bt182.2.2.2 true)))) = some r := H
    have A6 := Aside0.mk A60
    clear A60
    replace H := Option.bind_eq_some_iff.mp H
    obtain ⟨⟨t182, t183, t184, t185⟩, A70, H⟩ := H
    replace H : ((montageref07_Distance.f k a1).bind fun bt186 => (if t174 = t178 then (if t175 = t179 then (if t176 = t180 then (if (t177 != t181) = true then (montagelaw07_TokenSymbols.j0 k a0 a1 t174 t176 t177 t182 t184 t185 true) else (if t182 = bt186.1 then (if t183 = bt186.2.1 then (if t184 = bt186.2.2.1 then (montagelaw07_TokenSymbols.j0 k a0 a1 t174 t176 t177 t182 t184 t185 (t185 != bt186.2.2.2)) else (montagelaw07_TokenSymbols.j0 k a0 a1 t174 t176 t177 t182 t184 t185 true)) else (montagelaw07_TokenSymbols.j0 k a0 a1 t174 t176 t177 t182 t184 t185 true)) else (montagelaw07_TokenSymbols.j0 k a0 a1 t174 t176 t177 t182 t184 t185 true))) else (montagelaw07_TokenSymbols.j0 k a0 a1 t174 t176 t177 t182 t184 t185 true)) else (montagelaw07_TokenSymbols.j0 k a0 a1 t174 t176 t177 t182 t184 t185 true)) else (montagelaw07_TokenSymbols.j0 k a0 a1 t174 t176 t177 t182 t184 t185 true))) = some r := H
    have A7 := Aside0.mk A70
    clear A70
    replace H := Option.bind_eq_some_iff.mp H
    obtain ⟨⟨t186, t187, t188, t189⟩, A80, H⟩ := H
    replace H : (if t174 = t178 then (if t175 = t179 then (if t176 = t180 then (if (t177 != t181) = true then (montagelaw07_TokenSymbols.j0 k a0 a1 t174 t176 t177 t182 t184 t185 true) else (if t182 = t186 then (if t183 = t187 then (if t184 = t188 then (montagelaw07_TokenSymbols.j0 k a0 a1 t174 t176 t177 t182 t184 t185 (t185 != t189)) else (montagelaw07_TokenSymbols.j0 k a0 a1 t174 t176 t177 t182 t184 t185 true)) else (montagelaw07_TokenSymbols.j0 k a0 a1 t174 t176 t177 t182 t184 t185 true)) else (montagelaw07_TokenSymbols.j0 k a0 a1 t174 t176 t177 t182 t184 t185 true))) else (montagelaw07_TokenSymbols.j0 k a0 a1 t174 t176 t177 t182 t184 t185 true)) else (montagelaw07_TokenSymbols.j0 k a0 a1 t174 t176 t177 t182 t184 t185 true)) else (montagelaw07_TokenSymbols.j0 k a0 a1 t174 t176 t177 t182 t184 t185 true)) = some r := H
    have A8 := Aside0.mk A80
    clear A80
    have HC9 := Aside0.mk H
    clear H
    go_enter Try.func4, Try.ntmps4
    go_upto_region 7 with (first | ((with_reducible refine gate_callee (f := 12) rfl ?_); refine goesL_ (some 25) rfl rfl Try.func12 (by kernel_rfl) rfl #[] rfl (by (try simp only [List.map_toArray, List.map_cons, List.map_nil]); first | done | rfl | (simp only [List.length_drop, List.length_take]; rfl)) ?_; (with_reducible refine (montagelaw07_awake.calls k  true _ A3.out).mono ?_); rintro e w10 ⟨rfl, hb⟩; refine ⟨_, rfl, ?_⟩; have n0_ := Aside0.mk (below_step (by repeat (first | (with_reducible first | exact HB.out | apply below_alloc | apply pw_below_drewN | apply below_drew1) | exact HB.out)) hb); clear HB; have HB := n0_; clear n0_; (try clear hb); (try clear hb2); (try clear hk); (try clear hi)) | ((with_reducible refine gate_callee (f := 17) rfl ?_); refine goesL_ (some 29) rfl rfl Try.func17 (by kernel_rfl) rfl #[.int .i64 a0] rfl (by (try simp only [List.map_toArray, List.map_cons, List.map_nil]); first | done | rfl | (simp only [List.length_drop, List.length_take]; rfl)) ?_; (with_reducible refine (token_Length.calls k a0 t174 t175 t176 t177 _ A5.out).mono ?_); rintro e w' ⟨rfl, ⟨nd, rfl⟩⟩; refine ⟨_, rfl, ?_⟩) | ((with_reducible refine gate_callee (f := 18) rfl ?_); refine goesL_ (some 36) rfl rfl Try.func18 (by kernel_rfl) rfl #[.int .i64 a0] rfl (by (try simp only [List.map_toArray, List.map_cons, List.map_nil]); first | done | rfl | (simp only [List.length_drop, List.length_take]; rfl)) ?_; (with_reducible refine (montageref07_Length.calls k a0 t178 t179 t180 t181 _ A6.out).mono ?_); rintro e w11 ⟨rfl, hb⟩; refine ⟨_, rfl, ?_⟩; have n0_ := Aside0.mk (below_step (by repeat (first | (with_reducible first | exact HB.out | apply below_alloc | apply pw_below_drewN | apply below_drew1) | exact HB.out)) hb); clear HB; have HB := n0_; clear n0_; (try clear hb); (try clear hb2); (try clear hk); (try clear hi)) | ((with_reducible refine gate_callee (f := 19) rfl ?_); refine goesL_ (some 43) rfl rfl Try.func19 (by kernel_rfl) rfl #[.int .i64 a1] rfl (by (try simp only [List.map_toArray, List.map_cons, List.map_nil]); first | done | rfl | (simp only [List.length_drop, List.length_take]; rfl)) ?_; (with_reducible refine (token_Distance.calls k a1 t182 t183 t184 t185 _ A7.out).mono ?_); rintro e w' ⟨rfl, ⟨nd, rfl⟩⟩; refine ⟨_, rfl, ?_⟩) | ((with_reducible refine gate_callee (f := 20) rfl ?_); refine goesL_ (some 50) rfl rfl Try.func20 (by kernel_rfl) rfl #[.int .i64 a1] rfl (by (try simp only [List.map_toArray, List.map_cons, List.map_nil]); first | done | rfl | (simp only [List.length_drop, List.length_take]; rfl)) ?_; (with_reducible refine (montageref07_Distance.calls k a1 t186 t187 t188 t189 _ A8.out).mono ?_); rintro e w12 ⟨rfl, hb⟩; refine ⟨_, rfl, ?_⟩; have n0_ := Aside0.mk (below_step (by repeat (first | (with_reducible first | exact HB.out | apply below_alloc | apply pw_below_drewN | apply below_drew1) | exact HB.out)) hb); clear HB; have HB := n0_; clear n0_; (try clear hb); (try clear hb2); (try clear hk); (try clear hi)))
    (try simp only [Act.put, List.setIfInBounds_toArray, List.set_cons_zero, List.set_cons_succ])
    go_cut [92] (fun v92 wc => ∃ (kq : Nat) (x92_8 : Bool), v92 = .bool x92_8 ∧ Aside0 (montagelaw07_TokenSymbols.j0 kq a0 a1 t174 t176 t177 t182 t184 t185 x92_8 = some r) ∧ Aside0 (kq ≤ k) ∧ Aside0 (Below w.heap.size w wc))
    case first =>
      have H := HC9.out
      clear HC9
      by_cases c13 : t174 = t178
      · rw [if_pos c13] at H
        have c13b0 : (t174 == t178) = true := beq_iff_eq.mpr c13
        have c13b1 : (t174 != t178) = false := bne_eq_false_iff_eq.mpr c13
        clear c13
        (first | rw [c13b0] | (simp only [i64_w, i32_w]; rw [c13b0]) | skip)
        by_cases c14 : t175 = t179
        · rw [if_pos c14] at H
          have c14b0 : (t175 == t179) = true := beq_iff_eq.mpr c14
          have c14b1 : (t175 != t179) = false := bne_eq_false_iff_eq.mpr c14
          clear c14
          by_cases c15 : t176 = t180
          · rw [if_pos c15] at H
            have c15b0 : (t176 == t180) = true := beq_iff_eq.mpr c15
            have c15b1 : (t176 != t180) = false := bne_eq_false_iff_eq.mpr c15
            clear c15
            by_cases c16 : (t177 != t181) = true
            · rw [if_pos c16] at H
              have c16b0 : (t177 != t181) = true := c16
              (try (have c16b1 : decide (t177 = t181) = false := by simpa using c16))
              (try (have c16b2 : (t177 == t181) = false := by simpa using c16))
              (try (have c16b3 : ¬ (t177 = t181) := by simpa using c16))
              clear c16
              have H' := Aside0.mk H
              clear H
              go_wp2
              go_meet
              case rel => exact ⟨_, (true), (by first | rfl | (simp; done) | (simp [*]; done)), H', ⟨by first | omega | exact Nat.le_refl _⟩, ⟨by repeat (first | (with_reducible first | exact HB.out | apply below_alloc | apply pw_below_drewN | apply below_drew1) | exact HB.out)⟩⟩
            · rw [if_neg c16] at H
              have c16b0 : (t177 != t181) = false := by simpa using c16
              (try (have c16b1 : decide (t177 = t181) = true := by simpa using c16))
              (try (have c16b2 : (t177 == t181) = true := by simpa using c16))
              clear c16
              by_cases c17 : t182 = t186
              · rw [if_pos c17] at H
                have c17b0 : (t182 == t186) = true := beq_iff_eq.mpr c17
                have c17b1 : (t182 != t186) = false := bne_eq_false_iff_eq.mpr c17
                clear c17
                by_cases c18 : t183 = t187
                · rw [if_pos c18] at H
                  have c18b0 : (t183 == t187) = true := beq_iff_eq.mpr c18
                  have c18b1 : (t183 != t187) = false := bne_eq_false_iff_eq.mpr c18
                  clear c18
                  by_cases c19 : t184 = t188
                  · rw [if_pos c19] at H
                    have c19b0 : (t184 == t188) = true := beq_iff_eq.mpr c19
                    have c19b1 : (t184 != t188) = false := bne_eq_false_iff_eq.mpr c19
                    clear c19
                    have H' := Aside0.mk H
                    clear H
                    go_wp2
                    go_meet
                    case rel => exact ⟨_, ((t185 != t189)), (by first | rfl | (simp; done) | (simp [*]; done)), H', ⟨by first | omega | exact Nat.le_refl _⟩, ⟨by repeat (first | (with_reducible first | exact HB.out | apply below_alloc | apply pw_below_drewN | apply below_drew1) | exact HB.out)⟩⟩
                  · rw [if_neg c19] at H
                    have c19b0 : (t184 == t188) = false := beq_eq_false_iff_ne.mpr c19
                    have c19b1 : (t184 != t188) = true := bne_iff_ne.mpr c19
                    have H' := Aside0.mk H
                    clear H
                    go_wp2
                    go_meet
                    case rel => exact ⟨_, (true), (by first | rfl | (simp; done) | (simp [*]; done)), H', ⟨by first | omega | exact Nat.le_refl _⟩, ⟨by repeat (first | (with_reducible first | exact HB.out | apply below_alloc | apply pw_below_drewN | apply below_drew1) | exact HB.out)⟩⟩
                · rw [if_neg c18] at H
                  have c18b0 : (t183 == t187) = false := beq_eq_false_iff_ne.mpr c18
                  have c18b1 : (t183 != t187) = true := bne_iff_ne.mpr c18
                  have H' := Aside0.mk H
                  clear H
                  go_wp2
                  go_meet
                  case rel => exact ⟨_, (true), (by first | rfl | (simp; done) | (simp [*]; done)), H', ⟨by first | omega | exact Nat.le_refl _⟩, ⟨by repeat (first | (with_reducible first | exact HB.out | apply below_alloc | apply pw_below_drewN | apply below_drew1) | exact HB.out)⟩⟩
              · rw [if_neg c17] at H
                have c17b0 : (t182 == t186) = false := beq_eq_false_iff_ne.mpr c17
                have c17b1 : (t182 != t186) = true := bne_iff_ne.mpr c17
                have H' := Aside0.mk H
                clear H
                go_wp2
                go_meet
                case rel => exact ⟨_, (true), (by first | rfl | (simp; done) | (simp [*]; done)), H', ⟨by first | omega | exact Nat.le_refl _⟩, ⟨by repeat (first | (with_reducible first | exact HB.out | apply below_alloc | apply pw_below_drewN | apply below_drew1) | exact HB.out)⟩⟩
          · rw [if_neg c15] at H
            have c15b0 : (t176 == t180) = false := beq_eq_false_iff_ne.mpr c15
            have c15b1 : (t176 != t180) = true := bne_iff_ne.mpr c15
            have H' := Aside0.mk H
            clear H
            go_wp2
            go_meet
            case rel => exact ⟨_, (true), (by first | rfl | (simp; done) | (simp [*]; done)), H', ⟨by first | omega | exact Nat.le_refl _⟩, ⟨by repeat (first | (with_reducible first | exact HB.out | apply below_alloc | apply pw_below_drewN | apply below_drew1) | exact HB.out)⟩⟩
        · rw [if_neg c14] at H
          have c14b0 : (t175 == t179) = false := beq_eq_false_iff_ne.mpr c14
          have c14b1 : (t175 != t179) = true := bne_iff_ne.mpr c14
          have H' := Aside0.mk H
          clear H
          go_wp2
          go_meet
          case rel => exact ⟨_, (true), (by first | rfl | (simp; done) | (simp [*]; done)), H', ⟨by first | omega | exact Nat.le_refl _⟩, ⟨by repeat (first | (with_reducible first | exact HB.out | apply below_alloc | apply pw_below_drewN | apply below_drew1) | exact HB.out)⟩⟩
      · rw [if_neg c13] at H
        have c13b0 : (t174 == t178) = false := beq_eq_false_iff_ne.mpr c13
        have c13b1 : (t174 != t178) = true := bne_iff_ne.mpr c13
        (first | rw [c13b0] | (simp only [i64_w, i32_w]; rw [c13b0]) | skip)
        have H' := Aside0.mk H
        clear H
        go_wp2
        go_meet
        case rel => exact ⟨_, (true), (by first | rfl | (simp; done) | (simp [*]; done)), H', ⟨by first | omega | exact Nat.le_refl _⟩, ⟨by repeat (first | (with_reducible first | exact HB.out | apply below_alloc | apply pw_below_drewN | apply below_drew1) | exact HB.out)⟩⟩
    case rest =>
      clear HC9
      try clear c1
      try clear c2
      try clear p2
      try clear c4
      try clear c12
      try clear c13
      try clear c13b0
      try clear c13b1
      try clear c14
      try clear c14b0
      try clear c14b1
      try clear c15
      try clear c15b0
      try clear c15b1
      try clear c16
      try clear c16b0
      try clear c16b1
      try clear c16b2
      try clear c17
      try clear c17b0
      try clear c17b1
      try clear c18
      try clear c18b0
      try clear c18b1
      try clear c19
      try clear c19b0
      try clear c19b1
      obtain ⟨kq, x92_8, rfl, HA, HJ8, HB⟩ := hcut
      cases kq with
      | zero => exact absurd HA.out (by simp [montagelaw07_TokenSymbols.j0])
      | succ kj8 =>
        have H := HA.out
        clear HA
        simp only [montagelaw07_TokenSymbols.j0] at H
        by_cases c20 : x92_8 = true
        · subst c20
          have H1 : (some false) = some r := by rw [if_pos rfl] at H; exact H
          clear H
          have H := H1
          clear H1
          obtain rfl := Option.some.inj H
          go_wp2
          go_ret
          exact ⟨by first | rfl | (simp [errW_none, errW_some] <;> rfl) | (simp [*, errW_none, errW_some] <;> rfl), by repeat (first | (with_reducible first | exact HB.out | apply below_alloc | apply pw_below_drewN | apply below_drew1) | exact HB.out)⟩
        · replace c20 := Bool.eq_false_iff.mpr c20
          subst c20
          have H1 : ((token_LengthOf.f kj8 t174 t176).bind fun bt190 => ((token_DistanceOf.f kj8 t182 t184).bind fun bt192 => (if t177 = true then (if bt190.1 = a0 then (if bt190.2 = true then (if t185 = true then (if bt192.1 = a1 then (some bt192.2) else (some false)) else (some true)) else (some false)) else (some false)) else (if t185 = true then (if bt192.1 = a1 then (some bt192.2) else (some false)) else (some true))))) = some r := by rw [if_neg (show ¬ (false = true) by decide)] at H; exact H
          clear H
          have H := H1
          clear H1
          replace H := Option.bind_eq_some_iff.mp H
          obtain ⟨⟨t190, t191⟩, A210, H⟩ := H
          replace H : ((token_DistanceOf.f kj8 t182 t184).bind fun bt192 => (if t177 = true then (if t190 = a0 then (if t191 = true then (if t185 = true then (if bt192.1 = a1 then (some bt192.2) else (some false)) else (some true)) else (some false)) else (some false)) else (if t185 = true then (if bt192.1 = a1 then (some bt192.2) else (some false)) else (some true)))) = some r := H
          have A21 := Aside0.mk A210
          clear A210
          replace H := Option.bind_eq_some_iff.mp H
          obtain ⟨⟨t192, t193⟩, A220, H⟩ := H
          replace H : (if t177 = true then (if t190 = a0 then (if t191 = true then (if t185 = true then (if t192 = a1 then (some t193) else (some false)) else (some true)) else (some false)) else (some false)) else (if t185 = true then (if t192 = a1 then (some t193) else (some false)) else (some true))) = some r := H
          have A22 := Aside0.mk A220
          clear A220
          by_cases c23 : t177 = true
          · subst c23
            have H1 : (if t190 = a0 then (if t191 = true then (if t185 = true then (if t192 = a1 then (some t193) else (some false)) else (some true)) else (some false)) else (some false)) = some r := by rw [if_pos rfl] at H; exact H
            clear H
            have H := H1
            clear H1
            by_cases c24 : t190 = a0
            · rw [if_pos c24] at H
              have c24b0 : (t190 == a0) = true := beq_iff_eq.mpr c24
              have c24b1 : (t190 != a0) = false := bne_eq_false_iff_eq.mpr c24
              clear c24
              by_cases c25 : t191 = true
              · subst c25
                have H1 : (if t185 = true then (if t192 = a1 then (some t193) else (some false)) else (some true)) = some r := by rw [if_pos rfl] at H; exact H
                clear H
                have H := H1
                clear H1
                by_cases c26 : t185 = true
                · subst c26
                  have H1 : (if t192 = a1 then (some t193) else (some false)) = some r := by rw [if_pos rfl] at H; exact H
                  clear H
                  have H := H1
                  clear H1
                  by_cases c27 : t192 = a1
                  · rw [if_pos c27] at H
                    have c27b0 : (t192 == a1) = true := beq_iff_eq.mpr c27
                    have c27b1 : (t192 != a1) = false := bne_eq_false_iff_eq.mpr c27
                    clear c27
                    obtain rfl := Option.some.inj H
                    go_wp2_with (first | ((with_reducible refine gate_callee (f := 21) rfl ?_); refine goesL_ (some 96) rfl rfl Try.func21 (by kernel_rfl) rfl #[.int .i64 t174, .int .i64 t176] rfl (by (try simp only [List.map_toArray, List.map_cons, List.map_nil]); first | done | rfl | (simp only [List.length_drop, List.length_take]; rfl)) ?_; (with_reducible refine (token_LengthOf.calls kj8 t174 t176 t190 true _ A21.out).mono ?_); rintro e w28 ⟨rfl, hb⟩; refine ⟨_, rfl, ?_⟩; have n0_ := Aside0.mk (below_step (by repeat (first | (with_reducible first | exact HB.out | apply below_alloc | apply pw_below_drewN | apply below_drew1) | exact HB.out)) hb); clear HB; have HB := n0_; clear n0_; (try clear hb); (try clear hb2); (try clear hk); (try clear hi)) | ((with_reducible refine gate_callee (f := 22) rfl ?_); refine goesL_ (some 102) rfl rfl Try.func22 (by kernel_rfl) rfl #[.int .i64 t182, .int .i64 t184] rfl (by (try simp only [List.map_toArray, List.map_cons, List.map_nil]); first | done | rfl | (simp only [List.length_drop, List.length_take]; rfl)) ?_; (with_reducible refine (token_DistanceOf.calls kj8 t182 t184 t192 t193 _ A22.out).mono ?_); rintro e w29 ⟨rfl, hb⟩; refine ⟨_, rfl, ?_⟩; have n0_ := Aside0.mk (below_step (by repeat (first | (with_reducible first | exact HB.out | apply below_alloc | apply pw_below_drewN | apply below_drew1) | exact HB.out)) hb); clear HB; have HB := n0_; clear n0_; (try clear hb); (try clear hb2); (try clear hk); (try clear hi)))
                    go_ret
                    exact ⟨by first | rfl | (simp [errW_none, errW_some] <;> rfl) | (simp [*, errW_none, errW_some] <;> rfl), by repeat (first | (with_reducible first | exact HB.out | apply below_alloc | apply pw_below_drewN | apply below_drew1) | exact HB.out)⟩
                  · rw [if_neg c27] at H
                    have c27b0 : (t192 == a1) = false := beq_eq_false_iff_ne.mpr c27
                    have c27b1 : (t192 != a1) = true := bne_iff_ne.mpr c27
                    obtain rfl := Option.some.inj H
                    go_wp2_with (first | ((with_reducible refine gate_callee (f := 21) rfl ?_); refine goesL_ (some 96) rfl rfl Try.func21 (by kernel_rfl) rfl #[.int .i64 t174, .int .i64 t176] rfl (by (try simp only [List.map_toArray, List.map_cons, List.map_nil]); first | done | rfl | (simp only [List.length_drop, List.length_take]; rfl)) ?_; (with_reducible refine (token_LengthOf.calls kj8 t174 t176 t190 true _ A21.out).mono ?_); rintro e w30 ⟨rfl, hb⟩; refine ⟨_, rfl, ?_⟩; have n0_ := Aside0.mk (below_step (by repeat (first | (with_reducible first | exact HB.out | apply below_alloc | apply pw_below_drewN | apply below_drew1) | exact HB.out)) hb); clear HB; have HB := n0_; clear n0_; (try clear hb); (try clear hb2); (try clear hk); (try clear hi)) | ((with_reducible refine gate_callee (f := 22) rfl ?_); refine goesL_ (some 102) rfl rfl Try.func22 (by kernel_rfl) rfl #[.int .i64 t182, .int .i64 t184] rfl (by (try simp only [List.map_toArray, List.map_cons, List.map_nil]); first | done | rfl | (simp only [List.length_drop, List.length_take]; rfl)) ?_; (with_reducible refine (token_DistanceOf.calls kj8 t182 t184 t192 t193 _ A22.out).mono ?_); rintro e w31 ⟨rfl, hb⟩; refine ⟨_, rfl, ?_⟩; have n0_ := Aside0.mk (below_step (by repeat (first | (with_reducible first | exact HB.out | apply below_alloc | apply pw_below_drewN | apply below_drew1) | exact HB.out)) hb); clear HB; have HB := n0_; clear n0_; (try clear hb); (try clear hb2); (try clear hk); (try clear hi)))
                    go_ret
                    exact ⟨by first | rfl | (simp [errW_none, errW_some] <;> rfl) | (simp [*, errW_none, errW_some] <;> rfl), by repeat (first | (with_reducible first | exact HB.out | apply below_alloc | apply pw_below_drewN | apply below_drew1) | exact HB.out)⟩
                · replace c26 := Bool.eq_false_iff.mpr c26
                  subst c26
                  have H1 : (some true) = some r := by rw [if_neg (show ¬ (false = true) by decide)] at H; exact H
                  clear H
                  have H := H1
                  clear H1
                  obtain rfl := Option.some.inj H
                  go_wp2_with (first | ((with_reducible refine gate_callee (f := 21) rfl ?_); refine goesL_ (some 96) rfl rfl Try.func21 (by kernel_rfl) rfl #[.int .i64 t174, .int .i64 t176] rfl (by (try simp only [List.map_toArray, List.map_cons, List.map_nil]); first | done | rfl | (simp only [List.length_drop, List.length_take]; rfl)) ?_; (with_reducible refine (token_LengthOf.calls kj8 t174 t176 t190 true _ A21.out).mono ?_); rintro e w32 ⟨rfl, hb⟩; refine ⟨_, rfl, ?_⟩; have n0_ := Aside0.mk (below_step (by repeat (first | (with_reducible first | exact HB.out | apply below_alloc | apply pw_below_drewN | apply below_drew1) | exact HB.out)) hb); clear HB; have HB := n0_; clear n0_; (try clear hb); (try clear hb2); (try clear hk); (try clear hi)) | ((with_reducible refine gate_callee (f := 22) rfl ?_); refine goesL_ (some 102) rfl rfl Try.func22 (by kernel_rfl) rfl #[.int .i64 t182, .int .i64 t184] rfl (by (try simp only [List.map_toArray, List.map_cons, List.map_nil]); first | done | rfl | (simp only [List.length_drop, List.length_take]; rfl)) ?_; (with_reducible refine (token_DistanceOf.calls kj8 t182 t184 t192 t193 _ A22.out).mono ?_); rintro e w33 ⟨rfl, hb⟩; refine ⟨_, rfl, ?_⟩; have n0_ := Aside0.mk (below_step (by repeat (first | (with_reducible first | exact HB.out | apply below_alloc | apply pw_below_drewN | apply below_drew1) | exact HB.out)) hb); clear HB; have HB := n0_; clear n0_; (try clear hb); (try clear hb2); (try clear hk); (try clear hi)))
                  go_ret
                  exact ⟨by first | rfl | (simp [errW_none, errW_some] <;> rfl) | (simp [*, errW_none, errW_some] <;> rfl), by repeat (first | (with_reducible first | exact HB.out | apply below_alloc | apply pw_below_drewN | apply below_drew1) | exact HB.out)⟩
              · replace c25 := Bool.eq_false_iff.mpr c25
                subst c25
                have H1 : (some false) = some r := by rw [if_neg (show ¬ (false = true) by decide)] at H; exact H
                clear H
                have H := H1
                clear H1
                obtain rfl := Option.some.inj H
                go_wp2_with (first | ((with_reducible refine gate_callee (f := 21) rfl ?_); refine goesL_ (some 96) rfl rfl Try.func21 (by kernel_rfl) rfl #[.int .i64 t174, .int .i64 t176] rfl (by (try simp only [List.map_toArray, List.map_cons, List.map_nil]); first | done | rfl | (simp only [List.length_drop, List.length_take]; rfl)) ?_; (with_reducible refine (token_LengthOf.calls kj8 t174 t176 t190 false _ A21.out).mono ?_); rintro e w34 ⟨rfl, hb⟩; refine ⟨_, rfl, ?_⟩; have n0_ := Aside0.mk (below_step (by repeat (first | (with_reducible first | exact HB.out | apply below_alloc | apply pw_below_drewN | apply below_drew1) | exact HB.out)) hb); clear HB; have HB := n0_; clear n0_; (try clear hb); (try clear hb2); (try clear hk); (try clear hi)) | ((with_reducible refine gate_callee (f := 22) rfl ?_); refine goesL_ (some 102) rfl rfl Try.func22 (by kernel_rfl) rfl #[.int .i64 t182, .int .i64 t184] rfl (by (try simp only [List.map_toArray, List.map_cons, List.map_nil]); first | done | rfl | (simp only [List.length_drop, List.length_take]; rfl)) ?_; (with_reducible refine (token_DistanceOf.calls kj8 t182 t184 t192 t193 _ A22.out).mono ?_); rintro e w35 ⟨rfl, hb⟩; refine ⟨_, rfl, ?_⟩; have n0_ := Aside0.mk (below_step (by repeat (first | (with_reducible first | exact HB.out | apply below_alloc | apply pw_below_drewN | apply below_drew1) | exact HB.out)) hb); clear HB; have HB := n0_; clear n0_; (try clear hb); (try clear hb2); (try clear hk); (try clear hi)))
                go_ret
                exact ⟨by first | rfl | (simp [errW_none, errW_some] <;> rfl) | (simp [*, errW_none, errW_some] <;> rfl), by repeat (first | (with_reducible first | exact HB.out | apply below_alloc | apply pw_below_drewN | apply below_drew1) | exact HB.out)⟩
            · rw [if_neg c24] at H
              have c24b0 : (t190 == a0) = false := beq_eq_false_iff_ne.mpr c24
              have c24b1 : (t190 != a0) = true := bne_iff_ne.mpr c24
              obtain rfl := Option.some.inj H
              go_wp2_with (first | ((with_reducible refine gate_callee (f := 21) rfl ?_); refine goesL_ (some 96) rfl rfl Try.func21 (by kernel_rfl) rfl #[.int .i64 t174, .int .i64 t176] rfl (by (try simp only [List.map_toArray, List.map_cons, List.map_nil]); first | done | rfl | (simp only [List.length_drop, List.length_take]; rfl)) ?_; (with_reducible refine (token_LengthOf.calls kj8 t174 t176 t190 t191 _ A21.out).mono ?_); rintro e w36 ⟨rfl, hb⟩; refine ⟨_, rfl, ?_⟩; have n0_ := Aside0.mk (below_step (by repeat (first | (with_reducible first | exact HB.out | apply below_alloc | apply pw_below_drewN | apply below_drew1) | exact HB.out)) hb); clear HB; have HB := n0_; clear n0_; (try clear hb); (try clear hb2); (try clear hk); (try clear hi)) | ((with_reducible refine gate_callee (f := 22) rfl ?_); refine goesL_ (some 102) rfl rfl Try.func22 (by kernel_rfl) rfl #[.int .i64 t182, .int .i64 t184] rfl (by (try simp only [List.map_toArray, List.map_cons, List.map_nil]); first | done | rfl | (simp only [List.length_drop, List.length_take]; rfl)) ?_; (with_reducible refine (token_DistanceOf.calls kj8 t182 t184 t192 t193 _ A22.out).mono ?_); rintro e w37 ⟨rfl, hb⟩; refine ⟨_, rfl, ?_⟩; have n0_ := Aside0.mk (below_step (by repeat (first | (with_reducible first | exact HB.out | apply below_alloc | apply pw_below_drewN | apply below_drew1) | exact HB.out)) hb); clear HB; have HB := n0_; clear n0_; (try clear hb); (try clear hb2); (try clear hk); (try clear hi)))
              go_ret
              exact ⟨by first | rfl | (simp [errW_none, errW_some] <;> rfl) | (simp [*, errW_none, errW_some] <;> rfl), by repeat (first | (with_reducible first | exact HB.out | apply below_alloc | apply pw_below_drewN | apply below_drew1) | exact HB.out)⟩
          · replace c23 := Bool.eq_false_iff.mpr c23
            subst c23
            have H1 : (if t185 = true then (if t192 = a1 then (some t193) else (some false)) else (some true)) = some r := by rw [if_neg (show ¬ (false = true) by decide)] at H; exact H
            clear H
            have H := H1
            clear H1
            by_cases c38 : t185 = true
            · subst c38
              have H1 : (if t192 = a1 then (some t193) else (some false)) = some r := by rw [if_pos rfl] at H; exact H
              clear H
              have H := H1
              clear H1
              by_cases c39 : t192 = a1
              · rw [if_pos c39] at H
                have c39b0 : (t192 == a1) = true := beq_iff_eq.mpr c39
                have c39b1 : (t192 != a1) = false := bne_eq_false_iff_eq.mpr c39
                clear c39
                obtain rfl := Option.some.inj H
                go_wp2_with (first | ((with_reducible refine gate_callee (f := 21) rfl ?_); refine goesL_ (some 96) rfl rfl Try.func21 (by kernel_rfl) rfl #[.int .i64 t174, .int .i64 t176] rfl (by (try simp only [List.map_toArray, List.map_cons, List.map_nil]); first | done | rfl | (simp only [List.length_drop, List.length_take]; rfl)) ?_; (with_reducible refine (token_LengthOf.calls kj8 t174 t176 t190 t191 _ A21.out).mono ?_); rintro e w40 ⟨rfl, hb⟩; refine ⟨_, rfl, ?_⟩; have n0_ := Aside0.mk (below_step (by repeat (first | (with_reducible first | exact HB.out | apply below_alloc | apply pw_below_drewN | apply below_drew1) | exact HB.out)) hb); clear HB; have HB := n0_; clear n0_; (try clear hb); (try clear hb2); (try clear hk); (try clear hi)) | ((with_reducible refine gate_callee (f := 22) rfl ?_); refine goesL_ (some 102) rfl rfl Try.func22 (by kernel_rfl) rfl #[.int .i64 t182, .int .i64 t184] rfl (by (try simp only [List.map_toArray, List.map_cons, List.map_nil]); first | done | rfl | (simp only [List.length_drop, List.length_take]; rfl)) ?_; (with_reducible refine (token_DistanceOf.calls kj8 t182 t184 t192 t193 _ A22.out).mono ?_); rintro e w41 ⟨rfl, hb⟩; refine ⟨_, rfl, ?_⟩; have n0_ := Aside0.mk (below_step (by repeat (first | (with_reducible first | exact HB.out | apply below_alloc | apply pw_below_drewN | apply below_drew1) | exact HB.out)) hb); clear HB; have HB := n0_; clear n0_; (try clear hb); (try clear hb2); (try clear hk); (try clear hi)))
                go_ret
                exact ⟨by first | rfl | (simp [errW_none, errW_some] <;> rfl) | (simp [*, errW_none, errW_some] <;> rfl), by repeat (first | (with_reducible first | exact HB.out | apply below_alloc | apply pw_below_drewN | apply below_drew1) | exact HB.out)⟩
              · rw [if_neg c39] at H
                have c39b0 : (t192 == a1) = false := beq_eq_false_iff_ne.mpr c39
                have c39b1 : (t192 != a1) = true := bne_iff_ne.mpr c39
                obtain rfl := Option.some.inj H
                go_wp2_with (first | ((with_reducible refine gate_callee (f := 21) rfl ?_); refine goesL_ (some 96) rfl rfl Try.func21 (by kernel_rfl) rfl #[.int .i64 t174, .int .i64 t176] rfl (by (try simp only [List.map_toArray, List.map_cons, List.map_nil]); first | done | rfl | (simp only [List.length_drop, List.length_take]; rfl)) ?_; (with_reducible refine (token_LengthOf.calls kj8 t174 t176 t190 t191 _ A21.out).mono ?_); rintro e w42 ⟨rfl, hb⟩; refine ⟨_, rfl, ?_⟩; have n0_ := Aside0.mk (below_step (by repeat (first | (with_reducible first | exact HB.out | apply below_alloc | apply pw_below_drewN | apply below_drew1) | exact HB.out)) hb); clear HB; have HB := n0_; clear n0_; (try clear hb); (try clear hb2); (try clear hk); (try clear hi)) | ((with_reducible refine gate_callee (f := 22) rfl ?_); refine goesL_ (some 102) rfl rfl Try.func22 (by kernel_rfl) rfl #[.int .i64 t182, .int .i64 t184] rfl (by (try simp only [List.map_toArray, List.map_cons, List.map_nil]); first | done | rfl | (simp only [List.length_drop, List.length_take]; rfl)) ?_; (with_reducible refine (token_DistanceOf.calls kj8 t182 t184 t192 t193 _ A22.out).mono ?_); rintro e w43 ⟨rfl, hb⟩; refine ⟨_, rfl, ?_⟩; have n0_ := Aside0.mk (below_step (by repeat (first | (with_reducible first | exact HB.out | apply below_alloc | apply pw_below_drewN | apply below_drew1) | exact HB.out)) hb); clear HB; have HB := n0_; clear n0_; (try clear hb); (try clear hb2); (try clear hk); (try clear hi)))
                go_ret
                exact ⟨by first | rfl | (simp [errW_none, errW_some] <;> rfl) | (simp [*, errW_none, errW_some] <;> rfl), by repeat (first | (with_reducible first | exact HB.out | apply below_alloc | apply pw_below_drewN | apply below_drew1) | exact HB.out)⟩
            · replace c38 := Bool.eq_false_iff.mpr c38
              subst c38
              have H1 : (some true) = some r := by rw [if_neg (show ¬ (false = true) by decide)] at H; exact H
              clear H
              have H := H1
              clear H1
              obtain rfl := Option.some.inj H
              go_wp2_with (first | ((with_reducible refine gate_callee (f := 21) rfl ?_); refine goesL_ (some 96) rfl rfl Try.func21 (by kernel_rfl) rfl #[.int .i64 t174, .int .i64 t176] rfl (by (try simp only [List.map_toArray, List.map_cons, List.map_nil]); first | done | rfl | (simp only [List.length_drop, List.length_take]; rfl)) ?_; (with_reducible refine (token_LengthOf.calls kj8 t174 t176 t190 t191 _ A21.out).mono ?_); rintro e w44 ⟨rfl, hb⟩; refine ⟨_, rfl, ?_⟩; have n0_ := Aside0.mk (below_step (by repeat (first | (with_reducible first | exact HB.out | apply below_alloc | apply pw_below_drewN | apply below_drew1) | exact HB.out)) hb); clear HB; have HB := n0_; clear n0_; (try clear hb); (try clear hb2); (try clear hk); (try clear hi)) | ((with_reducible refine gate_callee (f := 22) rfl ?_); refine goesL_ (some 102) rfl rfl Try.func22 (by kernel_rfl) rfl #[.int .i64 t182, .int .i64 t184] rfl (by (try simp only [List.map_toArray, List.map_cons, List.map_nil]); first | done | rfl | (simp only [List.length_drop, List.length_take]; rfl)) ?_; (with_reducible refine (token_DistanceOf.calls kj8 t182 t184 t192 t193 _ A22.out).mono ?_); rintro e w45 ⟨rfl, hb⟩; refine ⟨_, rfl, ?_⟩; have n0_ := Aside0.mk (below_step (by repeat (first | (with_reducible first | exact HB.out | apply below_alloc | apply pw_below_drewN | apply below_drew1) | exact HB.out)) hb); clear HB; have HB := n0_; clear n0_; (try clear hb); (try clear hb2); (try clear hk); (try clear hi)))
              go_ret
              exact ⟨by first | rfl | (simp [errW_none, errW_some] <;> rfl) | (simp [*, errW_none, errW_some] <;> rfl), by repeat (first | (with_reducible first | exact HB.out | apply below_alloc | apply pw_below_drewN | apply below_drew1) | exact HB.out)⟩
  · replace c4 := Bool.eq_false_iff.mpr c4
    subst c4
    have H1 : (some false) = some r := by rw [if_neg (show ¬ (false = true) by decide)] at H; exact H
    clear H
    have H := H1
    clear H1
    obtain rfl := Option.some.inj H
    go_enter Try.func4, Try.ntmps4
    go_wp2_with (first | ((with_reducible refine gate_callee (f := 12) rfl ?_); refine goesL_ (some 25) rfl rfl Try.func12 (by kernel_rfl) rfl #[] rfl (by (try simp only [List.map_toArray, List.map_cons, List.map_nil]); first | done | rfl | (simp only [List.length_drop, List.length_take]; rfl)) ?_; (with_reducible refine (montagelaw07_awake.calls k  false _ A3.out).mono ?_); rintro e w46 ⟨rfl, hb⟩; refine ⟨_, rfl, ?_⟩; have n0_ := Aside0.mk (below_step (by repeat (first | (with_reducible first | exact HB.out | apply below_alloc | apply pw_below_drewN | apply below_drew1) | exact HB.out)) hb); clear HB; have HB := n0_; clear n0_; (try clear hb); (try clear hb2); (try clear hk); (try clear hi)))
    go_ret
    exact ⟨by first | rfl | (simp [errW_none, errW_some] <;> rfl) | (simp [*, errW_none, errW_some] <;> rfl), by repeat (first | (with_reducible first | exact HB.out | apply below_alloc | apply pw_below_drewN | apply below_drew1) | exact HB.out)⟩

/-- THE ONE PURE STATEMENT of montagelaw07_TokenSymbols: yours. -/
def montagelaw07_TokenSymbols.Pure : Prop := ∀ (a0 : Int) (a1 : Int), (Lit.int .i64 a0).wf = true → (Lit.int .i64 a1).wf = true → ∃ k, montagelaw07_TokenSymbols.f k a0 a1 = some true
theorem montagelaw07_TokenSymbols.walk (P : montagelaw07_TokenSymbols.Pure) (a0 : Int) (a1 : Int) (w : World) (w0 : (Lit.int .i64 a0).wf = true) (w1 : (Lit.int .i64 a1).wf = true) :
    Calls Try.prog 4 #[.int .i64 a0, .int .i64 a1] w fun e w' => e = .returned (.bool true) ∧ Below w.heap.size w w' := by
  obtain ⟨k, h⟩ := P a0 a1 w0 w1
  refine (montagelaw07_TokenSymbols.calls k a0 a1 true w h).mono ?_
  rintro e w' ⟨rfl, hd⟩
  exact ⟨rfl, hd⟩

end Go.Proofs.Ytlgdjacgdflfaaa.XTokenSymbols
