-- Written by this session's own program wip/xprint.py: a changed copy of the kit's print.
import Derived.Test.YtdaofffedfccmaaDoorXGlobFitsx0
import Derived.Test.YtdaofffedfccmaaDoorXGlobFitsx1
import Derived.Test.YtdaofffedfccmaaDoorXGlobFitsx2
namespace Go.Proofs.YtdaofffedfccmaaDoor.XGlobFits
open Go.RowKit Go.Proofs.YtdaofffedfccmaaDoorW.PrintWords Go.Proofs.YtdaofffedfccmaaDoorW.PrintLast Go.Proofs.YtdaofffedfccmaaDoorW.PrintMore
attribute [local go_sem] max2_int min2_int max_two min_two max_three min_three max_four min_four   -- for this text's walks alone
set_option linter.unusedVariables false
set_option linter.unusedSimpArgs false

/-! ### montagelaw37_awake: function 13 -/
def montagelaw37_awake.f (k : Nat)  : Option (Bool) := (glob_Fits.f k (⟨#[97, 47, 42, 42, 47, 120, 42]⟩ : ByteArray) (⟨#[97, 47, 98, 47, 99, 47, 120, 121]⟩ : ByteArray)).bind fun t135 => (if t135 = true then ((glob_Fits.f k (⟨#[97, 47, 42, 42, 47, 120, 42]⟩ : ByteArray) (⟨#[97, 47, 120]⟩ : ByteArray)).bind fun t136 => (if t136 = true then ((glob_Fits.f k (⟨#[97, 47, 42, 47, 120]⟩ : ByteArray) (⟨#[97, 47, 120]⟩ : ByteArray)).bind fun t137 => (if t137 = true then (some false) else ((glob_Check.f k (⟨#[97, 47, 42, 42, 98]⟩ : ByteArray)).bind fun t138 => (if t138 = 2 then ((glob_Check.f k (⟨#[97]⟩ : ByteArray)).bind fun t139 => (if t139 = 0 then ((glob_Part.f k (⟨#[97, 63, 99]⟩ : ByteArray) (⟨#[97, 98, 99]⟩ : ByteArray)).bind fun t140 => (if t140 = true then ((glob_Quote.f (⟨#[97, 42]⟩ : ByteArray)).bind fun t141 => (some (t141.toList == ([97, 92, 42] : List UInt8)))) else (some false))) else (some false))) else (some false))))) else (some false))) else (some false))
theorem montagelaw37_awake.mono : ∀ k, LeO (montagelaw37_awake.f k ) (montagelaw37_awake.f (k + 1) ) := by
  intro  k
  unfold montagelaw37_awake.f
  repeat' first
      | (with_reducible exact glob_Check.mono _ _)
      | (with_reducible exact glob_Fits.mono _ _ _)
      | (with_reducible exact glob_Part.mono _ _ _)
      | (with_reducible exact LeO.refl _)
      | (with_reducible exact LeO.none _)
      | (with_reducible refine LeO.ite ?_ ?_)
      | (with_reducible refine LeO.bind ?_ (fun _ => ?_))
      | exact glob_Check.mono _ _
      | exact glob_Fits.mono _ _ _
      | exact glob_Part.mono _ _ _
      | exact LeO.none _
      | refine LeO.ite ?_ ?_
      | refine LeO.bind ?_ (fun _ => ?_)
set_option maxHeartbeats 8000000 in
set_option maxRecDepth 100000 in
theorem montagelaw37_awake.calls (k : Nat)  (r : Bool) (w : World) (h : montagelaw37_awake.f k  = some r) :
    Calls Tryd.prog 13 #[] w fun e w' => e = .returned (.bool r) ∧ Below w.heap.size w w' := by
  have HB := Aside0.mk (Below.refl w.heap.size w)
  have H : ((glob_Fits.f k (⟨#[97, 47, 42, 42, 47, 120, 42]⟩ : ByteArray) (⟨#[97, 47, 98, 47, 99, 47, 120, 121]⟩ : ByteArray)).bind fun t135 => (if t135 = true then ((glob_Fits.f k (⟨#[97, 47, 42, 42, 47, 120, 42]⟩ : ByteArray) (⟨#[97, 47, 120]⟩ : ByteArray)).bind fun t136 => (if t136 = true then ((glob_Fits.f k (⟨#[97, 47, 42, 47, 120]⟩ : ByteArray) (⟨#[97, 47, 120]⟩ : ByteArray)).bind fun t137 => (if t137 = true then (some false) else ((glob_Check.f k (⟨#[97, 47, 42, 42, 98]⟩ : ByteArray)).bind fun t138 => (if t138 = 2 then ((glob_Check.f k (⟨#[97]⟩ : ByteArray)).bind fun t139 => (if t139 = 0 then ((glob_Part.f k (⟨#[97, 63, 99]⟩ : ByteArray) (⟨#[97, 98, 99]⟩ : ByteArray)).bind fun t140 => (if t140 = true then ((glob_Quote.f (⟨#[97, 42]⟩ : ByteArray)).bind fun t141 => (some (t141.toList == ([97, 92, 42] : List UInt8)))) else (some false))) else (some false))) else (some false))))) else (some false))) else (some false))) = some r := h
  clear h
  replace H := Option.bind_eq_some_iff.mp H
  obtain ⟨t135, A10, H⟩ := H
  replace H : (if t135 = true then ((glob_Fits.f k (⟨#[97, 47, 42, 42, 47, 120, 42]⟩ : ByteArray) (⟨#[97, 47, 120]⟩ : ByteArray)).bind fun t136 => (if t136 = true then ((glob_Fits.f k (⟨#[97, 47, 42, 47, 120]⟩ : ByteArray) (⟨#[97, 47, 120]⟩ : ByteArray)).bind fun t137 => (if t137 = true then (some false) else ((glob_Check.f k (⟨#[97, 47, 42, 42, 98]⟩ : ByteArray)).bind fun t138 => (if t138 = 2 then ((glob_Check.f k (⟨#[97]⟩ : ByteArray)).bind fun t139 => (if t139 = 0 then ((glob_Part.f k (⟨#[97, 63, 99]⟩ : ByteArray) (⟨#[97, 98, 99]⟩ : ByteArray)).bind fun t140 => (if t140 = true then ((glob_Quote.f (⟨#[97, 42]⟩ : ByteArray)).bind fun t141 => (some (t141.toList == ([97, 92, 42] : List UInt8)))) else (some false))) else (some false))) else (some false))))) else (some false))) else (some false)) = some r := H
  have A1 := Aside0.mk A10
  clear A10
  by_cases c2 : t135 = true
  · subst c2
    have H1 : ((glob_Fits.f k (⟨#[97, 47, 42, 42, 47, 120, 42]⟩ : ByteArray) (⟨#[97, 47, 120]⟩ : ByteArray)).bind fun t136 => (if t136 = true then ((glob_Fits.f k (⟨#[97, 47, 42, 47, 120]⟩ : ByteArray) (⟨#[97, 47, 120]⟩ : ByteArray)).bind fun t137 => (if t137 = true then (some false) else ((glob_Check.f k (⟨#[97, 47, 42, 42, 98]⟩ : ByteArray)).bind fun t138 => (if t138 = 2 then ((glob_Check.f k (⟨#[97]⟩ : ByteArray)).bind fun t139 => (if t139 = 0 then ((glob_Part.f k (⟨#[97, 63, 99]⟩ : ByteArray) (⟨#[97, 98, 99]⟩ : ByteArray)).bind fun t140 => (if t140 = true then ((glob_Quote.f (⟨#[97, 42]⟩ : ByteArray)).bind fun t141 => (some (t141.toList == ([97, 92, 42] : List UInt8)))) else (some false))) else (some false))) else (some false))))) else (some false))) = some r := by rw [if_pos rfl] at H; exact H
    clear H
    have H := H1
    clear H1
    replace H := Option.bind_eq_some_iff.mp H
    obtain ⟨t136, A30, H⟩ := H
    replace H : (if t136 = true then ((glob_Fits.f k (⟨#[97, 47, 42, 47, 120]⟩ : ByteArray) (⟨#[97, 47, 120]⟩ : ByteArray)).bind fun t137 => (if t137 = true then (some false) else ((glob_Check.f k (⟨#[97, 47, 42, 42, 98]⟩ : ByteArray)).bind fun t138 => (if t138 = 2 then ((glob_Check.f k (⟨#[97]⟩ : ByteArray)).bind fun t139 => (if t139 = 0 then ((glob_Part.f k (⟨#[97, 63, 99]⟩ : ByteArray) (⟨#[97, 98, 99]⟩ : ByteArray)).bind fun t140 => (if t140 = true then ((glob_Quote.f (⟨#[97, 42]⟩ : ByteArray)).bind fun t141 => (some (t141.toList == ([97, 92, 42] : List UInt8)))) else (some false))) else (some false))) else (some false))))) else (some false)) = some r := H
    have A3 := Aside0.mk A30
    clear A30
    by_cases c4 : t136 = true
    · subst c4
      have H1 : ((glob_Fits.f k (⟨#[97, 47, 42, 47, 120]⟩ : ByteArray) (⟨#[97, 47, 120]⟩ : ByteArray)).bind fun t137 => (if t137 = true then (some false) else ((glob_Check.f k (⟨#[97, 47, 42, 42, 98]⟩ : ByteArray)).bind fun t138 => (if t138 = 2 then ((glob_Check.f k (⟨#[97]⟩ : ByteArray)).bind fun t139 => (if t139 = 0 then ((glob_Part.f k (⟨#[97, 63, 99]⟩ : ByteArray) (⟨#[97, 98, 99]⟩ : ByteArray)).bind fun t140 => (if t140 = true then ((glob_Quote.f (⟨#[97, 42]⟩ : ByteArray)).bind fun t141 => (some (t141.toList == ([97, 92, 42] : List UInt8)))) else (some false))) else (some false))) else (some false))))) = some r := by rw [if_pos rfl] at H; exact H
      clear H
      have H := H1
      clear H1
      replace H := Option.bind_eq_some_iff.mp H
      obtain ⟨t137, A50, H⟩ := H
      replace H : (if t137 = true then (some false) else ((glob_Check.f k (⟨#[97, 47, 42, 42, 98]⟩ : ByteArray)).bind fun t138 => (if t138 = 2 then ((glob_Check.f k (⟨#[97]⟩ : ByteArray)).bind fun t139 => (if t139 = 0 then ((glob_Part.f k (⟨#[97, 63, 99]⟩ : ByteArray) (⟨#[97, 98, 99]⟩ : ByteArray)).bind fun t140 => (if t140 = true then ((glob_Quote.f (⟨#[97, 42]⟩ : ByteArray)).bind fun t141 => (some (t141.toList == ([97, 92, 42] : List UInt8)))) else (some false))) else (some false))) else (some false)))) = some r := H
      have A5 := Aside0.mk A50
      clear A50
      by_cases c6 : t137 = true
      · subst c6
        have H1 : (some false) = some r := by rw [if_pos rfl] at H; exact H
        clear H
        have H := H1
        clear H1
        obtain rfl := Option.some.inj H
        go_enter Tryd.func13, Tryd.ntmps13
        go_wp2_with (first | ((with_reducible refine gate_callee (f := 16) rfl ?_); refine goesL_ (some 1) rfl rfl Tryd.func16 (by kernel_rfl) rfl #[.string (⟨#[97, 47, 42, 42, 47, 120, 42]⟩ : ByteArray), .string (⟨#[97, 47, 98, 47, 99, 47, 120, 121]⟩ : ByteArray)] rfl (by (try simp only [List.map_toArray, List.map_cons, List.map_nil]); first | done | rfl | (simp only [List.length_drop, List.length_take]; rfl)) ?_; (with_reducible refine (glob_Fits.calls k (⟨#[97, 47, 42, 42, 47, 120, 42]⟩ : ByteArray) (⟨#[97, 47, 98, 47, 99, 47, 120, 121]⟩ : ByteArray) true _ A1.out).mono ?_); rintro e w7 ⟨rfl, hb⟩; refine ⟨_, rfl, ?_⟩; have n0_ := Aside0.mk (below_step (by repeat (first | (with_reducible first | exact HB.out | apply below_alloc | apply pw_below_drewN | apply below_drew1) | exact HB.out)) hb); clear HB; have HB := n0_; clear n0_; (try clear hb); (try clear hb2); (try clear hk); (try clear hi)) | (go_at_call 16; (with_reducible refine (glob_Fits.calls k (⟨#[97, 47, 42, 42, 47, 120, 42]⟩ : ByteArray) (⟨#[97, 47, 120]⟩ : ByteArray) true _ A3.out).mono ?_); rintro e w8 ⟨rfl, hb⟩; have n0_ := Aside0.mk (below_step (by repeat (first | (with_reducible first | exact HB.out | apply below_alloc | apply pw_below_drewN | apply below_drew1) | exact HB.out)) hb); clear HB; have HB := n0_; clear n0_; (try clear hb); (try clear hb2); (try clear hk); (try clear hi)) | (go_at_call 16; (with_reducible refine (glob_Fits.calls k (⟨#[97, 47, 42, 47, 120]⟩ : ByteArray) (⟨#[97, 47, 120]⟩ : ByteArray) true _ A5.out).mono ?_); rintro e w9 ⟨rfl, hb⟩; have n0_ := Aside0.mk (below_step (by repeat (first | (with_reducible first | exact HB.out | apply below_alloc | apply pw_below_drewN | apply below_drew1) | exact HB.out)) hb); clear HB; have HB := n0_; clear n0_; (try clear hb); (try clear hb2); (try clear hk); (try clear hi)))
        go_ret
        exact ⟨by first | rfl | (simp [errW_none, errW_some] <;> rfl) | (simp [*, errW_none, errW_some] <;> rfl), by repeat (first | (with_reducible first | exact HB.out | apply below_alloc | apply pw_below_drewN | apply below_drew1) | exact HB.out)⟩
      · replace c6 := Bool.eq_false_iff.mpr c6
        subst c6
        have H1 : ((glob_Check.f k (⟨#[97, 47, 42, 42, 98]⟩ : ByteArray)).bind fun t138 => (if t138 = 2 then ((glob_Check.f k (⟨#[97]⟩ : ByteArray)).bind fun t139 => (if t139 = 0 then ((glob_Part.f k (⟨#[97, 63, 99]⟩ : ByteArray) (⟨#[97, 98, 99]⟩ : ByteArray)).bind fun t140 => (if t140 = true then ((glob_Quote.f (⟨#[97, 42]⟩ : ByteArray)).bind fun t141 => (some (t141.toList == ([97, 92, 42] : List UInt8)))) else (some false))) else (some false))) else (some false))) = some r := by rw [if_neg (show ¬ (false = true) by decide)] at H; exact H
        clear H
        have H := H1
        clear H1
        replace H := Option.bind_eq_some_iff.mp H
        obtain ⟨t138, A100, H⟩ := H
        replace H : (if t138 = 2 then ((glob_Check.f k (⟨#[97]⟩ : ByteArray)).bind fun t139 => (if t139 = 0 then ((glob_Part.f k (⟨#[97, 63, 99]⟩ : ByteArray) (⟨#[97, 98, 99]⟩ : ByteArray)).bind fun t140 => (if t140 = true then ((glob_Quote.f (⟨#[97, 42]⟩ : ByteArray)).bind fun t141 => (some (t141.toList == ([97, 92, 42] : List UInt8)))) else (some false))) else (some false))) else (some false)) = some r := H
        have A10 := Aside0.mk A100
        clear A100
        by_cases c11 : t138 = 2
        · rw [if_pos c11] at H
          have c11b0 : (t138 == 2) = true := beq_iff_eq.mpr c11
          have c11b1 : (t138 != 2) = false := bne_eq_false_iff_eq.mpr c11
          clear c11
          replace H := Option.bind_eq_some_iff.mp H
          obtain ⟨t139, A120, H⟩ := H
          replace H : (if t139 = 0 then ((glob_Part.f k (⟨#[97, 63, 99]⟩ : ByteArray) (⟨#[97, 98, 99]⟩ : ByteArray)).bind fun t140 => (if t140 = true then ((glob_Quote.f (⟨#[97, 42]⟩ : ByteArray)).bind fun t141 => (some (t141.toList == ([97, 92, 42] : List UInt8)))) else (some false))) else (some false)) = some r := H
          have A12 := Aside0.mk A120
          clear A120
          by_cases c13 : t139 = 0
          · rw [if_pos c13] at H
            have c13b0 : (t139 == 0) = true := beq_iff_eq.mpr c13
            have c13b1 : (t139 != 0) = false := bne_eq_false_iff_eq.mpr c13
            clear c13
            replace H := Option.bind_eq_some_iff.mp H
            obtain ⟨t140, A140, H⟩ := H
            replace H : (if t140 = true then ((glob_Quote.f (⟨#[97, 42]⟩ : ByteArray)).bind fun t141 => (some (t141.toList == ([97, 92, 42] : List UInt8)))) else (some false)) = some r := H
            have A14 := Aside0.mk A140
            clear A140
            by_cases c15 : t140 = true
            · subst c15
              have H1 : ((glob_Quote.f (⟨#[97, 42]⟩ : ByteArray)).bind fun t141 => (some (t141.toList == ([97, 92, 42] : List UInt8)))) = some r := by rw [if_pos rfl] at H; exact H
              clear H
              have H := H1
              clear H1
              replace H := Option.bind_eq_some_iff.mp H
              obtain ⟨t141, A160, H⟩ := H
              replace H : (some (t141.toList == ([97, 92, 42] : List UInt8))) = some r := H
              have A16 := Aside0.mk A160
              clear A160
              obtain rfl := Option.some.inj H
              go_enter Tryd.func13, Tryd.ntmps13
              go_wp2_with (first | ((with_reducible refine gate_callee (f := 16) rfl ?_); refine goesL_ (some 1) rfl rfl Tryd.func16 (by kernel_rfl) rfl #[.string (⟨#[97, 47, 42, 42, 47, 120, 42]⟩ : ByteArray), .string (⟨#[97, 47, 98, 47, 99, 47, 120, 121]⟩ : ByteArray)] rfl (by (try simp only [List.map_toArray, List.map_cons, List.map_nil]); first | done | rfl | (simp only [List.length_drop, List.length_take]; rfl)) ?_; (with_reducible refine (glob_Fits.calls k (⟨#[97, 47, 42, 42, 47, 120, 42]⟩ : ByteArray) (⟨#[97, 47, 98, 47, 99, 47, 120, 121]⟩ : ByteArray) true _ A1.out).mono ?_); rintro e w17 ⟨rfl, hb⟩; refine ⟨_, rfl, ?_⟩; have n0_ := Aside0.mk (below_step (by repeat (first | (with_reducible first | exact HB.out | apply below_alloc | apply pw_below_drewN | apply below_drew1) | exact HB.out)) hb); clear HB; have HB := n0_; clear n0_; (try clear hb); (try clear hb2); (try clear hk); (try clear hi)) | (go_at_call 16; (with_reducible refine (glob_Fits.calls k (⟨#[97, 47, 42, 42, 47, 120, 42]⟩ : ByteArray) (⟨#[97, 47, 120]⟩ : ByteArray) true _ A3.out).mono ?_); rintro e w18 ⟨rfl, hb⟩; have n0_ := Aside0.mk (below_step (by repeat (first | (with_reducible first | exact HB.out | apply below_alloc | apply pw_below_drewN | apply below_drew1) | exact HB.out)) hb); clear HB; have HB := n0_; clear n0_; (try clear hb); (try clear hb2); (try clear hk); (try clear hi)) | (go_at_call 16; (with_reducible refine (glob_Fits.calls k (⟨#[97, 47, 42, 47, 120]⟩ : ByteArray) (⟨#[97, 47, 120]⟩ : ByteArray) false _ A5.out).mono ?_); rintro e w19 ⟨rfl, hb⟩; have n0_ := Aside0.mk (below_step (by repeat (first | (with_reducible first | exact HB.out | apply below_alloc | apply pw_below_drewN | apply below_drew1) | exact HB.out)) hb); clear HB; have HB := n0_; clear n0_; (try clear hb); (try clear hb2); (try clear hk); (try clear hi)) | (go_at_call 14; (with_reducible refine (glob_Check.calls k (⟨#[97, 47, 42, 42, 98]⟩ : ByteArray) t138 _ A10.out).mono ?_); rintro e w20 ⟨rfl, hb⟩; have n0_ := Aside0.mk (below_step (by repeat (first | (with_reducible first | exact HB.out | apply below_alloc | apply pw_below_drewN | apply below_drew1) | exact HB.out)) hb); clear HB; have HB := n0_; clear n0_; (try clear hb); (try clear hb2); (try clear hk); (try clear hi)) | (go_at_call 14; (with_reducible refine (glob_Check.calls k (⟨#[97]⟩ : ByteArray) t139 _ A12.out).mono ?_); rintro e w21 ⟨rfl, hb⟩; have n0_ := Aside0.mk (below_step (by repeat (first | (with_reducible first | exact HB.out | apply below_alloc | apply pw_below_drewN | apply below_drew1) | exact HB.out)) hb); clear HB; have HB := n0_; clear n0_; (try clear hb); (try clear hb2); (try clear hk); (try clear hi)) | (go_at_call 18; (with_reducible refine (glob_Part.calls k (⟨#[97, 63, 99]⟩ : ByteArray) (⟨#[97, 98, 99]⟩ : ByteArray) true _ A14.out).mono ?_); rintro e w22 ⟨rfl, hb⟩; have n0_ := Aside0.mk (below_step (by repeat (first | (with_reducible first | exact HB.out | apply below_alloc | apply pw_below_drewN | apply below_drew1) | exact HB.out)) hb); clear HB; have HB := n0_; clear n0_; (try clear hb); (try clear hb2); (try clear hk); (try clear hi)) | (go_at_call 20; (with_reducible refine (glob_Quote.calls (⟨#[97, 42]⟩ : ByteArray) t141 _ A16.out).mono ?_); rintro e w23 ⟨rfl, hb⟩; have n0_ := Aside0.mk (below_step (by repeat (first | (with_reducible first | exact HB.out | apply below_alloc | apply pw_below_drewN | apply below_drew1) | exact HB.out)) hb); clear HB; have HB := n0_; clear n0_; (try clear hb); (try clear hb2); (try clear hk); (try clear hi)))
              go_ret
              exact ⟨by first | rfl | (simp [errW_none, errW_some] <;> rfl) | (simp [*, errW_none, errW_some] <;> rfl), by repeat (first | (with_reducible first | exact HB.out | apply below_alloc | apply pw_below_drewN | apply below_drew1) | exact HB.out)⟩
            · replace c15 := Bool.eq_false_iff.mpr c15
              subst c15
              have H1 : (some false) = some r := by rw [if_neg (show ¬ (false = true) by decide)] at H; exact H
              clear H
              have H := H1
              clear H1
              obtain rfl := Option.some.inj H
              go_enter Tryd.func13, Tryd.ntmps13
              go_wp2_with (first | ((with_reducible refine gate_callee (f := 16) rfl ?_); refine goesL_ (some 1) rfl rfl Tryd.func16 (by kernel_rfl) rfl #[.string (⟨#[97, 47, 42, 42, 47, 120, 42]⟩ : ByteArray), .string (⟨#[97, 47, 98, 47, 99, 47, 120, 121]⟩ : ByteArray)] rfl (by (try simp only [List.map_toArray, List.map_cons, List.map_nil]); first | done | rfl | (simp only [List.length_drop, List.length_take]; rfl)) ?_; (with_reducible refine (glob_Fits.calls k (⟨#[97, 47, 42, 42, 47, 120, 42]⟩ : ByteArray) (⟨#[97, 47, 98, 47, 99, 47, 120, 121]⟩ : ByteArray) true _ A1.out).mono ?_); rintro e w24 ⟨rfl, hb⟩; refine ⟨_, rfl, ?_⟩; have n0_ := Aside0.mk (below_step (by repeat (first | (with_reducible first | exact HB.out | apply below_alloc | apply pw_below_drewN | apply below_drew1) | exact HB.out)) hb); clear HB; have HB := n0_; clear n0_; (try clear hb); (try clear hb2); (try clear hk); (try clear hi)) | (go_at_call 16; (with_reducible refine (glob_Fits.calls k (⟨#[97, 47, 42, 42, 47, 120, 42]⟩ : ByteArray) (⟨#[97, 47, 120]⟩ : ByteArray) true _ A3.out).mono ?_); rintro e w25 ⟨rfl, hb⟩; have n0_ := Aside0.mk (below_step (by repeat (first | (with_reducible first | exact HB.out | apply below_alloc | apply pw_below_drewN | apply below_drew1) | exact HB.out)) hb); clear HB; have HB := n0_; clear n0_; (try clear hb); (try clear hb2); (try clear hk); (try clear hi)) | (go_at_call 16; (with_reducible refine (glob_Fits.calls k (⟨#[97, 47, 42, 47, 120]⟩ : ByteArray) (⟨#[97, 47, 120]⟩ : ByteArray) false _ A5.out).mono ?_); rintro e w26 ⟨rfl, hb⟩; have n0_ := Aside0.mk (below_step (by repeat (first | (with_reducible first | exact HB.out | apply below_alloc | apply pw_below_drewN | apply below_drew1) | exact HB.out)) hb); clear HB; have HB := n0_; clear n0_; (try clear hb); (try clear hb2); (try clear hk); (try clear hi)) | (go_at_call 14; (with_reducible refine (glob_Check.calls k (⟨#[97, 47, 42, 42, 98]⟩ : ByteArray) t138 _ A10.out).mono ?_); rintro e w27 ⟨rfl, hb⟩; have n0_ := Aside0.mk (below_step (by repeat (first | (with_reducible first | exact HB.out | apply below_alloc | apply pw_below_drewN | apply below_drew1) | exact HB.out)) hb); clear HB; have HB := n0_; clear n0_; (try clear hb); (try clear hb2); (try clear hk); (try clear hi)) | (go_at_call 14; (with_reducible refine (glob_Check.calls k (⟨#[97]⟩ : ByteArray) t139 _ A12.out).mono ?_); rintro e w28 ⟨rfl, hb⟩; have n0_ := Aside0.mk (below_step (by repeat (first | (with_reducible first | exact HB.out | apply below_alloc | apply pw_below_drewN | apply below_drew1) | exact HB.out)) hb); clear HB; have HB := n0_; clear n0_; (try clear hb); (try clear hb2); (try clear hk); (try clear hi)) | (go_at_call 18; (with_reducible refine (glob_Part.calls k (⟨#[97, 63, 99]⟩ : ByteArray) (⟨#[97, 98, 99]⟩ : ByteArray) false _ A14.out).mono ?_); rintro e w29 ⟨rfl, hb⟩; have n0_ := Aside0.mk (below_step (by repeat (first | (with_reducible first | exact HB.out | apply below_alloc | apply pw_below_drewN | apply below_drew1) | exact HB.out)) hb); clear HB; have HB := n0_; clear n0_; (try clear hb); (try clear hb2); (try clear hk); (try clear hi)))
              go_ret
              exact ⟨by first | rfl | (simp [errW_none, errW_some] <;> rfl) | (simp [*, errW_none, errW_some] <;> rfl), by repeat (first | (with_reducible first | exact HB.out | apply below_alloc | apply pw_below_drewN | apply below_drew1) | exact HB.out)⟩
          · rw [if_neg c13] at H
            have c13b0 : (t139 == 0) = false := beq_eq_false_iff_ne.mpr c13
            have c13b1 : (t139 != 0) = true := bne_iff_ne.mpr c13
            obtain rfl := Option.some.inj H
            go_enter Tryd.func13, Tryd.ntmps13
            go_wp2_with (first | ((with_reducible refine gate_callee (f := 16) rfl ?_); refine goesL_ (some 1) rfl rfl Tryd.func16 (by kernel_rfl) rfl #[.string (⟨#[97, 47, 42, 42, 47, 120, 42]⟩ : ByteArray), .string (⟨#[97, 47, 98, 47, 99, 47, 120, 121]⟩ : ByteArray)] rfl (by (try simp only [List.map_toArray, List.map_cons, List.map_nil]); first | done | rfl | (simp only [List.length_drop, List.length_take]; rfl)) ?_; (with_reducible refine (glob_Fits.calls k (⟨#[97, 47, 42, 42, 47, 120, 42]⟩ : ByteArray) (⟨#[97, 47, 98, 47, 99, 47, 120, 121]⟩ : ByteArray) true _ A1.out).mono ?_); rintro e w30 ⟨rfl, hb⟩; refine ⟨_, rfl, ?_⟩; have n0_ := Aside0.mk (below_step (by repeat (first | (with_reducible first | exact HB.out | apply below_alloc | apply pw_below_drewN | apply below_drew1) | exact HB.out)) hb); clear HB; have HB := n0_; clear n0_; (try clear hb); (try clear hb2); (try clear hk); (try clear hi)) | (go_at_call 16; (with_reducible refine (glob_Fits.calls k (⟨#[97, 47, 42, 42, 47, 120, 42]⟩ : ByteArray) (⟨#[97, 47, 120]⟩ : ByteArray) true _ A3.out).mono ?_); rintro e w31 ⟨rfl, hb⟩; have n0_ := Aside0.mk (below_step (by repeat (first | (with_reducible first | exact HB.out | apply below_alloc | apply pw_below_drewN | apply below_drew1) | exact HB.out)) hb); clear HB; have HB := n0_; clear n0_; (try clear hb); (try clear hb2); (try clear hk); (try clear hi)) | (go_at_call 16; (with_reducible refine (glob_Fits.calls k (⟨#[97, 47, 42, 47, 120]⟩ : ByteArray) (⟨#[97, 47, 120]⟩ : ByteArray) false _ A5.out).mono ?_); rintro e w32 ⟨rfl, hb⟩; have n0_ := Aside0.mk (below_step (by repeat (first | (with_reducible first | exact HB.out | apply below_alloc | apply pw_below_drewN | apply below_drew1) | exact HB.out)) hb); clear HB; have HB := n0_; clear n0_; (try clear hb); (try clear hb2); (try clear hk); (try clear hi)) | (go_at_call 14; (with_reducible refine (glob_Check.calls k (⟨#[97, 47, 42, 42, 98]⟩ : ByteArray) t138 _ A10.out).mono ?_); rintro e w33 ⟨rfl, hb⟩; have n0_ := Aside0.mk (below_step (by repeat (first | (with_reducible first | exact HB.out | apply below_alloc | apply pw_below_drewN | apply below_drew1) | exact HB.out)) hb); clear HB; have HB := n0_; clear n0_; (try clear hb); (try clear hb2); (try clear hk); (try clear hi)) | (go_at_call 14; (with_reducible refine (glob_Check.calls k (⟨#[97]⟩ : ByteArray) t139 _ A12.out).mono ?_); rintro e w34 ⟨rfl, hb⟩; have n0_ := Aside0.mk (below_step (by repeat (first | (with_reducible first | exact HB.out | apply below_alloc | apply pw_below_drewN | apply below_drew1) | exact HB.out)) hb); clear HB; have HB := n0_; clear n0_; (try clear hb); (try clear hb2); (try clear hk); (try clear hi)))
            go_ret
            exact ⟨by first | rfl | (simp [errW_none, errW_some] <;> rfl) | (simp [*, errW_none, errW_some] <;> rfl), by repeat (first | (with_reducible first | exact HB.out | apply below_alloc | apply pw_below_drewN | apply below_drew1) | exact HB.out)⟩
        · rw [if_neg c11] at H
          have c11b0 : (t138 == 2) = false := beq_eq_false_iff_ne.mpr c11
          have c11b1 : (t138 != 2) = true := bne_iff_ne.mpr c11
          obtain rfl := Option.some.inj H
          go_enter Tryd.func13, Tryd.ntmps13
          go_wp2_with (first | ((with_reducible refine gate_callee (f := 16) rfl ?_); refine goesL_ (some 1) rfl rfl Tryd.func16 (by kernel_rfl) rfl #[.string (⟨#[97, 47, 42, 42, 47, 120, 42]⟩ : ByteArray), .string (⟨#[97, 47, 98, 47, 99, 47, 120, 121]⟩ : ByteArray)] rfl (by (try simp only [List.map_toArray, List.map_cons, List.map_nil]); first | done | rfl | (simp only [List.length_drop, List.length_take]; rfl)) ?_; (with_reducible refine (glob_Fits.calls k (⟨#[97, 47, 42, 42, 47, 120, 42]⟩ : ByteArray) (⟨#[97, 47, 98, 47, 99, 47, 120, 121]⟩ : ByteArray) true _ A1.out).mono ?_); rintro e w35 ⟨rfl, hb⟩; refine ⟨_, rfl, ?_⟩; have n0_ := Aside0.mk (below_step (by repeat (first | (with_reducible first | exact HB.out | apply below_alloc | apply pw_below_drewN | apply below_drew1) | exact HB.out)) hb); clear HB; have HB := n0_; clear n0_; (try clear hb); (try clear hb2); (try clear hk); (try clear hi)) | (go_at_call 16; (with_reducible refine (glob_Fits.calls k (⟨#[97, 47, 42, 42, 47, 120, 42]⟩ : ByteArray) (⟨#[97, 47, 120]⟩ : ByteArray) true _ A3.out).mono ?_); rintro e w36 ⟨rfl, hb⟩; have n0_ := Aside0.mk (below_step (by repeat (first | (with_reducible first | exact HB.out | apply below_alloc | apply pw_below_drewN | apply below_drew1) | exact HB.out)) hb); clear HB; have HB := n0_; clear n0_; (try clear hb); (try clear hb2); (try clear hk); (try clear hi)) | (go_at_call 16; (with_reducible refine (glob_Fits.calls k (⟨#[97, 47, 42, 47, 120]⟩ : ByteArray) (⟨#[97, 47, 120]⟩ : ByteArray) false _ A5.out).mono ?_); rintro e w37 ⟨rfl, hb⟩; have n0_ := Aside0.mk (below_step (by repeat (first | (with_reducible first | exact HB.out | apply below_alloc | apply pw_below_drewN | apply below_drew1) | exact HB.out)) hb); clear HB; have HB := n0_; clear n0_; (try clear hb); (try clear hb2); (try clear hk); (try clear hi)) | (go_at_call 14; (with_reducible refine (glob_Check.calls k (⟨#[97, 47, 42, 42, 98]⟩ : ByteArray) t138 _ A10.out).mono ?_); rintro e w38 ⟨rfl, hb⟩; have n0_ := Aside0.mk (below_step (by repeat (first | (with_reducible first | exact HB.out | apply below_alloc | apply pw_below_drewN | apply below_drew1) | exact HB.out)) hb); clear HB; have HB := n0_; clear n0_; (try clear hb); (try clear hb2); (try clear hk); (try clear hi)))
          go_ret
          exact ⟨by first | rfl | (simp [errW_none, errW_some] <;> rfl) | (simp [*, errW_none, errW_some] <;> rfl), by repeat (first | (with_reducible first | exact HB.out | apply below_alloc | apply pw_below_drewN | apply below_drew1) | exact HB.out)⟩
    · replace c4 := Bool.eq_false_iff.mpr c4
      subst c4
      have H1 : (some false) = some r := by rw [if_neg (show ¬ (false = true) by decide)] at H; exact H
      clear H
      have H := H1
      clear H1
      obtain rfl := Option.some.inj H
      go_enter Tryd.func13, Tryd.ntmps13
      go_wp2_with (first | ((with_reducible refine gate_callee (f := 16) rfl ?_); refine goesL_ (some 1) rfl rfl Tryd.func16 (by kernel_rfl) rfl #[.string (⟨#[97, 47, 42, 42, 47, 120, 42]⟩ : ByteArray), .string (⟨#[97, 47, 98, 47, 99, 47, 120, 121]⟩ : ByteArray)] rfl (by (try simp only [List.map_toArray, List.map_cons, List.map_nil]); first | done | rfl | (simp only [List.length_drop, List.length_take]; rfl)) ?_; (with_reducible refine (glob_Fits.calls k (⟨#[97, 47, 42, 42, 47, 120, 42]⟩ : ByteArray) (⟨#[97, 47, 98, 47, 99, 47, 120, 121]⟩ : ByteArray) true _ A1.out).mono ?_); rintro e w39 ⟨rfl, hb⟩; refine ⟨_, rfl, ?_⟩; have n0_ := Aside0.mk (below_step (by repeat (first | (with_reducible first | exact HB.out | apply below_alloc | apply pw_below_drewN | apply below_drew1) | exact HB.out)) hb); clear HB; have HB := n0_; clear n0_; (try clear hb); (try clear hb2); (try clear hk); (try clear hi)) | (go_at_call 16; (with_reducible refine (glob_Fits.calls k (⟨#[97, 47, 42, 42, 47, 120, 42]⟩ : ByteArray) (⟨#[97, 47, 120]⟩ : ByteArray) false _ A3.out).mono ?_); rintro e w40 ⟨rfl, hb⟩; have n0_ := Aside0.mk (below_step (by repeat (first | (with_reducible first | exact HB.out | apply below_alloc | apply pw_below_drewN | apply below_drew1) | exact HB.out)) hb); clear HB; have HB := n0_; clear n0_; (try clear hb); (try clear hb2); (try clear hk); (try clear hi)))
      go_ret
      exact ⟨by first | rfl | (simp [errW_none, errW_some] <;> rfl) | (simp [*, errW_none, errW_some] <;> rfl), by repeat (first | (with_reducible first | exact HB.out | apply below_alloc | apply pw_below_drewN | apply below_drew1) | exact HB.out)⟩
  · replace c2 := Bool.eq_false_iff.mpr c2
    subst c2
    have H1 : (some false) = some r := by rw [if_neg (show ¬ (false = true) by decide)] at H; exact H
    clear H
    have H := H1
    clear H1
    obtain rfl := Option.some.inj H
    go_enter Tryd.func13, Tryd.ntmps13
    go_wp2_with (first | ((with_reducible refine gate_callee (f := 16) rfl ?_); refine goesL_ (some 1) rfl rfl Tryd.func16 (by kernel_rfl) rfl #[.string (⟨#[97, 47, 42, 42, 47, 120, 42]⟩ : ByteArray), .string (⟨#[97, 47, 98, 47, 99, 47, 120, 121]⟩ : ByteArray)] rfl (by (try simp only [List.map_toArray, List.map_cons, List.map_nil]); first | done | rfl | (simp only [List.length_drop, List.length_take]; rfl)) ?_; (with_reducible refine (glob_Fits.calls k (⟨#[97, 47, 42, 42, 47, 120, 42]⟩ : ByteArray) (⟨#[97, 47, 98, 47, 99, 47, 120, 121]⟩ : ByteArray) false _ A1.out).mono ?_); rintro e w41 ⟨rfl, hb⟩; refine ⟨_, rfl, ?_⟩; have n0_ := Aside0.mk (below_step (by repeat (first | (with_reducible first | exact HB.out | apply below_alloc | apply pw_below_drewN | apply below_drew1) | exact HB.out)) hb); clear HB; have HB := n0_; clear n0_; (try clear hb); (try clear hb2); (try clear hk); (try clear hi)))
    go_ret
    exact ⟨by first | rfl | (simp [errW_none, errW_some] <;> rfl) | (simp [*, errW_none, errW_some] <;> rfl), by repeat (first | (with_reducible first | exact HB.out | apply below_alloc | apply pw_below_drewN | apply below_drew1) | exact HB.out)⟩

/-! ### montageref13_Parts: function 52 -/
def montageref13_Parts.l0 : Nat → ByteArray → List ByteArray → Int → Int → Option (List ByteArray)
  | 0, _, _, _, _ => none
  | k + 1, x0, x3, x4, x5 => if x5 ≤ (x0.size : Int) then (if x5 = (x0.size : Int) then (if 0 ≤ x4 then (if x4 ≤ x5 then (if x3.length < 8796093022208 then (montageref13_Parts.l0 k x0 (x3 ++ [x0.extract (x4 : Int).toNat (x5 : Int).toNat]) (wrap64 (x5 + 1)) (wrap64 (x5 + 1))) else (none)) else (none)) else (none)) else (if 0 ≤ x5 then (if x5 < (x0.size : Int) then (if (bt x0 x5) = 47 then (if 0 ≤ x4 then (if x4 ≤ x5 then (if x3.length < 8796093022208 then (montageref13_Parts.l0 k x0 (x3 ++ [x0.extract (x4 : Int).toNat (x5 : Int).toNat]) (wrap64 (x5 + 1)) (wrap64 (x5 + 1))) else (none)) else (none)) else (none)) else (montageref13_Parts.l0 k x0 x3 x4 (wrap64 (x5 + 1)))) else (none)) else (none))) else (some x3)
def montageref13_Parts.f (k : Nat) (a0 : ByteArray) : Option (List ByteArray) := if a0.toList = ([] : List UInt8) then (some ([] : List ByteArray)) else (montageref13_Parts.l0 k a0 ([] : List ByteArray) 0 0)
theorem montageref13_Parts.mono_l : ∀ k, (∀ y0 y1 y2 y3, LeO (montageref13_Parts.l0 k y0 y1 y2 y3) (montageref13_Parts.l0 (k + 1) y0 y1 y2 y3))
  | 0 => fun _ _ _ _ r h => by simp [montageref13_Parts.l0] at h
  | k + 1 => by
    have ih0 := montageref13_Parts.mono_l k
    · intro y0 y1 y2 y3
      unfold montageref13_Parts.l0
      repeat' first
      | (with_reducible exact ih0 _ _ _ _)
      | (with_reducible exact LeO.refl _)
      | (with_reducible exact LeO.none _)
      | (with_reducible refine LeO.ite ?_ ?_)
      | (with_reducible refine LeO.bind ?_ (fun _ => ?_))
      | exact ih0 _ _ _ _
      | exact LeO.none _
      | refine LeO.ite ?_ ?_
      | refine LeO.bind ?_ (fun _ => ?_)
theorem montageref13_Parts.mono : ∀ a0 k, LeO (montageref13_Parts.f k a0) (montageref13_Parts.f (k + 1) a0) := by
  intro a0 k
  have ih0 := montageref13_Parts.mono_l k
  unfold montageref13_Parts.f
  repeat' first
      | (with_reducible exact ih0 _ _ _ _)
      | (with_reducible exact LeO.refl _)
      | (with_reducible exact LeO.none _)
      | (with_reducible refine LeO.ite ?_ ?_)
      | (with_reducible refine LeO.bind ?_ (fun _ => ?_))
      | exact ih0 _ _ _ _
      | exact LeO.none _
      | refine LeO.ite ?_ ?_
      | refine LeO.bind ?_ (fun _ => ?_)
set_option maxHeartbeats 8000000 in
set_option maxRecDepth 100000 in
theorem montageref13_Parts.calls (k : Nat) (a0 : ByteArray) (r : List ByteArray) (w : World) (h : montageref13_Parts.f k a0 = some r) :
    Calls Tryd.prog 52 #[.string a0] w fun e w' => ∃ v0_ : Value, e = .returned (v0_) ∧ Kd.R Kd.string 9 w' w.heap.size (fun _ => True) v0_ r ∧ Below w.heap.size w w' := by
  have HB := Aside0.mk (Below.refl w.heap.size w)
  have H : (if a0.toList = ([] : List UInt8) then (some ([] : List ByteArray)) else (montageref13_Parts.l0 k a0 ([] : List ByteArray) 0 0)) = some r := h
  clear h
  by_cases c2 : a0.toList = ([] : List UInt8)
  · rw [if_pos c2] at H
    have c2b0 : (a0.toList == ([] : List UInt8)) = true := beq_iff_eq.mpr c2
    have c2b1 : (a0.toList != ([] : List UInt8)) = false := bne_eq_false_iff_eq.mpr c2
    clear c2
    obtain rfl := Option.some.inj H
    go_enter Tryd.func52, Tryd.ntmps52
    go_wp2
    go_ret
    exact ⟨_, by first | rfl | (simp [errW_none, errW_some] <;> rfl) | (simp [*, errW_none, errW_some] <;> rfl), by first | exact Kd.R_nil _ _ _ _ _ | exact Kd.N_nil _ _ _ _ _ | exact Kd.V_nil _ _ _ _ _ | exact Kd.Q_nil _ _ _ _ _ | exact Kd.S_nil _ _ _ _ _, by repeat (first | (with_reducible first | exact HB.out | apply below_alloc | apply pw_below_drewN | apply below_drew1) | exact HB.out)⟩
  · rw [if_neg c2] at H
    have c2b0 : (a0.toList == ([] : List UInt8)) = false := beq_eq_false_iff_ne.mpr c2
    have c2b1 : (a0.toList != ([] : List UInt8)) = true := bne_iff_ne.mpr c2
    have H' := Aside0.mk H
    clear H
    go_enter Tryd.func52, Tryd.ntmps52
    go_wp2
    go_loopg [3, 4, 5] k (fun kq v3 v4 v5 w' => ∃ (x3_1 : List ByteArray) (x4_1 : Int) (x5_1 : Int), v4 = .int .i64 x4_1 ∧ v5 = .int .i64 x5_1 ∧ Aside0 (montageref13_Parts.l0 kq a0 x3_1 x4_1 x5_1 = some r) ∧ Aside0 (kq ≤ k) ∧ Aside0 (Kd.R Kd.string 9 w' w.heap.size (fun _ => True) v3 x3_1) ∧ Aside0 (Below w.heap.size w w'))
    case atStart => exact ⟨(([] : List ByteArray)), (0), (0), (by first | rfl | (simp; done) | (simp [*]; done)), (by first | rfl | (simp; done) | (simp [*]; done)), H', ⟨Nat.le_refl _⟩, ⟨by first | exact Kd.R_nil _ _ _ _ _ | exact Kd.N_nil _ _ _ _ _ | exact Kd.V_nil _ _ _ _ _ | exact Kd.Q_nil _ _ _ _ _ | exact Kd.S_nil _ _ _ _ _⟩, ⟨by repeat (first | (with_reducible first | exact HB.out | apply below_alloc | apply pw_below_drewN | apply below_drew1) | exact HB.out)⟩⟩
    case round =>
      clear H'
      try clear c2
      try clear c2b0
      try clear c2b1
      try clear p2
      obtain ⟨x3_1, x4_1, x5_1, rfl, rfl, HA, HK1, HO_3, HB⟩ := hrel
      cases gk with
      | zero => exact absurd HA.out (by simp [montageref13_Parts.l0])
      | succ k1 =>
        have H := HA.out
        clear HA
        simp only [montageref13_Parts.l0] at H
        by_cases c3 : x5_1 ≤ (a0.size : Int)
        · rw [if_pos c3] at H
          have c3b0 : decide (x5_1 ≤ (a0.size : Int)) = true := decide_eq_true c3
          clear c3
          by_cases c4 : x5_1 = (a0.size : Int)
          · rw [if_pos c4] at H
            have c4b0 : (x5_1 == (a0.size : Int)) = true := beq_iff_eq.mpr c4
            have c4b1 : (x5_1 != (a0.size : Int)) = false := bne_eq_false_iff_eq.mpr c4
            clear c4
            by_cases c5 : 0 ≤ x4_1
            · rw [if_pos c5] at H
              have c5b0 := eq_true c5
              have c5b1 : decide (0 ≤ x4_1) = true := decide_eq_true c5
              clear c5
              by_cases c6 : x4_1 ≤ x5_1
              · rw [if_pos c6] at H
                have c6b0 := eq_true c6
                have c6b1 : decide (x4_1 ≤ x5_1) = true := decide_eq_true c6
                clear c6
                have c7b0 := eq_true (of_decide_eq_true (by first | (with_reducible assumption) | assumption) : x5_1 ≤ (a0.size : Int))
                by_cases c8 : x3_1.length < 8796093022208
                · rw [if_pos c8] at H
                  have LMc8 := Aside0.mk c8
                  clear c8
                  obtain ⟨y142, hy142⟩ : ∃ y_ : List ByteArray, y_ = (x3_1 ++ [a0.extract (x4_1 : Int).toNat (x5_1 : Int).toNat]) := ⟨_, rfl⟩
                  replace H : (montageref13_Parts.l0 k1 a0 y142 (wrap64 (x5_1 + 1)) (wrap64 (x5_1 + 1))) = some r := by first | (rw [hy142]; with_reducible exact H) | (have H2_ := (Option.bind_some _ _).symm.trans H; rw [hy142]; with_reducible exact H2_) | (have H2_ := (Option.bind_some _ _).symm.trans H; with_reducible exact H2_) | with_reducible exact H | (rw [hy142]; exact H) | exact H
                  have Ny142 := Aside0.mk hy142
                  clear hy142
                  have H' := Aside0.mk H
                  clear H
                  go_wp2_with (first | ((with_reducible refine gate_builtin (b := .append) (xs := #[.tmp 24, .tmp 29]) rfl ?_); at_builtin; refine Kd.R_append Kd.string (w0 := w) w.heap.size rfl (.tmp 24) (.tmp 29) 56 9 (.string ⟨#[]⟩) 16 rfl Tryd.underlying56 info9 rfl (by decide) (by omega) u3 x3_1 (a0.extract (x4_1 : Int).toNat (x5_1 : Int).toNat) [.string (a0.extract (x4_1 : Int).toNat (x5_1 : Int).toNat)] (fun _ => True) (fun _ => False) rfl rfl ?aP (fun _ hk => hk.elim) ?aF ?aO ?aB ?aS ?aL ?_; (case aP => exact rfl); (case aB => exact (by repeat (first | (with_reducible first | exact HB.out | apply below_alloc | apply pw_below_drewN | apply below_drew1) | exact HB.out))); (case aF => exact (fun _ _ => trivial)); (case aO => exact (by (with_reducible repeat (first | apply Kd.R_alloc | apply Kd.R_drewN | apply Kd.R_drew)); exact HO_3.out)); (case aS => exact (below_size (by repeat (first | (with_reducible first | exact HB.out | apply below_alloc | apply pw_below_drewN | apply below_drew1) | exact HB.out)))); (case aL => have := LMc8.out; omega); intro v143 w9 ho hb hg hat; rw [← Ny142.out] at ho; have n0_ := Aside0.mk (hb); have n1_ := Aside0.mk (ho); clear HB; clear HO_3; have HB := n0_; have HO144 := n1_; clear n0_ n1_; clear ho hb hg hat))
                  go_roundg k1
                  case measure => have := HK1.out; omega
                  case rel => exact ⟨(y142), (wrap64 (x5_1 + 1)), (wrap64 (x5_1 + 1)), (by first | rfl | (simp; done) | (simp [*]; done)), (by first | rfl | (simp; done) | (simp [*]; done)), H', ⟨by have := HK1.out; omega⟩, ⟨by (with_reducible repeat (first | apply Kd.R_alloc | apply Kd.R_drewN | apply Kd.R_drew)); exact HO144.out⟩, ⟨by repeat (first | (with_reducible first | exact HB.out | apply below_alloc | apply pw_below_drewN | apply below_drew1) | exact HB.out)⟩⟩
                · rw [if_neg c8] at H
                  exact absurd H (by simp)
              · rw [if_neg c6] at H
                exact absurd H (by simp)
            · rw [if_neg c5] at H
              exact absurd H (by simp)
          · rw [if_neg c4] at H
            have c4b0 : (x5_1 == (a0.size : Int)) = false := beq_eq_false_iff_ne.mpr c4
            have c4b1 : (x5_1 != (a0.size : Int)) = true := bne_iff_ne.mpr c4
            by_cases c10 : 0 ≤ x5_1
            · rw [if_pos c10] at H
              have c10b0 : decide (0 ≤ x5_1) = true := decide_eq_true c10
              clear c10
              by_cases c11 : x5_1 < (a0.size : Int)
              · rw [if_pos c11] at H
                have c11b0 : decide (x5_1 < (a0.size : Int)) = true := decide_eq_true c11
                clear c11
                by_cases c13 : (bt a0 x5_1) = 47
                · rw [if_pos c13] at H
                  have c13b0 : ((bt a0 x5_1) == 47) = true := beq_iff_eq.mpr c13
                  have c13b1 : ((bt a0 x5_1) != 47) = false := bne_eq_false_iff_eq.mpr c13
                  clear c13
                  by_cases c14 : 0 ≤ x4_1
                  · rw [if_pos c14] at H
                    have c14b0 := eq_true c14
                    have c14b1 : decide (0 ≤ x4_1) = true := decide_eq_true c14
                    clear c14
                    by_cases c15 : x4_1 ≤ x5_1
                    · rw [if_pos c15] at H
                      have c15b0 := eq_true c15
                      have c15b1 : decide (x4_1 ≤ x5_1) = true := decide_eq_true c15
                      clear c15
                      have c16b0 := eq_true (of_decide_eq_true (by first | (with_reducible assumption) | assumption) : x5_1 ≤ (a0.size : Int))
                      by_cases c17 : x3_1.length < 8796093022208
                      · rw [if_pos c17] at H
                        have LMc17 := Aside0.mk c17
                        clear c17
                        obtain ⟨y145, hy145⟩ : ∃ y_ : List ByteArray, y_ = (x3_1 ++ [a0.extract (x4_1 : Int).toNat (x5_1 : Int).toNat]) := ⟨_, rfl⟩
                        replace H : (montageref13_Parts.l0 k1 a0 y145 (wrap64 (x5_1 + 1)) (wrap64 (x5_1 + 1))) = some r := by first | (rw [hy145]; with_reducible exact H) | (have H2_ := (Option.bind_some _ _).symm.trans H; rw [hy145]; with_reducible exact H2_) | (have H2_ := (Option.bind_some _ _).symm.trans H; with_reducible exact H2_) | with_reducible exact H | (rw [hy145]; exact H) | exact H
                        have Ny145 := Aside0.mk hy145
                        clear hy145
                        have H' := Aside0.mk H
                        clear H
                        have p12 : 0 ≤ (x5_1 : Int) := of_decide_eq_true (by first | (with_reducible assumption) | assumption)
                        have q12 : x5_1 < (a0.size : Int) := of_decide_eq_true (by first | (with_reducible assumption) | assumption)
                        have hx12 := bt_at a0 x5_1
                        replace p12 := eq_true p12
                        replace q12 := eq_true q12
                        go_wp2_with (first | ((with_reducible refine gate_builtin (b := .append) (xs := #[.tmp 24, .tmp 29]) rfl ?_); at_builtin; refine Kd.R_append Kd.string (w0 := w) w.heap.size rfl (.tmp 24) (.tmp 29) 56 9 (.string ⟨#[]⟩) 16 rfl Tryd.underlying56 info9 rfl (by decide) (by omega) u3 x3_1 (a0.extract (x4_1 : Int).toNat (x5_1 : Int).toNat) [.string (a0.extract (x4_1 : Int).toNat (x5_1 : Int).toNat)] (fun _ => True) (fun _ => False) rfl rfl ?aP (fun _ hk => hk.elim) ?aF ?aO ?aB ?aS ?aL ?_; (case aP => exact rfl); (case aB => exact (by repeat (first | (with_reducible first | exact HB.out | apply below_alloc | apply pw_below_drewN | apply below_drew1) | exact HB.out))); (case aF => exact (fun _ _ => trivial)); (case aO => exact (by (with_reducible repeat (first | apply Kd.R_alloc | apply Kd.R_drewN | apply Kd.R_drew)); exact HO_3.out)); (case aS => exact (below_size (by repeat (first | (with_reducible first | exact HB.out | apply below_alloc | apply pw_below_drewN | apply below_drew1) | exact HB.out)))); (case aL => have := LMc17.out; omega); intro v146 w18 ho hb hg hat; rw [← Ny145.out] at ho; have n0_ := Aside0.mk (hb); have n1_ := Aside0.mk (ho); clear HB; clear HO_3; have HB := n0_; have HO147 := n1_; clear n0_ n1_; clear ho hb hg hat))
                        go_roundg k1
                        case measure => have := HK1.out; omega
                        case rel => exact ⟨(y145), (wrap64 (x5_1 + 1)), (wrap64 (x5_1 + 1)), (by first | rfl | (simp; done) | (simp [*]; done)), (by first | rfl | (simp; done) | (simp [*]; done)), H', ⟨by have := HK1.out; omega⟩, ⟨by (with_reducible repeat (first | apply Kd.R_alloc | apply Kd.R_drewN | apply Kd.R_drew)); exact HO147.out⟩, ⟨by repeat (first | (with_reducible first | exact HB.out | apply below_alloc | apply pw_below_drewN | apply below_drew1) | exact HB.out)⟩⟩
                      · rw [if_neg c17] at H
                        exact absurd H (by simp)
                    · rw [if_neg c15] at H
                      exact absurd H (by simp)
                  · rw [if_neg c14] at H
                    exact absurd H (by simp)
                · rw [if_neg c13] at H
                  have c13b0 : ((bt a0 x5_1) == 47) = false := beq_eq_false_iff_ne.mpr c13
                  have c13b1 : ((bt a0 x5_1) != 47) = true := bne_iff_ne.mpr c13
                  have H' := Aside0.mk H
                  clear H
                  have p12 : 0 ≤ (x5_1 : Int) := of_decide_eq_true (by first | (with_reducible assumption) | assumption)
                  have q12 : x5_1 < (a0.size : Int) := of_decide_eq_true (by first | (with_reducible assumption) | assumption)
                  have hx12 := bt_at a0 x5_1
                  replace p12 := eq_true p12
                  replace q12 := eq_true q12
                  go_wp2
                  go_roundg k1
                  case measure => have := HK1.out; omega
                  case rel => exact ⟨(x3_1), (x4_1), (wrap64 (x5_1 + 1)), (by first | rfl | (simp; done) | (simp [*]; done)), (by first | rfl | (simp; done) | (simp [*]; done)), H', ⟨by have := HK1.out; omega⟩, ⟨by (with_reducible repeat (first | apply Kd.R_alloc | apply Kd.R_drewN | apply Kd.R_drew)); exact HO_3.out⟩, ⟨by repeat (first | (with_reducible first | exact HB.out | apply below_alloc | apply pw_below_drewN | apply below_drew1) | exact HB.out)⟩⟩
              · rw [if_neg c11] at H
                exact absurd H (by simp)
            · rw [if_neg c10] at H
              exact absurd H (by simp)
        · rw [if_neg c3] at H
          have c3b0 : decide (x5_1 ≤ (a0.size : Int)) = false := decide_eq_false c3
          clear c3
          obtain rfl := Option.some.inj H
          go_wp2
          go_ret
          exact ⟨_, by first | rfl | (simp [errW_none, errW_some] <;> rfl) | (simp [*, errW_none, errW_some] <;> rfl), by (with_reducible repeat (first | apply Kd.R_alloc | apply Kd.R_drewN | apply Kd.R_drew)); exact HO_3.out, by repeat (first | (with_reducible first | exact HB.out | apply below_alloc | apply pw_below_drewN | apply below_drew1) | exact HB.out)⟩

/-! ### montageref37_tokens: function 53 -/
def montageref37_tokens.l0 : Nat → ByteArray → List Int → Int → Option (List Int × Bool)
  | 0, _, _, _ => none
  | k + 1, x0, x4, x5 => if x5 < (x0.size : Int) then (if 0 ≤ x5 then (if (bt x0 x5) = 92 then (if (wrap64 (x5 + 1)) = (x0.size : Int) then (some (([] : List Int), false)) else (if 0 ≤ (wrap64 (x5 + 1)) then (if (wrap64 (x5 + 1)) < (x0.size : Int) then (if x4.length < 17592186044416 then (montageref37_tokens.l0 k x0 (x4 ++ [wrap64 (bt x0 (wrap64 (x5 + 1)))]) (wrap64 ((wrap64 (x5 + 1)) + 1))) else (none)) else (none)) else (none))) else (if (bt x0 x5) = 63 then (if x4.length < 17592186044416 then (montageref37_tokens.l0 k x0 (x4 ++ [256]) (wrap64 (x5 + 1))) else (none)) else (if (bt x0 x5) = 42 then (if (x4.length : Int) > 0 then (if 0 ≤ (wrap64 ((x4.length : Int) - 1)) then (if (wrap64 ((x4.length : Int) - 1)) < (x4.length : Int) then (if (rd x4 (wrap64 ((x4.length : Int) - 1))) = 257 then (some (([] : List Int), false)) else (if x4.length < 17592186044416 then (montageref37_tokens.l0 k x0 (x4 ++ [257]) (wrap64 (x5 + 1))) else (none))) else (none)) else (none)) else (if x4.length < 17592186044416 then (montageref37_tokens.l0 k x0 (x4 ++ [257]) (wrap64 (x5 + 1))) else (none))) else (if x4.length < 17592186044416 then (montageref37_tokens.l0 k x0 (x4 ++ [wrap64 (bt x0 x5)]) (wrap64 (x5 + 1))) else (none))))) else (none)) else (if (x0.size : Int) ≥ 1 then (some (x4, decide ((x0.size : Int) ≤ 255))) else (some (x4, false)))
def montageref37_tokens.f (k : Nat) (a0 : ByteArray) : Option (List Int × Bool) := montageref37_tokens.l0 k a0 ([] : List Int) 0
theorem montageref37_tokens.mono_l : ∀ k, (∀ y0 y1 y2, LeO (montageref37_tokens.l0 k y0 y1 y2) (montageref37_tokens.l0 (k + 1) y0 y1 y2))
  | 0 => fun _ _ _ r h => by simp [montageref37_tokens.l0] at h
  | k + 1 => by
    have ih0 := montageref37_tokens.mono_l k
    · intro y0 y1 y2
      unfold montageref37_tokens.l0
      repeat' first
      | (with_reducible exact ih0 _ _ _)
      | (with_reducible exact LeO.refl _)
      | (with_reducible exact LeO.none _)
      | (with_reducible refine LeO.ite ?_ ?_)
      | (with_reducible refine LeO.bind ?_ (fun _ => ?_))
      | exact ih0 _ _ _
      | exact LeO.none _
      | refine LeO.ite ?_ ?_
      | refine LeO.bind ?_ (fun _ => ?_)
theorem montageref37_tokens.mono : ∀ a0 k, LeO (montageref37_tokens.f k a0) (montageref37_tokens.f (k + 1) a0) := by
  intro a0 k
  have ih0 := montageref37_tokens.mono_l k
  unfold montageref37_tokens.f
  repeat' first
      | (with_reducible exact ih0 _ _ _)
      | (with_reducible exact LeO.refl _)
      | (with_reducible exact LeO.none _)
      | (with_reducible refine LeO.ite ?_ ?_)
      | (with_reducible refine LeO.bind ?_ (fun _ => ?_))
      | exact ih0 _ _ _
      | exact LeO.none _
      | refine LeO.ite ?_ ?_
      | refine LeO.bind ?_ (fun _ => ?_)
set_option maxHeartbeats 8000000 in
set_option maxRecDepth 100000 in
theorem montageref37_tokens.calls (k : Nat) (a0 : ByteArray) (r1 : List Int) (r2 : Bool) (w : World) (h : montageref37_tokens.f k a0 = some (r1, r2)) :
    Calls Tryd.prog 53 #[.string a0] w fun e w' => ∃ v0_ : Value, e = .returned (.tuple #[v0_, .bool r2]) ∧ Kd.R (Kd.int .i64) 3 w' w.heap.size (fun _ => True) v0_ r1 ∧ Below w.heap.size w w' := by
  have HB := Aside0.mk (Below.refl w.heap.size w)
  have H : (montageref37_tokens.l0 k a0 ([] : List Int) 0) = some (r1, r2) := h
  clear h
  have H' := Aside0.mk H
  clear H
  go_enter Tryd.func53, Tryd.ntmps53
  go_wp2
  go_loopg [4, 5] k (fun kq v4 v5 w' => ∃ (x4_1 : List Int) (x5_1 : Int), v5 = .int .i64 x5_1 ∧ Aside0 (montageref37_tokens.l0 kq a0 x4_1 x5_1 = some (r1, r2)) ∧ Aside0 (kq ≤ k) ∧ Aside0 (Kd.R (Kd.int .i64) 3 w' w.heap.size (fun _ => True) v4 x4_1) ∧ Aside0 (Below w.heap.size w w'))
  case atStart => exact ⟨(([] : List Int)), (0), (by first | rfl | (simp; done) | (simp [*]; done)), H', ⟨Nat.le_refl _⟩, ⟨by first | exact Kd.R_nil _ _ _ _ _ | exact Kd.N_nil _ _ _ _ _ | exact Kd.V_nil _ _ _ _ _ | exact Kd.Q_nil _ _ _ _ _ | exact Kd.S_nil _ _ _ _ _⟩, ⟨by repeat (first | (with_reducible first | exact HB.out | apply below_alloc | apply pw_below_drewN | apply below_drew1) | exact HB.out)⟩⟩
  case round =>
    clear H'
    obtain ⟨x4_1, x5_1, rfl, HA, HK1, HO_4, HB⟩ := hrel
    cases gk with
    | zero => exact absurd HA.out (by simp [montageref37_tokens.l0])
    | succ k1 =>
      have H := HA.out
      clear HA
      simp only [montageref37_tokens.l0] at H
      by_cases c2 : x5_1 < (a0.size : Int)
      · rw [if_pos c2] at H
        have c2b0 : decide (x5_1 < (a0.size : Int)) = true := decide_eq_true c2
        clear c2
        by_cases c3 : 0 ≤ x5_1
        · rw [if_pos c3] at H
          have c3b0 : decide (0 ≤ x5_1) = true := decide_eq_true c3
          clear c3
          by_cases c5 : (bt a0 x5_1) = 92
          · rw [if_pos c5] at H
            have c5b0 : ((bt a0 x5_1) == 92) = true := beq_iff_eq.mpr c5
            have c5b1 : ((bt a0 x5_1) != 92) = false := bne_eq_false_iff_eq.mpr c5
            clear c5
            by_cases c6 : (wrap64 (x5_1 + 1)) = (a0.size : Int)
            · rw [if_pos c6] at H
              have c6b0 : ((wrap64 (x5_1 + 1)) == (a0.size : Int)) = true := beq_iff_eq.mpr c6
              have c6b1 : ((wrap64 (x5_1 + 1)) != (a0.size : Int)) = false := bne_eq_false_iff_eq.mpr c6
              clear c6
              simp only [Option.some.injEq, Prod.mk.injEq] at H
              obtain ⟨rfl, rfl⟩ := H
              have p4 : 0 ≤ (x5_1 : Int) := of_decide_eq_true (by first | (with_reducible assumption) | assumption)
              have q4 : x5_1 < (a0.size : Int) := of_decide_eq_true (by first | (with_reducible assumption) | assumption)
              have hx4 := bt_at a0 x5_1
              replace p4 := eq_true p4
              replace q4 := eq_true q4
              go_wp2
              go_ret2
              exact ⟨_, by first | rfl | (simp [errW_none, errW_some] <;> rfl) | (simp [*, errW_none, errW_some] <;> rfl), by first | exact Kd.R_nil _ _ _ _ _ | exact Kd.N_nil _ _ _ _ _ | exact Kd.V_nil _ _ _ _ _ | exact Kd.Q_nil _ _ _ _ _ | exact Kd.S_nil _ _ _ _ _, by repeat (first | (with_reducible first | exact HB.out | apply below_alloc | apply pw_below_drewN | apply below_drew1) | exact HB.out)⟩
            · rw [if_neg c6] at H
              have c6b0 : ((wrap64 (x5_1 + 1)) == (a0.size : Int)) = false := beq_eq_false_iff_ne.mpr c6
              have c6b1 : ((wrap64 (x5_1 + 1)) != (a0.size : Int)) = true := bne_iff_ne.mpr c6
              obtain ⟨ji7, hji7⟩ : ∃ j_ : Int, (wrap64 (x5_1 + 1)) = j_ := ⟨_, rfl⟩
              replace H : (if 0 ≤ (ji7) then (if (ji7) < (a0.size : Int) then (if x4_1.length < 17592186044416 then (montageref37_tokens.l0 k1 a0 (x4_1 ++ [wrap64 (bt a0 (ji7))]) (wrap64 ((ji7) + 1))) else (none)) else (none)) else (none)) = some (r1, r2) := by first | (rw [hji7] at H; exact H) | (simp only [hji7] at H ⊢; exact H)
              (try rw [hji7] at c6b0)
              (try rw [hji7] at c6b1)
              have hji7w : (IntKind.i64.wrap (x5_1 + 1)) = ji7 := (i64_w _).trans hji7
              by_cases c8 : 0 ≤ (ji7)
              · rw [if_pos c8] at H
                have c8b0 : decide (0 ≤ (ji7)) = true := decide_eq_true c8
                clear c8
                by_cases c9 : (ji7) < (a0.size : Int)
                · rw [if_pos c9] at H
                  have c9b0 : decide ((ji7) < (a0.size : Int)) = true := decide_eq_true c9
                  clear c9
                  by_cases c11 : x4_1.length < 17592186044416
                  · rw [if_pos c11] at H
                    have LMc11 := Aside0.mk c11
                    clear c11
                    obtain ⟨y148, hy148⟩ : ∃ y_ : List Int, y_ = (x4_1 ++ [wrap64 (bt a0 (ji7))]) := ⟨_, rfl⟩
                    replace H : (montageref37_tokens.l0 k1 a0 y148 (wrap64 ((ji7) + 1))) = some (r1, r2) := by first | (rw [hy148]; with_reducible exact H) | (have H2_ := (Option.bind_some _ _).symm.trans H; rw [hy148]; with_reducible exact H2_) | (have H2_ := (Option.bind_some _ _).symm.trans H; with_reducible exact H2_) | with_reducible exact H | (rw [hy148]; exact H) | exact H
                    have Ny148 := Aside0.mk hy148
                    clear hy148
                    have H' := Aside0.mk H
                    clear H
                    have p4 : 0 ≤ (x5_1 : Int) := of_decide_eq_true (by first | (with_reducible assumption) | assumption)
                    have q4 : x5_1 < (a0.size : Int) := of_decide_eq_true (by first | (with_reducible assumption) | assumption)
                    have hx4 := bt_at a0 x5_1
                    replace p4 := eq_true p4
                    replace q4 := eq_true q4
                    have p10 : 0 ≤ ((ji7) : Int) := of_decide_eq_true (by first | (with_reducible assumption) | assumption)
                    have q10 : (ji7) < (a0.size : Int) := of_decide_eq_true (by first | (with_reducible assumption) | assumption)
                    have hx10 := bt_at a0 (ji7)
                    replace p10 := eq_true p10
                    replace q10 := eq_true q10
                    go_wp2_with (first | ((with_reducible refine gate_builtin (b := .append) (xs := #[.tmp 23, .tmp 28]) rfl ?_); (try (refine gate_guard (by rfl) ?_; dsimp only)); at_builtin; refine Kd.R_append (Kd.int .i64) (w0 := w) w.heap.size rfl (.tmp 23) (.tmp 28) 74 3 (.int .i64 0) 8 rfl Tryd.underlying74 info3 rfl (by decide) (by omega) u4 x4_1 (wrap64 (bt a0 (ji7))) [.int .i64 (wrap64 (bt a0 (ji7)))] (fun _ => True) (fun _ => False) rfl rfl ?aP (fun _ hk => hk.elim) ?aF ?aO ?aB ?aS ?aL ?_; (case aP => exact rfl); (case aB => exact (by repeat (first | (with_reducible first | exact HB.out | apply below_alloc | apply pw_below_drewN | apply below_drew1) | exact HB.out))); (case aF => exact (fun _ _ => trivial)); (case aO => exact (by (with_reducible repeat (first | apply Kd.R_alloc | apply Kd.R_drewN | apply Kd.R_drew)); exact HO_4.out)); (case aS => exact (below_size (by repeat (first | (with_reducible first | exact HB.out | apply below_alloc | apply pw_below_drewN | apply below_drew1) | exact HB.out)))); (case aL => have := LMc11.out; omega); intro v149 w12 ho hb hg hat; rw [← Ny148.out] at ho; have n0_ := Aside0.mk (hb); have n1_ := Aside0.mk (ho); clear HB; clear HO_4; have HB := n0_; have HO150 := n1_; clear n0_ n1_; clear ho hb hg hat))
                    go_roundg k1
                    case measure => have := HK1.out; omega
                    case rel => exact ⟨(y148), (wrap64 ((ji7) + 1)), (by first | rfl | (simp; done) | (simp only [← hji7] <;> (first | rfl | (simp; done) | (simp only [shl, shr, i64_w] <;> rfl))) | (simp [*]; done)), H', ⟨by have := HK1.out; omega⟩, ⟨by (with_reducible repeat (first | apply Kd.R_alloc | apply Kd.R_drewN | apply Kd.R_drew)); exact HO150.out⟩, ⟨by repeat (first | (with_reducible first | exact HB.out | apply below_alloc | apply pw_below_drewN | apply below_drew1) | exact HB.out)⟩⟩
                  · rw [if_neg c11] at H
                    exact absurd H (by simp)
                · rw [if_neg c9] at H
                  exact absurd H (by simp)
              · rw [if_neg c8] at H
                exact absurd H (by simp)
          · rw [if_neg c5] at H
            have c5b0 : ((bt a0 x5_1) == 92) = false := beq_eq_false_iff_ne.mpr c5
            have c5b1 : ((bt a0 x5_1) != 92) = true := bne_iff_ne.mpr c5
            by_cases c14 : (bt a0 x5_1) = 63
            · rw [if_pos c14] at H
              have c14b0 : ((bt a0 x5_1) == 63) = true := beq_iff_eq.mpr c14
              have c14b1 : ((bt a0 x5_1) != 63) = false := bne_eq_false_iff_eq.mpr c14
              clear c14
              by_cases c15 : x4_1.length < 17592186044416
              · rw [if_pos c15] at H
                have LMc15 := Aside0.mk c15
                clear c15
                obtain ⟨y151, hy151⟩ : ∃ y_ : List Int, y_ = (x4_1 ++ [256]) := ⟨_, rfl⟩
                replace H : (montageref37_tokens.l0 k1 a0 y151 (wrap64 (x5_1 + 1))) = some (r1, r2) := by first | (rw [hy151]; with_reducible exact H) | (have H2_ := (Option.bind_some _ _).symm.trans H; rw [hy151]; with_reducible exact H2_) | (have H2_ := (Option.bind_some _ _).symm.trans H; with_reducible exact H2_) | with_reducible exact H | (rw [hy151]; exact H) | exact H
                have Ny151 := Aside0.mk hy151
                clear hy151
                have H' := Aside0.mk H
                clear H
                have p4 : 0 ≤ (x5_1 : Int) := of_decide_eq_true (by first | (with_reducible assumption) | assumption)
                have q4 : x5_1 < (a0.size : Int) := of_decide_eq_true (by first | (with_reducible assumption) | assumption)
                have hx4 := bt_at a0 x5_1
                replace p4 := eq_true p4
                replace q4 := eq_true q4
                have p13 : 0 ≤ (x5_1 : Int) := of_decide_eq_true (by first | (with_reducible assumption) | assumption)
                have q13 : x5_1 < (a0.size : Int) := of_decide_eq_true (by first | (with_reducible assumption) | assumption)
                have hx13 := bt_at a0 x5_1
                replace p13 := eq_true p13
                replace q13 := eq_true q13
                go_wp2_with (first | ((with_reducible refine gate_builtin (b := .append) (xs := #[.tmp 34, .tmp 35]) rfl ?_); (try (refine gate_guard (by rfl) ?_; dsimp only)); at_builtin; refine Kd.R_append (Kd.int .i64) (w0 := w) w.heap.size rfl (.tmp 34) (.tmp 35) 74 3 (.int .i64 0) 8 rfl Tryd.underlying74 info3 rfl (by decide) (by omega) u4 x4_1 256 [.int .i64 256] (fun _ => True) (fun _ => False) rfl rfl ?aP (fun _ hk => hk.elim) ?aF ?aO ?aB ?aS ?aL ?_; (case aP => exact rfl); (case aB => exact (by repeat (first | (with_reducible first | exact HB.out | apply below_alloc | apply pw_below_drewN | apply below_drew1) | exact HB.out))); (case aF => exact (fun _ _ => trivial)); (case aO => exact (by (with_reducible repeat (first | apply Kd.R_alloc | apply Kd.R_drewN | apply Kd.R_drew)); exact HO_4.out)); (case aS => exact (below_size (by repeat (first | (with_reducible first | exact HB.out | apply below_alloc | apply pw_below_drewN | apply below_drew1) | exact HB.out)))); (case aL => have := LMc15.out; omega); intro v152 w16 ho hb hg hat; rw [← Ny151.out] at ho; have n0_ := Aside0.mk (hb); have n1_ := Aside0.mk (ho); clear HB; clear HO_4; have HB := n0_; have HO153 := n1_; clear n0_ n1_; clear ho hb hg hat))
                go_roundg k1
                case measure => have := HK1.out; omega
                case rel => exact ⟨(y151), (wrap64 (x5_1 + 1)), (by first | rfl | (simp; done) | (simp [*]; done)), H', ⟨by have := HK1.out; omega⟩, ⟨by (with_reducible repeat (first | apply Kd.R_alloc | apply Kd.R_drewN | apply Kd.R_drew)); exact HO153.out⟩, ⟨by repeat (first | (with_reducible first | exact HB.out | apply below_alloc | apply pw_below_drewN | apply below_drew1) | exact HB.out)⟩⟩
              · rw [if_neg c15] at H
                exact absurd H (by simp)
            · rw [if_neg c14] at H
              have c14b0 : ((bt a0 x5_1) == 63) = false := beq_eq_false_iff_ne.mpr c14
              have c14b1 : ((bt a0 x5_1) != 63) = true := bne_iff_ne.mpr c14
              by_cases c18 : (bt a0 x5_1) = 42
              · rw [if_pos c18] at H
                have c18b0 : ((bt a0 x5_1) == 42) = true := beq_iff_eq.mpr c18
                have c18b1 : ((bt a0 x5_1) != 42) = false := bne_eq_false_iff_eq.mpr c18
                clear c18
                by_cases c19 : (x4_1.length : Int) > 0
                · rw [if_pos c19] at H
                  have c19b0 : decide (0 < (x4_1.length : Int)) = true := decide_eq_true c19
                  have c19b1 : decide (0 < x4_1.length) = true := decide_eq_true (by omega)
                  clear c19
                  obtain ⟨ji20, hji20⟩ : ∃ j_ : Int, (wrap64 ((x4_1.length : Int) - 1)) = j_ := ⟨_, rfl⟩
                  replace H : (if 0 ≤ (ji20) then (if (ji20) < (x4_1.length : Int) then (if (rd x4_1 (ji20)) = 257 then (some (([] : List Int), false)) else (if x4_1.length < 17592186044416 then (montageref37_tokens.l0 k1 a0 (x4_1 ++ [257]) (wrap64 (x5_1 + 1))) else (none))) else (none)) else (none)) = some (r1, r2) := by first | (rw [hji20] at H; exact H) | (simp only [hji20] at H ⊢; exact H)
                  have hji20w : (IntKind.i64.wrap ((x4_1.length : Int) - 1)) = ji20 := (i64_w _).trans hji20
                  by_cases c21 : 0 ≤ (ji20)
                  · rw [if_pos c21] at H
                    have c21b0 : decide (0 ≤ (ji20)) = true := decide_eq_true c21
                    clear c21
                    by_cases c22 : (ji20) < (x4_1.length : Int)
                    · rw [if_pos c22] at H
                      have c22b0 : decide ((ji20) < (x4_1.length : Int)) = true := decide_eq_true c22
                      clear c22
                      by_cases c23 : (rd x4_1 (ji20)) = 257
                      · rw [if_pos c23] at H
                        have c23b0 : ((rd x4_1 (ji20)) == 257) = true := beq_iff_eq.mpr c23
                        have c23b1 : ((rd x4_1 (ji20)) != 257) = false := bne_eq_false_iff_eq.mpr c23
                        clear c23
                        simp only [Option.some.injEq, Prod.mk.injEq] at H
                        obtain ⟨rfl, rfl⟩ := H
                        have p4 : 0 ≤ (x5_1 : Int) := of_decide_eq_true (by first | (with_reducible assumption) | assumption)
                        have q4 : x5_1 < (a0.size : Int) := of_decide_eq_true (by first | (with_reducible assumption) | assumption)
                        have hx4 := bt_at a0 x5_1
                        replace p4 := eq_true p4
                        replace q4 := eq_true q4
                        have p13 : 0 ≤ (x5_1 : Int) := of_decide_eq_true (by first | (with_reducible assumption) | assumption)
                        have q13 : x5_1 < (a0.size : Int) := of_decide_eq_true (by first | (with_reducible assumption) | assumption)
                        have hx13 := bt_at a0 x5_1
                        replace p13 := eq_true p13
                        replace q13 := eq_true q13
                        have p17 : 0 ≤ (x5_1 : Int) := of_decide_eq_true (by first | (with_reducible assumption) | assumption)
                        have q17 : x5_1 < (a0.size : Int) := of_decide_eq_true (by first | (with_reducible assumption) | assumption)
                        have hx17 := bt_at a0 x5_1
                        replace p17 := eq_true p17
                        replace q17 := eq_true q17
                        obtain ⟨Ao24, co24, eo24⟩ := Kd.R_slice HO_4.out
                        subst eo24
                        have p154 : 0 ≤ ((ji20) : Int) := of_decide_eq_true (by first | (with_reducible assumption) | assumption)
                        have q154 : (ji20) < (x4_1.length : Int) := of_decide_eq_true (by first | (with_reducible assumption) | assumption)
                        obtain ⟨ad154, e154, hx154_0⟩ := Kd.at_int (Kd.R_reads' HO_4.out).2.2 (ji20) p154 q154
                        cases e154
                        replace p154 := eq_true p154
                        replace q154 := eq_true q154
                        go_wp2
                        go_ret2
                        exact ⟨_, by first | rfl | (simp [errW_none, errW_some] <;> rfl) | (simp only [← hji20]; first | rfl | (simp [errW_none, errW_some] <;> rfl)) | (simp [*, errW_none, errW_some] <;> rfl), by first | exact Kd.R_nil _ _ _ _ _ | exact Kd.N_nil _ _ _ _ _ | exact Kd.V_nil _ _ _ _ _ | exact Kd.Q_nil _ _ _ _ _ | exact Kd.S_nil _ _ _ _ _, by repeat (first | (with_reducible first | exact HB.out | apply below_alloc | apply pw_below_drewN | apply below_drew1) | exact HB.out)⟩
                      · rw [if_neg c23] at H
                        have c23b0 : ((rd x4_1 (ji20)) == 257) = false := beq_eq_false_iff_ne.mpr c23
                        have c23b1 : ((rd x4_1 (ji20)) != 257) = true := bne_iff_ne.mpr c23
                        by_cases c25 : x4_1.length < 17592186044416
                        · rw [if_pos c25] at H
                          have LMc25 := Aside0.mk c25
                          clear c25
                          obtain ⟨y155, hy155⟩ : ∃ y_ : List Int, y_ = (x4_1 ++ [257]) := ⟨_, rfl⟩
                          replace H : (montageref37_tokens.l0 k1 a0 y155 (wrap64 (x5_1 + 1))) = some (r1, r2) := by first | (rw [hy155]; with_reducible exact H) | (have H2_ := (Option.bind_some _ _).symm.trans H; rw [hy155]; with_reducible exact H2_) | (have H2_ := (Option.bind_some _ _).symm.trans H; with_reducible exact H2_) | with_reducible exact H | (rw [hy155]; exact H) | exact H
                          have Ny155 := Aside0.mk hy155
                          clear hy155
                          have H' := Aside0.mk H
                          clear H
                          have p4 : 0 ≤ (x5_1 : Int) := of_decide_eq_true (by first | (with_reducible assumption) | assumption)
                          have q4 : x5_1 < (a0.size : Int) := of_decide_eq_true (by first | (with_reducible assumption) | assumption)
                          have hx4 := bt_at a0 x5_1
                          replace p4 := eq_true p4
                          replace q4 := eq_true q4
                          have p13 : 0 ≤ (x5_1 : Int) := of_decide_eq_true (by first | (with_reducible assumption) | assumption)
                          have q13 : x5_1 < (a0.size : Int) := of_decide_eq_true (by first | (with_reducible assumption) | assumption)
                          have hx13 := bt_at a0 x5_1
                          replace p13 := eq_true p13
                          replace q13 := eq_true q13
                          have p17 : 0 ≤ (x5_1 : Int) := of_decide_eq_true (by first | (with_reducible assumption) | assumption)
                          have q17 : x5_1 < (a0.size : Int) := of_decide_eq_true (by first | (with_reducible assumption) | assumption)
                          have hx17 := bt_at a0 x5_1
                          replace p17 := eq_true p17
                          replace q17 := eq_true q17
                          obtain ⟨Ao26, co26, eo26⟩ := Kd.R_slice HO_4.out
                          subst eo26
                          have p154 : 0 ≤ ((ji20) : Int) := of_decide_eq_true (by first | (with_reducible assumption) | assumption)
                          have q154 : (ji20) < (x4_1.length : Int) := of_decide_eq_true (by first | (with_reducible assumption) | assumption)
                          obtain ⟨ad154, e154, hx154_0⟩ := Kd.at_int (Kd.R_reads' HO_4.out).2.2 (ji20) p154 q154
                          cases e154
                          replace p154 := eq_true p154
                          replace q154 := eq_true q154
                          go_wp2_with (first | ((with_reducible refine gate_builtin (b := .append) (xs := #[.tmp 53, .tmp 54]) rfl ?_); (try (refine gate_guard (by rfl) ?_; dsimp only)); at_builtin; refine Kd.R_append (Kd.int .i64) (w0 := w) w.heap.size rfl (.tmp 53) (.tmp 54) 74 3 (.int .i64 0) 8 rfl Tryd.underlying74 info3 rfl (by decide) (by omega) (.slice (some ad154) x4_1.length co26) x4_1 257 [.int .i64 257] (fun _ => True) (fun _ => False) rfl rfl ?aP (fun _ hk => hk.elim) ?aF ?aO ?aB ?aS ?aL ?_; (case aP => exact rfl); (case aB => exact (by repeat (first | (with_reducible first | exact HB.out | apply below_alloc | apply pw_below_drewN | apply below_drew1) | exact HB.out))); (case aF => exact (fun _ _ => trivial)); (case aO => exact (by (with_reducible repeat (first | apply Kd.R_alloc | apply Kd.R_drewN | apply Kd.R_drew)); exact HO_4.out)); (case aS => exact (below_size (by repeat (first | (with_reducible first | exact HB.out | apply below_alloc | apply pw_below_drewN | apply below_drew1) | exact HB.out)))); (case aL => have := LMc25.out; omega); intro v156 w27 ho hb hg hat; rw [← Ny155.out] at ho; have n0_ := Aside0.mk (hb); have n1_ := Aside0.mk (ho); clear HB; clear HO_4; have HB := n0_; have HO157 := n1_; clear n0_ n1_; clear ho hb hg hat))
                          go_roundg k1
                          case measure => have := HK1.out; omega
                          case rel => exact ⟨(y155), (wrap64 (x5_1 + 1)), (by first | rfl | (simp; done) | (simp [*]; done)), H', ⟨by have := HK1.out; omega⟩, ⟨by (with_reducible repeat (first | apply Kd.R_alloc | apply Kd.R_drewN | apply Kd.R_drew)); exact HO157.out⟩, ⟨by repeat (first | (with_reducible first | exact HB.out | apply below_alloc | apply pw_below_drewN | apply below_drew1) | exact HB.out)⟩⟩
                        · rw [if_neg c25] at H
                          exact absurd H (by simp)
                    · rw [if_neg c22] at H
                      exact absurd H (by simp)
                  · rw [if_neg c21] at H
                    exact absurd H (by simp)
                · rw [if_neg c19] at H
                  have c19b0 : decide (0 < (x4_1.length : Int)) = false := decide_eq_false c19
                  have c19b1 : decide (0 < x4_1.length) = false := decide_eq_false (by omega)
                  clear c19
                  by_cases c28 : x4_1.length < 17592186044416
                  · rw [if_pos c28] at H
                    have LMc28 := Aside0.mk c28
                    clear c28
                    obtain ⟨y158, hy158⟩ : ∃ y_ : List Int, y_ = (x4_1 ++ [257]) := ⟨_, rfl⟩
                    replace H : (montageref37_tokens.l0 k1 a0 y158 (wrap64 (x5_1 + 1))) = some (r1, r2) := by first | (rw [hy158]; with_reducible exact H) | (have H2_ := (Option.bind_some _ _).symm.trans H; rw [hy158]; with_reducible exact H2_) | (have H2_ := (Option.bind_some _ _).symm.trans H; with_reducible exact H2_) | with_reducible exact H | (rw [hy158]; exact H) | exact H
                    have Ny158 := Aside0.mk hy158
                    clear hy158
                    have H' := Aside0.mk H
                    clear H
                    have p4 : 0 ≤ (x5_1 : Int) := of_decide_eq_true (by first | (with_reducible assumption) | assumption)
                    have q4 : x5_1 < (a0.size : Int) := of_decide_eq_true (by first | (with_reducible assumption) | assumption)
                    have hx4 := bt_at a0 x5_1
                    replace p4 := eq_true p4
                    replace q4 := eq_true q4
                    have p13 : 0 ≤ (x5_1 : Int) := of_decide_eq_true (by first | (with_reducible assumption) | assumption)
                    have q13 : x5_1 < (a0.size : Int) := of_decide_eq_true (by first | (with_reducible assumption) | assumption)
                    have hx13 := bt_at a0 x5_1
                    replace p13 := eq_true p13
                    replace q13 := eq_true q13
                    have p17 : 0 ≤ (x5_1 : Int) := of_decide_eq_true (by first | (with_reducible assumption) | assumption)
                    have q17 : x5_1 < (a0.size : Int) := of_decide_eq_true (by first | (with_reducible assumption) | assumption)
                    have hx17 := bt_at a0 x5_1
                    replace p17 := eq_true p17
                    replace q17 := eq_true q17
                    obtain ⟨Ao29, co29, eo29⟩ := Kd.R_slice HO_4.out
                    subst eo29
                    go_wp2_with (first | ((with_reducible refine gate_builtin (b := .append) (xs := #[.tmp 53, .tmp 54]) rfl ?_); (try (refine gate_guard (by rfl) ?_; dsimp only)); at_builtin; refine Kd.R_append (Kd.int .i64) (w0 := w) w.heap.size rfl (.tmp 53) (.tmp 54) 74 3 (.int .i64 0) 8 rfl Tryd.underlying74 info3 rfl (by decide) (by omega) (.slice Ao29 x4_1.length co29) x4_1 257 [.int .i64 257] (fun _ => True) (fun _ => False) rfl rfl ?aP (fun _ hk => hk.elim) ?aF ?aO ?aB ?aS ?aL ?_; (case aP => exact rfl); (case aB => exact (by repeat (first | (with_reducible first | exact HB.out | apply below_alloc | apply pw_below_drewN | apply below_drew1) | exact HB.out))); (case aF => exact (fun _ _ => trivial)); (case aO => exact (by (with_reducible repeat (first | apply Kd.R_alloc | apply Kd.R_drewN | apply Kd.R_drew)); exact HO_4.out)); (case aS => exact (below_size (by repeat (first | (with_reducible first | exact HB.out | apply below_alloc | apply pw_below_drewN | apply below_drew1) | exact HB.out)))); (case aL => have := LMc28.out; omega); intro v159 w30 ho hb hg hat; rw [← Ny158.out] at ho; have n0_ := Aside0.mk (hb); have n1_ := Aside0.mk (ho); clear HB; clear HO_4; have HB := n0_; have HO160 := n1_; clear n0_ n1_; clear ho hb hg hat))
                    go_roundg k1
                    case measure => have := HK1.out; omega
                    case rel => exact ⟨(y158), (wrap64 (x5_1 + 1)), (by first | rfl | (simp; done) | (simp [*]; done)), H', ⟨by have := HK1.out; omega⟩, ⟨by (with_reducible repeat (first | apply Kd.R_alloc | apply Kd.R_drewN | apply Kd.R_drew)); exact HO160.out⟩, ⟨by repeat (first | (with_reducible first | exact HB.out | apply below_alloc | apply pw_below_drewN | apply below_drew1) | exact HB.out)⟩⟩
                  · rw [if_neg c28] at H
                    exact absurd H (by simp)
              · rw [if_neg c18] at H
                have c18b0 : ((bt a0 x5_1) == 42) = false := beq_eq_false_iff_ne.mpr c18
                have c18b1 : ((bt a0 x5_1) != 42) = true := bne_iff_ne.mpr c18
                by_cases c32 : x4_1.length < 17592186044416
                · rw [if_pos c32] at H
                  have LMc32 := Aside0.mk c32
                  clear c32
                  obtain ⟨y161, hy161⟩ : ∃ y_ : List Int, y_ = (x4_1 ++ [wrap64 (bt a0 x5_1)]) := ⟨_, rfl⟩
                  replace H : (montageref37_tokens.l0 k1 a0 y161 (wrap64 (x5_1 + 1))) = some (r1, r2) := by first | (rw [hy161]; with_reducible exact H) | (have H2_ := (Option.bind_some _ _).symm.trans H; rw [hy161]; with_reducible exact H2_) | (have H2_ := (Option.bind_some _ _).symm.trans H; with_reducible exact H2_) | with_reducible exact H | (rw [hy161]; exact H) | exact H
                  have Ny161 := Aside0.mk hy161
                  clear hy161
                  have H' := Aside0.mk H
                  clear H
                  have p4 : 0 ≤ (x5_1 : Int) := of_decide_eq_true (by first | (with_reducible assumption) | assumption)
                  have q4 : x5_1 < (a0.size : Int) := of_decide_eq_true (by first | (with_reducible assumption) | assumption)
                  have hx4 := bt_at a0 x5_1
                  replace p4 := eq_true p4
                  replace q4 := eq_true q4
                  have p13 : 0 ≤ (x5_1 : Int) := of_decide_eq_true (by first | (with_reducible assumption) | assumption)
                  have q13 : x5_1 < (a0.size : Int) := of_decide_eq_true (by first | (with_reducible assumption) | assumption)
                  have hx13 := bt_at a0 x5_1
                  replace p13 := eq_true p13
                  replace q13 := eq_true q13
                  have p17 : 0 ≤ (x5_1 : Int) := of_decide_eq_true (by first | (with_reducible assumption) | assumption)
                  have q17 : x5_1 < (a0.size : Int) := of_decide_eq_true (by first | (with_reducible assumption) | assumption)
                  have hx17 := bt_at a0 x5_1
                  replace p17 := eq_true p17
                  replace q17 := eq_true q17
                  have p31 : 0 ≤ (x5_1 : Int) := of_decide_eq_true (by first | (with_reducible assumption) | assumption)
                  have q31 : x5_1 < (a0.size : Int) := of_decide_eq_true (by first | (with_reducible assumption) | assumption)
                  have hx31 := bt_at a0 x5_1
                  replace p31 := eq_true p31
                  replace q31 := eq_true q31
                  go_wp2_with (first | ((with_reducible refine gate_builtin (b := .append) (xs := #[.tmp 56, .tmp 61]) rfl ?_); (try (refine gate_guard (by rfl) ?_; dsimp only)); at_builtin; refine Kd.R_append (Kd.int .i64) (w0 := w) w.heap.size rfl (.tmp 56) (.tmp 61) 74 3 (.int .i64 0) 8 rfl Tryd.underlying74 info3 rfl (by decide) (by omega) u4 x4_1 (wrap64 (bt a0 x5_1)) [.int .i64 (wrap64 (bt a0 x5_1))] (fun _ => True) (fun _ => False) rfl rfl ?aP (fun _ hk => hk.elim) ?aF ?aO ?aB ?aS ?aL ?_; (case aP => exact rfl); (case aB => exact (by repeat (first | (with_reducible first | exact HB.out | apply below_alloc | apply pw_below_drewN | apply below_drew1) | exact HB.out))); (case aF => exact (fun _ _ => trivial)); (case aO => exact (by (with_reducible repeat (first | apply Kd.R_alloc | apply Kd.R_drewN | apply Kd.R_drew)); exact HO_4.out)); (case aS => exact (below_size (by repeat (first | (with_reducible first | exact HB.out | apply below_alloc | apply pw_below_drewN | apply below_drew1) | exact HB.out)))); (case aL => have := LMc32.out; omega); intro v162 w33 ho hb hg hat; rw [← Ny161.out] at ho; have n0_ := Aside0.mk (hb); have n1_ := Aside0.mk (ho); clear HB; clear HO_4; have HB := n0_; have HO163 := n1_; clear n0_ n1_; clear ho hb hg hat))
                  go_roundg k1
                  case measure => have := HK1.out; omega
                  case rel => exact ⟨(y161), (wrap64 (x5_1 + 1)), (by first | rfl | (simp; done) | (simp [*]; done)), H', ⟨by have := HK1.out; omega⟩, ⟨by (with_reducible repeat (first | apply Kd.R_alloc | apply Kd.R_drewN | apply Kd.R_drew)); exact HO163.out⟩, ⟨by repeat (first | (with_reducible first | exact HB.out | apply below_alloc | apply pw_below_drewN | apply below_drew1) | exact HB.out)⟩⟩
                · rw [if_neg c32] at H
                  exact absurd H (by simp)
        · rw [if_neg c3] at H
          exact absurd H (by simp)
      · rw [if_neg c2] at H
        have c2b0 : decide (x5_1 < (a0.size : Int)) = false := decide_eq_false c2
        clear c2
        by_cases c34 : (a0.size : Int) ≥ 1
        · rw [if_pos c34] at H
          have c34b0 : decide (1 ≤ (a0.size : Int)) = true := decide_eq_true c34
          have c34b1 : decide (1 ≤ a0.size) = true := decide_eq_true (by omega)
          clear c34
          simp only [Option.some.injEq, Prod.mk.injEq] at H
          obtain ⟨rfl, rfl⟩ := H
          go_wp2
          go_ret2
          exact ⟨_, by first | rfl | (simp [errW_none, errW_some] <;> rfl) | (simp [*, errW_none, errW_some] <;> rfl), by (with_reducible repeat (first | apply Kd.R_alloc | apply Kd.R_drewN | apply Kd.R_drew)); exact HO_4.out, by repeat (first | (with_reducible first | exact HB.out | apply below_alloc | apply pw_below_drewN | apply below_drew1) | exact HB.out)⟩
        · rw [if_neg c34] at H
          have c34b0 : decide (1 ≤ (a0.size : Int)) = false := decide_eq_false c34
          have c34b1 : decide (1 ≤ a0.size) = false := decide_eq_false (by omega)
          clear c34
          simp only [Option.some.injEq, Prod.mk.injEq] at H
          obtain ⟨rfl, rfl⟩ := H
          go_wp2
          go_ret2
          exact ⟨_, by first | rfl | (simp [errW_none, errW_some] <;> rfl) | (simp [*, errW_none, errW_some] <;> rfl), by (with_reducible repeat (first | apply Kd.R_alloc | apply Kd.R_drewN | apply Kd.R_drew)); exact HO_4.out, by repeat (first | (with_reducible first | exact HB.out | apply below_alloc | apply pw_below_drewN | apply below_drew1) | exact HB.out)⟩

end Go.Proofs.YtdaofffedfccmaaDoor.XGlobFits
