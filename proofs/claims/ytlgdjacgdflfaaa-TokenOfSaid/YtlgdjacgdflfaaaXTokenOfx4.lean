-- Written by this session's own program wip/xprint.py: a changed copy of the kit's print.
import Derived.Test.YtlgdjacgdflfaaaXTokenOfx0
import Derived.Test.YtlgdjacgdflfaaaXTokenOfx2
import Derived.Test.YtlgdjacgdflfaaaXTokenOfx3
namespace Go.Proofs.Ytlgdjacgdflfaaa.XTokenOf
open Go.RowKit Go.Proofs.YtlgdjacgdflfaaaW.PrintWords Go.Proofs.YtlgdjacgdflfaaaW.PrintLast Go.Proofs.YtlgdjacgdflfaaaW.PrintMore
attribute [local go_sem] max2_int min2_int max_two min_two max_three min_three max_four min_four   -- for this text's walks alone
set_option linter.unusedVariables false
set_option linter.unusedSimpArgs false

/-! ### montagelaw07_TokenOf: function 5 -/
def montagelaw07_TokenOf.j0 : Nat → Int → Int → Int → Bool → Int → Bool → Bool → Option (Bool)
  | 0, _, _, _, _, _, _, _ => none
  | k + 1, x0, x1, x5, x6, x9, x10, x64 => if x64 = true then (some false) else ((token_Length.f k x5).bind fun bt180 => ((token_Distance.f k x9).bind fun bt184 => (if x6 = true then (if bt180.1 = x0 then (if bt180.2.2.1 = x1 then (if x10 = true then (if bt184.1 = x0 then (some (bt184.2.2.1 == x1)) else (some false)) else (some true)) else (some false)) else (some false)) else (if x10 = true then (if bt184.1 = x0 then (some (bt184.2.2.1 == x1)) else (some false)) else (some true)))))
def montagelaw07_TokenOf.f (k : Nat) (a0 : Int) (a1 : Int) : Option (Bool) := (montagelaw07_awake.f k).bind fun t171 => (if t171 = true then ((token_LengthOf.f k a0 a1).bind fun bt172 => ((montageref07_LengthOf.f k a0 a1).bind fun bt174 => ((token_DistanceOf.f k a0 a1).bind fun bt176 => ((montageref07_DistanceOf.f k a0 a1).bind fun bt178 => (if bt172.1 = bt174.1 then (if (bt172.2 != bt174.2) = true then (montagelaw07_TokenOf.j0 k a0 a1 bt172.1 bt172.2 bt176.1 bt176.2 true) else (if bt176.1 = bt178.1 then (montagelaw07_TokenOf.j0 k a0 a1 bt172.1 bt172.2 bt176.1 bt176.2 (bt176.2 != bt178.2)) else (montagelaw07_TokenOf.j0 k a0 a1 bt172.1 bt172.2 bt176.1 bt176.2 true))) else (montagelaw07_TokenOf.j0 k a0 a1 bt172.1 bt172.2 bt176.1 bt176.2 true)))))) else (some false))
theorem montagelaw07_TokenOf.mono_l : ∀ k, (∀ y0 y1 y2 y3 y4 y5 y6, LeO (montagelaw07_TokenOf.j0 k y0 y1 y2 y3 y4 y5 y6) (montagelaw07_TokenOf.j0 (k + 1) y0 y1 y2 y3 y4 y5 y6))
  | 0 => fun _ _ _ _ _ _ _ r h => by simp [montagelaw07_TokenOf.j0] at h
  | k + 1 => by
    have ih0 := montagelaw07_TokenOf.mono_l k
    · intro y0 y1 y2 y3 y4 y5 y6
      unfold montagelaw07_TokenOf.j0
      repeat' first
      | (with_reducible exact ih0 _ _ _ _ _ _ _)
      | (with_reducible exact montagelaw07_awake.mono _)
      | (with_reducible exact montageref07_DistanceOf.mono _ _ _)
      | (with_reducible exact montageref07_LengthOf.mono _ _ _)
      | (with_reducible exact token_Distance.mono _ _)
      | (with_reducible exact token_DistanceOf.mono _ _ _)
      | (with_reducible exact token_Length.mono _ _)
      | (with_reducible exact token_LengthOf.mono _ _ _)
      | (with_reducible exact LeO.refl _)
      | (with_reducible exact LeO.none _)
      | (with_reducible refine LeO.ite ?_ ?_)
      | (with_reducible refine LeO.bind ?_ (fun _ => ?_))
      | exact ih0 _ _ _ _ _ _ _
      | exact montagelaw07_awake.mono _
      | exact montageref07_DistanceOf.mono _ _ _
      | exact montageref07_LengthOf.mono _ _ _
      | exact token_Distance.mono _ _
      | exact token_DistanceOf.mono _ _ _
      | exact token_Length.mono _ _
      | exact token_LengthOf.mono _ _ _
      | exact LeO.none _
      | refine LeO.ite ?_ ?_
      | refine LeO.bind ?_ (fun _ => ?_)
theorem montagelaw07_TokenOf.mono : ∀ a0 a1 k, LeO (montagelaw07_TokenOf.f k a0 a1) (montagelaw07_TokenOf.f (k + 1) a0 a1) := by
  intro a0 a1 k
  have ih0 := montagelaw07_TokenOf.mono_l k
  unfold montagelaw07_TokenOf.f
  repeat' first
      | (with_reducible exact ih0 _ _ _ _ _ _ _)
      | (with_reducible exact montagelaw07_awake.mono _)
      | (with_reducible exact montageref07_DistanceOf.mono _ _ _)
      | (with_reducible exact montageref07_LengthOf.mono _ _ _)
      | (with_reducible exact token_Distance.mono _ _)
      | (with_reducible exact token_DistanceOf.mono _ _ _)
      | (with_reducible exact token_Length.mono _ _)
      | (with_reducible exact token_LengthOf.mono _ _ _)
      | (with_reducible exact LeO.refl _)
      | (with_reducible exact LeO.none _)
      | (with_reducible refine LeO.ite ?_ ?_)
      | (with_reducible refine LeO.bind ?_ (fun _ => ?_))
      | exact ih0 _ _ _ _ _ _ _
      | exact montagelaw07_awake.mono _
      | exact montageref07_DistanceOf.mono _ _ _
      | exact montageref07_LengthOf.mono _ _ _
      | exact token_Distance.mono _ _
      | exact token_DistanceOf.mono _ _ _
      | exact token_Length.mono _ _
      | exact token_LengthOf.mono _ _ _
      | exact LeO.none _
      | refine LeO.ite ?_ ?_
      | refine LeO.bind ?_ (fun _ => ?_)
set_option maxHeartbeats 8000000 in
set_option maxRecDepth 100000 in
theorem montagelaw07_TokenOf.calls (k : Nat) (a0 : Int) (a1 : Int) (r : Bool) (w : World) (h : montagelaw07_TokenOf.f k a0 a1 = some r) :
    Calls Try.prog 5 #[.int .i64 a0, .int .i64 a1] w fun e w' => e = .returned (.bool r) ∧ Below w.heap.size w w' := by
  have HB := Aside0.mk (Below.refl w.heap.size w)
  have H : ((montagelaw07_awake.f k).bind fun t171 => (if t171 = true then ((token_LengthOf.f k a0 a1).bind fun bt172 => ((montageref07_LengthOf.f k a0 a1).bind fun bt174 => ((token_DistanceOf.f k a0 a1).bind fun bt176 => ((montageref07_DistanceOf.f k a0 a1).bind fun bt178 => (if bt172.1 = bt174.1 then (if (bt172.2 != bt174.2) = true then (montagelaw07_TokenOf.j0 k a0 a1 bt172.1 bt172.2 bt176.1 bt176.2 true) else (if bt176.1 = bt178.1 then (montagelaw07_TokenOf.j0 k a0 a1 bt172.1 bt172.2 bt176.1 bt176.2 (bt176.2 != bt178.2)) else (montagelaw07_TokenOf.j0 k a0 a1 bt172.1 bt172.2 bt176.1 bt176.2 true))) else (montagelaw07_TokenOf.j0 k a0 a1 bt172.1 bt172.2 bt176.1 bt176.2 true)))))) else (some false))) = some r := h
  clear h
  replace H := Option.bind_eq_some_iff.mp H
  obtain ⟨t171, A30, H⟩ := H
  replace H : (if t171 = true then ((token_LengthOf.f k a0 a1).bind fun bt172 => ((montageref07_LengthOf.f k a0 a1).bind fun bt174 => ((token_DistanceOf.f k a0 a1).bind fun bt176 => ((montageref07_DistanceOf.f k a0 a1).bind fun bt178 => (if bt172.1 = bt174.1 then (if (bt172.2 != bt174.2) = true then (montagelaw07_TokenOf.j0 k a0 a1 bt172.1 bt172.2 bt176.1 bt176.2 true) else (if bt176.1 = bt178.1 then (montagelaw07_TokenOf.j0 k a0 a1 bt172.1 bt172.2 bt176.1 bt176.2 (bt176.2 != bt178.2)) else (montagelaw07_TokenOf.j0 k a0 a1 bt172.1 bt172.2 bt176.1 bt176.2 true))) else (montagelaw07_TokenOf.j0 k a0 a1 bt172.1 bt172.2 bt176.1 bt176.2 true)))))) else (some false)) = some r := H
  have A3 := Aside0.mk A30
  clear A30
  by_cases c4 : t171 = true
  · subst c4
    have H1 : ((token_LengthOf.f k a0 a1).bind fun bt172 => ((montageref07_LengthOf.f k a0 a1).bind fun bt174 => ((token_DistanceOf.f k a0 a1).bind fun bt176 => ((montageref07_DistanceOf.f k a0 a1).bind fun bt178 => (if bt172.1 = bt174.1 then (if (bt172.2 != bt174.2) = true then (montagelaw07_TokenOf.j0 k a0 a1 bt172.1 bt172.2 bt176.1 bt176.2 true) else (if bt176.1 = bt178.1 then (montagelaw07_TokenOf.j0 k a0 a1 bt172.1 bt172.2 bt176.1 bt176.2 (bt176.2 != bt178.2)) else (montagelaw07_TokenOf.j0 k a0 a1 bt172.1 bt172.2 bt176.1 bt176.2 true))) else (montagelaw07_TokenOf.j0 k a0 a1 bt172.1 bt172.2 bt176.1 bt176.2 true)))))) = some r := by rw [if_pos rfl] at H; exact H
    clear H
    have H := H1
    clear H1
    replace H := Option.bind_eq_some_iff.mp H
    obtain ⟨⟨t172, t173⟩, A50, H⟩ := H
    replace H : ((montageref07_LengthOf.f k a0 a1).bind fun bt174 => ((token_DistanceOf.f k a0 a1).bind fun bt176 => ((montageref07_DistanceOf.f k a0 a1).bind fun bt178 => (if t172 = bt174.1 then (if (t173 != bt174.2) = true then (montagelaw07_TokenOf.j0 k a0 a1 t172 t173 bt176.1 bt176.2 true) else (if bt176.1 = bt178.1 then (montagelaw07_TokenOf.j0 k a0 a1 t172 t173 bt176.1 bt176.2 (bt176.2 != bt178.2)) else (montagelaw07_TokenOf.j0 k a0 a1 t172 t173 bt176.1 bt176.2 true))) else (montagelaw07_TokenOf.j0 k a0 a1 t172 t173 bt176.1 bt176.2 true))))) = some r := H
    have A5 := Aside0.mk A50
    clear A50
    replace H := Option.bind_eq_some_iff.mp H
    obtain ⟨⟨t174, t175⟩, A60, H⟩ := H
    replace H : ((token_DistanceOf.f k a0 a1).bind fun bt176 => ((montageref07_DistanceOf.f k a0 a1).bind fun bt178 => (if t172 = t174 then (if (t173 != t175) = true then (montagelaw07_TokenOf.j0 k a0 a1 t172 t173 bt176.1 bt176.2 true) else (if bt176.1 = bt178.1 then (montagelaw07_TokenOf.j0 k a0 a1 t172 t173 bt176.1 bt176.2 (bt176.2 != bt178.2)) else (montagelaw07_TokenOf.j0 k a0 a1 t172 t173 bt176.1 bt176.2 true))) else (montagelaw07_TokenOf.j0 k a0 a1 t172 t173 bt176.1 bt176.2 true)))) = some r := H
    have A6 := Aside0.mk A60
    clear A60
    replace H := Option.bind_eq_some_iff.mp H
    obtain ⟨⟨t176, t177⟩, A70, H⟩ := H
    replace H : ((montageref07_DistanceOf.f k a0 a1).bind fun bt178 => (if t172 = t174 then (if (t173 != t175) = true then (montagelaw07_TokenOf.j0 k a0 a1 t172 t173 t176 t177 true) else (if t176 = bt178.1 then (montagelaw07_TokenOf.j0 k a0 a1 t172 t173 t176 t177 (t177 != bt178.2)) else (montagelaw07_TokenOf.j0 k a0 a1 t172 t173 t176 t177 true))) else (montagelaw07_TokenOf.j0 k a0 a1 t172 t173 t176 t177 true))) = some r := H
    have A7 := Aside0.mk A70
    clear A70
    replace H := Option.bind_eq_some_iff.mp H
    obtain ⟨⟨t178, t179⟩, A80, H⟩ := H
    replace H : (if t172 = t174 then (if (t173 != t175) = true then (montagelaw07_TokenOf.j0 k a0 a1 t172 t173 t176 t177 true) else (if t176 = t178 then (montagelaw07_TokenOf.j0 k a0 a1 t172 t173 t176 t177 (t177 != t179)) else (montagelaw07_TokenOf.j0 k a0 a1 t172 t173 t176 t177 true))) else (montagelaw07_TokenOf.j0 k a0 a1 t172 t173 t176 t177 true)) = some r := H
    have A8 := Aside0.mk A80
    clear A80
    have HC9 := Aside0.mk H
    clear H
    go_enter Try.func5, Try.ntmps5
    go_upto_region 7 with (first | ((with_reducible refine gate_callee (f := 12) rfl ?_); refine goesL_ (some 21) rfl rfl Try.func12 (by kernel_rfl) rfl #[] rfl (by (try simp only [List.map_toArray, List.map_cons, List.map_nil]); first | done | rfl | (simp only [List.length_drop, List.length_take]; rfl)) ?_; (with_reducible refine (montagelaw07_awake.calls k  true _ A3.out).mono ?_); rintro e w10 ⟨rfl, hb⟩; refine ⟨_, rfl, ?_⟩; have n0_ := Aside0.mk (below_step (by repeat (first | (with_reducible first | exact HB.out | apply below_alloc | apply pw_below_drewN | apply below_drew1) | exact HB.out)) hb); clear HB; have HB := n0_; clear n0_; (try clear hb); (try clear hb2); (try clear hk); (try clear hi)) | ((with_reducible refine gate_callee (f := 21) rfl ?_); refine goesL_ (some 26) rfl rfl Try.func21 (by kernel_rfl) rfl #[.int .i64 a0, .int .i64 a1] rfl (by (try simp only [List.map_toArray, List.map_cons, List.map_nil]); first | done | rfl | (simp only [List.length_drop, List.length_take]; rfl)) ?_; (with_reducible refine (token_LengthOf.calls k a0 a1 t172 t173 _ A5.out).mono ?_); rintro e w11 ⟨rfl, hb⟩; refine ⟨_, rfl, ?_⟩; have n0_ := Aside0.mk (below_step (by repeat (first | (with_reducible first | exact HB.out | apply below_alloc | apply pw_below_drewN | apply below_drew1) | exact HB.out)) hb); clear HB; have HB := n0_; clear n0_; (try clear hb); (try clear hb2); (try clear hk); (try clear hi)) | ((with_reducible refine gate_callee (f := 23) rfl ?_); refine goesL_ (some 32) rfl rfl Try.func23 (by kernel_rfl) rfl #[.int .i64 a0, .int .i64 a1] rfl (by (try simp only [List.map_toArray, List.map_cons, List.map_nil]); first | done | rfl | (simp only [List.length_drop, List.length_take]; rfl)) ?_; (with_reducible refine (montageref07_LengthOf.calls k a0 a1 t174 t175 _ A6.out).mono ?_); rintro e w12 ⟨rfl, hb⟩; refine ⟨_, rfl, ?_⟩; have n0_ := Aside0.mk (below_step (by repeat (first | (with_reducible first | exact HB.out | apply below_alloc | apply pw_below_drewN | apply below_drew1) | exact HB.out)) hb); clear HB; have HB := n0_; clear n0_; (try clear hb); (try clear hb2); (try clear hk); (try clear hi)) | ((with_reducible refine gate_callee (f := 22) rfl ?_); refine goesL_ (some 38) rfl rfl Try.func22 (by kernel_rfl) rfl #[.int .i64 a0, .int .i64 a1] rfl (by (try simp only [List.map_toArray, List.map_cons, List.map_nil]); first | done | rfl | (simp only [List.length_drop, List.length_take]; rfl)) ?_; (with_reducible refine (token_DistanceOf.calls k a0 a1 t176 t177 _ A7.out).mono ?_); rintro e w13 ⟨rfl, hb⟩; refine ⟨_, rfl, ?_⟩; have n0_ := Aside0.mk (below_step (by repeat (first | (with_reducible first | exact HB.out | apply below_alloc | apply pw_below_drewN | apply below_drew1) | exact HB.out)) hb); clear HB; have HB := n0_; clear n0_; (try clear hb); (try clear hb2); (try clear hk); (try clear hi)) | ((with_reducible refine gate_callee (f := 24) rfl ?_); refine goesL_ (some 44) rfl rfl Try.func24 (by kernel_rfl) rfl #[.int .i64 a0, .int .i64 a1] rfl (by (try simp only [List.map_toArray, List.map_cons, List.map_nil]); first | done | rfl | (simp only [List.length_drop, List.length_take]; rfl)) ?_; (with_reducible refine (montageref07_DistanceOf.calls k a0 a1 t178 t179 _ A8.out).mono ?_); rintro e w14 ⟨rfl, hb⟩; refine ⟨_, rfl, ?_⟩; have n0_ := Aside0.mk (below_step (by repeat (first | (with_reducible first | exact HB.out | apply below_alloc | apply pw_below_drewN | apply below_drew1) | exact HB.out)) hb); clear HB; have HB := n0_; clear n0_; (try clear hb); (try clear hb2); (try clear hk); (try clear hi)))
    (try simp only [Act.put, List.setIfInBounds_toArray, List.set_cons_zero, List.set_cons_succ])
    go_cut [64] (fun v64 wc => ∃ (kq : Nat) (x64_8 : Bool), v64 = .bool x64_8 ∧ Aside0 (montagelaw07_TokenOf.j0 kq a0 a1 t172 t173 t176 t177 x64_8 = some r) ∧ Aside0 (kq ≤ k) ∧ Aside0 (Below w.heap.size w wc))
    case first =>
      have H := HC9.out
      clear HC9
      by_cases c15 : t172 = t174
      · rw [if_pos c15] at H
        have c15b0 : (t172 == t174) = true := beq_iff_eq.mpr c15
        have c15b1 : (t172 != t174) = false := bne_eq_false_iff_eq.mpr c15
        clear c15
        (first | rw [c15b0] | (simp only [i64_w, i32_w]; rw [c15b0]) | skip)
        by_cases c16 : (t173 != t175) = true
        · rw [if_pos c16] at H
          have c16b0 : (t173 != t175) = true := c16
          (try (have c16b1 : decide (t173 = t175) = false := by simpa using c16))
          (try (have c16b2 : (t173 == t175) = false := by simpa using c16))
          (try (have c16b3 : ¬ (t173 = t175) := by simpa using c16))
          clear c16
          have H' := Aside0.mk H
          clear H
          go_wp2
          go_meet
          case rel => exact ⟨_, (true), (by first | rfl | (simp; done) | (simp [*]; done)), H', ⟨by first | omega | exact Nat.le_refl _⟩, ⟨by repeat (first | (with_reducible first | exact HB.out | apply below_alloc | apply pw_below_drewN | apply below_drew1) | exact HB.out)⟩⟩
        · rw [if_neg c16] at H
          have c16b0 : (t173 != t175) = false := by simpa using c16
          (try (have c16b1 : decide (t173 = t175) = true := by simpa using c16))
          (try (have c16b2 : (t173 == t175) = true := by simpa using c16))
          clear c16
          by_cases c17 : t176 = t178
          · rw [if_pos c17] at H
            have c17b0 : (t176 == t178) = true := beq_iff_eq.mpr c17
            have c17b1 : (t176 != t178) = false := bne_eq_false_iff_eq.mpr c17
            clear c17
            have H' := Aside0.mk H
            clear H
            go_wp2
            go_meet
            case rel => exact ⟨_, ((t177 != t179)), (by first | rfl | (simp; done) | (simp [*]; done)), H', ⟨by first | omega | exact Nat.le_refl _⟩, ⟨by repeat (first | (with_reducible first | exact HB.out | apply below_alloc | apply pw_below_drewN | apply below_drew1) | exact HB.out)⟩⟩
          · rw [if_neg c17] at H
            have c17b0 : (t176 == t178) = false := beq_eq_false_iff_ne.mpr c17
            have c17b1 : (t176 != t178) = true := bne_iff_ne.mpr c17
            have H' := Aside0.mk H
            clear H
            go_wp2
            go_meet
            case rel => exact ⟨_, (true), (by first | rfl | (simp; done) | (simp [*]; done)), H', ⟨by first | omega | exact Nat.le_refl _⟩, ⟨by repeat (first | (with_reducible first | exact HB.out | apply below_alloc | apply pw_below_drewN | apply below_drew1) | exact HB.out)⟩⟩
      · rw [if_neg c15] at H
        have c15b0 : (t172 == t174) = false := beq_eq_false_iff_ne.mpr c15
        have c15b1 : (t172 != t174) = true := bne_iff_ne.mpr c15
        (first | rw [c15b0] | (simp only [i64_w, i32_w]; rw [c15b0]) | skip)
        have H' := Aside0.mk H
        clear H
        go_wp2
        go_meet
        case rel => exact ⟨_, (true), (by first | rfl | (simp; done) | (simp [*]; done)), H', ⟨by first | omega | exact Nat.le_refl _⟩, ⟨by repeat (first | (with_reducible first | exact HB.out | apply below_alloc | apply pw_below_drewN | apply below_drew1) | exact HB.out)⟩⟩
    case rest =>
      clear HC9
      try clear c1
      try clear c2
      try clear p2
      try clear c4
      try clear c5
      try clear c12
      try clear c15
      try clear c15b0
      try clear c15b1
      try clear c16
      try clear c16b0
      try clear c16b1
      try clear c16b2
      try clear c17
      try clear c17b0
      try clear c17b1
      obtain ⟨kq, x64_8, rfl, HA, HJ8, HB⟩ := hcut
      cases kq with
      | zero => exact absurd HA.out (by simp [montagelaw07_TokenOf.j0])
      | succ kj8 =>
        have H := HA.out
        clear HA
        simp only [montagelaw07_TokenOf.j0] at H
        by_cases c18 : x64_8 = true
        · subst c18
          have H1 : (some false) = some r := by rw [if_pos rfl] at H; exact H
          clear H
          have H := H1
          clear H1
          obtain rfl := Option.some.inj H
          go_wp2
          go_ret
          exact ⟨by first | rfl | (simp [errW_none, errW_some] <;> rfl) | (simp [*, errW_none, errW_some] <;> rfl), by repeat (first | (with_reducible first | exact HB.out | apply below_alloc | apply pw_below_drewN | apply below_drew1) | exact HB.out)⟩
        · replace c18 := Bool.eq_false_iff.mpr c18
          subst c18
          have H1 : ((token_Length.f kj8 t172).bind fun bt180 => ((token_Distance.f kj8 t176).bind fun bt184 => (if t173 = true then (if bt180.1 = a0 then (if bt180.2.2.1 = a1 then (if t177 = true then (if bt184.1 = a0 then (some (bt184.2.2.1 == a1)) else (some false)) else (some true)) else (some false)) else (some false)) else (if t177 = true then (if bt184.1 = a0 then (some (bt184.2.2.1 == a1)) else (some false)) else (some true))))) = some r := by rw [if_neg (show ¬ (false = true) by decide)] at H; exact H
          clear H
          have H := H1
          clear H1
          replace H := Option.bind_eq_some_iff.mp H
          obtain ⟨⟨t180, t181, t182, t183⟩, A190, H⟩ := H
          replace H : ((token_Distance.f kj8 t176).bind fun bt184 => (if t173 = true then (if t180 = a0 then (if t182 = a1 then (if t177 = true then (if bt184.1 = a0 then (some (bt184.2.2.1 == a1)) else (some false)) else (some true)) else (some false)) else (some false)) else (if t177 = true then (if bt184.1 = a0 then (some (bt184.2.2.1 == a1)) else (some false)) else (some true)))) = some r := H
          have A19 := Aside0.mk A190
          clear A190
          replace H := Option.bind_eq_some_iff.mp H
          obtain ⟨⟨t184, t185, t186, t187⟩, A200, H⟩ := H
          replace H : (if t173 = true then (if t180 = a0 then (if t182 = a1 then (if t177 = true then (if t184 = a0 then (some (t186 == a1)) else (some false)) else (some true)) else (some false)) else (some false)) else (if t177 = true then (if t184 = a0 then (some (t186 == a1)) else (some false)) else (some true))) = some r := H
          have A20 := Aside0.mk A200
          clear A200
          by_cases c21 : t173 = true
          · subst c21
            have H1 : (if t180 = a0 then (if t182 = a1 then (if t177 = true then (if t184 = a0 then (some (t186 == a1)) else (some false)) else (some true)) else (some false)) else (some false)) = some r := by rw [if_pos rfl] at H; exact H
            clear H
            have H := H1
            clear H1
            by_cases c22 : t180 = a0
            · rw [if_pos c22] at H
              have c22b0 : (t180 == a0) = true := beq_iff_eq.mpr c22
              have c22b1 : (t180 != a0) = false := bne_eq_false_iff_eq.mpr c22
              clear c22
              by_cases c23 : t182 = a1
              · rw [if_pos c23] at H
                have c23b0 : (t182 == a1) = true := beq_iff_eq.mpr c23
                have c23b1 : (t182 != a1) = false := bne_eq_false_iff_eq.mpr c23
                clear c23
                by_cases c24 : t177 = true
                · subst c24
                  have H1 : (if t184 = a0 then (some (t186 == a1)) else (some false)) = some r := by rw [if_pos rfl] at H; exact H
                  clear H
                  have H := H1
                  clear H1
                  by_cases c25 : t184 = a0
                  · rw [if_pos c25] at H
                    have c25b0 : (t184 == a0) = true := beq_iff_eq.mpr c25
                    have c25b1 : (t184 != a0) = false := bne_eq_false_iff_eq.mpr c25
                    clear c25
                    obtain rfl := Option.some.inj H
                    go_wp2_with (first | ((with_reducible refine gate_callee (f := 17) rfl ?_); refine goesL_ (some 67) rfl rfl Try.func17 (by kernel_rfl) rfl #[.int .i64 t172] rfl (by (try simp only [List.map_toArray, List.map_cons, List.map_nil]); first | done | rfl | (simp only [List.length_drop, List.length_take]; rfl)) ?_; (with_reducible refine (token_Length.calls kj8 t172 t180 t181 t182 t183 _ A19.out).mono ?_); rintro e w' ⟨rfl, ⟨nd, rfl⟩⟩; refine ⟨_, rfl, ?_⟩) | ((with_reducible refine gate_callee (f := 19) rfl ?_); refine goesL_ (some 74) rfl rfl Try.func19 (by kernel_rfl) rfl #[.int .i64 t176] rfl (by (try simp only [List.map_toArray, List.map_cons, List.map_nil]); first | done | rfl | (simp only [List.length_drop, List.length_take]; rfl)) ?_; (with_reducible refine (token_Distance.calls kj8 t176 t184 t185 t186 t187 _ A20.out).mono ?_); rintro e w' ⟨rfl, ⟨nd, rfl⟩⟩; refine ⟨_, rfl, ?_⟩))
                    go_ret
                    exact ⟨by first | rfl | (simp [errW_none, errW_some] <;> rfl) | (simp [*, errW_none, errW_some] <;> rfl), by repeat (first | (with_reducible first | exact HB.out | apply below_alloc | apply pw_below_drewN | apply below_drew1) | exact HB.out)⟩
                  · rw [if_neg c25] at H
                    have c25b0 : (t184 == a0) = false := beq_eq_false_iff_ne.mpr c25
                    have c25b1 : (t184 != a0) = true := bne_iff_ne.mpr c25
                    obtain rfl := Option.some.inj H
                    go_wp2_with (first | ((with_reducible refine gate_callee (f := 17) rfl ?_); refine goesL_ (some 67) rfl rfl Try.func17 (by kernel_rfl) rfl #[.int .i64 t172] rfl (by (try simp only [List.map_toArray, List.map_cons, List.map_nil]); first | done | rfl | (simp only [List.length_drop, List.length_take]; rfl)) ?_; (with_reducible refine (token_Length.calls kj8 t172 t180 t181 t182 t183 _ A19.out).mono ?_); rintro e w' ⟨rfl, ⟨nd, rfl⟩⟩; refine ⟨_, rfl, ?_⟩) | ((with_reducible refine gate_callee (f := 19) rfl ?_); refine goesL_ (some 74) rfl rfl Try.func19 (by kernel_rfl) rfl #[.int .i64 t176] rfl (by (try simp only [List.map_toArray, List.map_cons, List.map_nil]); first | done | rfl | (simp only [List.length_drop, List.length_take]; rfl)) ?_; (with_reducible refine (token_Distance.calls kj8 t176 t184 t185 t186 t187 _ A20.out).mono ?_); rintro e w' ⟨rfl, ⟨nd, rfl⟩⟩; refine ⟨_, rfl, ?_⟩))
                    go_ret
                    exact ⟨by first | rfl | (simp [errW_none, errW_some] <;> rfl) | (simp [*, errW_none, errW_some] <;> rfl), by repeat (first | (with_reducible first | exact HB.out | apply below_alloc | apply pw_below_drewN | apply below_drew1) | exact HB.out)⟩
                · replace c24 := Bool.eq_false_iff.mpr c24
                  subst c24
                  have H1 : (some true) = some r := by rw [if_neg (show ¬ (false = true) by decide)] at H; exact H
                  clear H
                  have H := H1
                  clear H1
                  obtain rfl := Option.some.inj H
                  go_wp2_with (first | ((with_reducible refine gate_callee (f := 17) rfl ?_); refine goesL_ (some 67) rfl rfl Try.func17 (by kernel_rfl) rfl #[.int .i64 t172] rfl (by (try simp only [List.map_toArray, List.map_cons, List.map_nil]); first | done | rfl | (simp only [List.length_drop, List.length_take]; rfl)) ?_; (with_reducible refine (token_Length.calls kj8 t172 t180 t181 t182 t183 _ A19.out).mono ?_); rintro e w' ⟨rfl, ⟨nd, rfl⟩⟩; refine ⟨_, rfl, ?_⟩) | ((with_reducible refine gate_callee (f := 19) rfl ?_); refine goesL_ (some 74) rfl rfl Try.func19 (by kernel_rfl) rfl #[.int .i64 t176] rfl (by (try simp only [List.map_toArray, List.map_cons, List.map_nil]); first | done | rfl | (simp only [List.length_drop, List.length_take]; rfl)) ?_; (with_reducible refine (token_Distance.calls kj8 t176 t184 t185 t186 t187 _ A20.out).mono ?_); rintro e w' ⟨rfl, ⟨nd, rfl⟩⟩; refine ⟨_, rfl, ?_⟩))
                  go_ret
                  exact ⟨by first | rfl | (simp [errW_none, errW_some] <;> rfl) | (simp [*, errW_none, errW_some] <;> rfl), by repeat (first | (with_reducible first | exact HB.out | apply below_alloc | apply pw_below_drewN | apply below_drew1) | exact HB.out)⟩
              · rw [if_neg c23] at H
                have c23b0 : (t182 == a1) = false := beq_eq_false_iff_ne.mpr c23
                have c23b1 : (t182 != a1) = true := bne_iff_ne.mpr c23
                obtain rfl := Option.some.inj H
                go_wp2_with (first | ((with_reducible refine gate_callee (f := 17) rfl ?_); refine goesL_ (some 67) rfl rfl Try.func17 (by kernel_rfl) rfl #[.int .i64 t172] rfl (by (try simp only [List.map_toArray, List.map_cons, List.map_nil]); first | done | rfl | (simp only [List.length_drop, List.length_take]; rfl)) ?_; (with_reducible refine (token_Length.calls kj8 t172 t180 t181 t182 t183 _ A19.out).mono ?_); rintro e w' ⟨rfl, ⟨nd, rfl⟩⟩; refine ⟨_, rfl, ?_⟩) | ((with_reducible refine gate_callee (f := 19) rfl ?_); refine goesL_ (some 74) rfl rfl Try.func19 (by kernel_rfl) rfl #[.int .i64 t176] rfl (by (try simp only [List.map_toArray, List.map_cons, List.map_nil]); first | done | rfl | (simp only [List.length_drop, List.length_take]; rfl)) ?_; (with_reducible refine (token_Distance.calls kj8 t176 t184 t185 t186 t187 _ A20.out).mono ?_); rintro e w' ⟨rfl, ⟨nd, rfl⟩⟩; refine ⟨_, rfl, ?_⟩))
                go_ret
                exact ⟨by first | rfl | (simp [errW_none, errW_some] <;> rfl) | (simp [*, errW_none, errW_some] <;> rfl), by repeat (first | (with_reducible first | exact HB.out | apply below_alloc | apply pw_below_drewN | apply below_drew1) | exact HB.out)⟩
            · rw [if_neg c22] at H
              have c22b0 : (t180 == a0) = false := beq_eq_false_iff_ne.mpr c22
              have c22b1 : (t180 != a0) = true := bne_iff_ne.mpr c22
              obtain rfl := Option.some.inj H
              go_wp2_with (first | ((with_reducible refine gate_callee (f := 17) rfl ?_); refine goesL_ (some 67) rfl rfl Try.func17 (by kernel_rfl) rfl #[.int .i64 t172] rfl (by (try simp only [List.map_toArray, List.map_cons, List.map_nil]); first | done | rfl | (simp only [List.length_drop, List.length_take]; rfl)) ?_; (with_reducible refine (token_Length.calls kj8 t172 t180 t181 t182 t183 _ A19.out).mono ?_); rintro e w' ⟨rfl, ⟨nd, rfl⟩⟩; refine ⟨_, rfl, ?_⟩) | ((with_reducible refine gate_callee (f := 19) rfl ?_); refine goesL_ (some 74) rfl rfl Try.func19 (by kernel_rfl) rfl #[.int .i64 t176] rfl (by (try simp only [List.map_toArray, List.map_cons, List.map_nil]); first | done | rfl | (simp only [List.length_drop, List.length_take]; rfl)) ?_; (with_reducible refine (token_Distance.calls kj8 t176 t184 t185 t186 t187 _ A20.out).mono ?_); rintro e w' ⟨rfl, ⟨nd, rfl⟩⟩; refine ⟨_, rfl, ?_⟩))
              go_ret
              exact ⟨by first | rfl | (simp [errW_none, errW_some] <;> rfl) | (simp [*, errW_none, errW_some] <;> rfl), by repeat (first | (with_reducible first | exact HB.out | apply below_alloc | apply pw_below_drewN | apply below_drew1) | exact HB.out)⟩
          · replace c21 := Bool.eq_false_iff.mpr c21
            subst c21
            have H1 : (if t177 = true then (if t184 = a0 then (some (t186 == a1)) else (some false)) else (some true)) = some r := by rw [if_neg (show ¬ (false = true) by decide)] at H; exact H
            clear H
            have H := H1
            clear H1
            by_cases c26 : t177 = true
            · subst c26
              have H1 : (if t184 = a0 then (some (t186 == a1)) else (some false)) = some r := by rw [if_pos rfl] at H; exact H
              clear H
              have H := H1
              clear H1
              by_cases c27 : t184 = a0
              · rw [if_pos c27] at H
                have c27b0 : (t184 == a0) = true := beq_iff_eq.mpr c27
                have c27b1 : (t184 != a0) = false := bne_eq_false_iff_eq.mpr c27
                clear c27
                obtain rfl := Option.some.inj H
                go_wp2_with (first | ((with_reducible refine gate_callee (f := 17) rfl ?_); refine goesL_ (some 67) rfl rfl Try.func17 (by kernel_rfl) rfl #[.int .i64 t172] rfl (by (try simp only [List.map_toArray, List.map_cons, List.map_nil]); first | done | rfl | (simp only [List.length_drop, List.length_take]; rfl)) ?_; (with_reducible refine (token_Length.calls kj8 t172 t180 t181 t182 t183 _ A19.out).mono ?_); rintro e w' ⟨rfl, ⟨nd, rfl⟩⟩; refine ⟨_, rfl, ?_⟩) | ((with_reducible refine gate_callee (f := 19) rfl ?_); refine goesL_ (some 74) rfl rfl Try.func19 (by kernel_rfl) rfl #[.int .i64 t176] rfl (by (try simp only [List.map_toArray, List.map_cons, List.map_nil]); first | done | rfl | (simp only [List.length_drop, List.length_take]; rfl)) ?_; (with_reducible refine (token_Distance.calls kj8 t176 t184 t185 t186 t187 _ A20.out).mono ?_); rintro e w' ⟨rfl, ⟨nd, rfl⟩⟩; refine ⟨_, rfl, ?_⟩))
                go_ret
                exact ⟨by first | rfl | (simp [errW_none, errW_some] <;> rfl) | (simp [*, errW_none, errW_some] <;> rfl), by repeat (first | (with_reducible first | exact HB.out | apply below_alloc | apply pw_below_drewN | apply below_drew1) | exact HB.out)⟩
              · rw [if_neg c27] at H
                have c27b0 : (t184 == a0) = false := beq_eq_false_iff_ne.mpr c27
                have c27b1 : (t184 != a0) = true := bne_iff_ne.mpr c27
                obtain rfl := Option.some.inj H
                go_wp2_with (first | ((with_reducible refine gate_callee (f := 17) rfl ?_); refine goesL_ (some 67) rfl rfl Try.func17 (by kernel_rfl) rfl #[.int .i64 t172] rfl (by (try simp only [List.map_toArray, List.map_cons, List.map_nil]); first | done | rfl | (simp only [List.length_drop, List.length_take]; rfl)) ?_; (with_reducible refine (token_Length.calls kj8 t172 t180 t181 t182 t183 _ A19.out).mono ?_); rintro e w' ⟨rfl, ⟨nd, rfl⟩⟩; refine ⟨_, rfl, ?_⟩) | ((with_reducible refine gate_callee (f := 19) rfl ?_); refine goesL_ (some 74) rfl rfl Try.func19 (by kernel_rfl) rfl #[.int .i64 t176] rfl (by (try simp only [List.map_toArray, List.map_cons, List.map_nil]); first | done | rfl | (simp only [List.length_drop, List.length_take]; rfl)) ?_; (with_reducible refine (token_Distance.calls kj8 t176 t184 t185 t186 t187 _ A20.out).mono ?_); rintro e w' ⟨rfl, ⟨nd, rfl⟩⟩; refine ⟨_, rfl, ?_⟩))
                go_ret
                exact ⟨by first | rfl | (simp [errW_none, errW_some] <;> rfl) | (simp [*, errW_none, errW_some] <;> rfl), by repeat (first | (with_reducible first | exact HB.out | apply below_alloc | apply pw_below_drewN | apply below_drew1) | exact HB.out)⟩
            · replace c26 := Bool.eq_false_iff.mpr c26
              subst c26
              have H1 : (some true) = some r := by rw [if_neg (show ¬ (false = true) by decide)] at H; exact H
              clear H
              have H := H1
              clear H1
              obtain rfl := Option.some.inj H
              go_wp2_with (first | ((with_reducible refine gate_callee (f := 17) rfl ?_); refine goesL_ (some 67) rfl rfl Try.func17 (by kernel_rfl) rfl #[.int .i64 t172] rfl (by (try simp only [List.map_toArray, List.map_cons, List.map_nil]); first | done | rfl | (simp only [List.length_drop, List.length_take]; rfl)) ?_; (with_reducible refine (token_Length.calls kj8 t172 t180 t181 t182 t183 _ A19.out).mono ?_); rintro e w' ⟨rfl, ⟨nd, rfl⟩⟩; refine ⟨_, rfl, ?_⟩) | ((with_reducible refine gate_callee (f := 19) rfl ?_); refine goesL_ (some 74) rfl rfl Try.func19 (by kernel_rfl) rfl #[.int .i64 t176] rfl (by (try simp only [List.map_toArray, List.map_cons, List.map_nil]); first | done | rfl | (simp only [List.length_drop, List.length_take]; rfl)) ?_; (with_reducible refine (token_Distance.calls kj8 t176 t184 t185 t186 t187 _ A20.out).mono ?_); rintro e w' ⟨rfl, ⟨nd, rfl⟩⟩; refine ⟨_, rfl, ?_⟩))
              go_ret
              exact ⟨by first | rfl | (simp [errW_none, errW_some] <;> rfl) | (simp [*, errW_none, errW_some] <;> rfl), by repeat (first | (with_reducible first | exact HB.out | apply below_alloc | apply pw_below_drewN | apply below_drew1) | exact HB.out)⟩
  · replace c4 := Bool.eq_false_iff.mpr c4
    subst c4
    have H1 : (some false) = some r := by rw [if_neg (show ¬ (false = true) by decide)] at H; exact H
    clear H
    have H := H1
    clear H1
    obtain rfl := Option.some.inj H
    go_enter Try.func5, Try.ntmps5
    go_wp2_with (first | ((with_reducible refine gate_callee (f := 12) rfl ?_); refine goesL_ (some 21) rfl rfl Try.func12 (by kernel_rfl) rfl #[] rfl (by (try simp only [List.map_toArray, List.map_cons, List.map_nil]); first | done | rfl | (simp only [List.length_drop, List.length_take]; rfl)) ?_; (with_reducible refine (montagelaw07_awake.calls k  false _ A3.out).mono ?_); rintro e w28 ⟨rfl, hb⟩; refine ⟨_, rfl, ?_⟩; have n0_ := Aside0.mk (below_step (by repeat (first | (with_reducible first | exact HB.out | apply below_alloc | apply pw_below_drewN | apply below_drew1) | exact HB.out)) hb); clear HB; have HB := n0_; clear n0_; (try clear hb); (try clear hb2); (try clear hk); (try clear hi)))
    go_ret
    exact ⟨by first | rfl | (simp [errW_none, errW_some] <;> rfl) | (simp [*, errW_none, errW_some] <;> rfl), by repeat (first | (with_reducible first | exact HB.out | apply below_alloc | apply pw_below_drewN | apply below_drew1) | exact HB.out)⟩

/-- THE ONE PURE STATEMENT of montagelaw07_TokenOf: yours. -/
def montagelaw07_TokenOf.Pure : Prop := ∀ (a0 : Int) (a1 : Int), (Lit.int .i64 a0).wf = true → (Lit.int .i64 a1).wf = true → ∃ k, montagelaw07_TokenOf.f k a0 a1 = some true
theorem montagelaw07_TokenOf.walk (P : montagelaw07_TokenOf.Pure) (a0 : Int) (a1 : Int) (w : World) (w0 : (Lit.int .i64 a0).wf = true) (w1 : (Lit.int .i64 a1).wf = true) :
    Calls Try.prog 5 #[.int .i64 a0, .int .i64 a1] w fun e w' => e = .returned (.bool true) ∧ Below w.heap.size w w' := by
  obtain ⟨k, h⟩ := P a0 a1 w0 w1
  refine (montagelaw07_TokenOf.calls k a0 a1 true w h).mono ?_
  rintro e w' ⟨rfl, hd⟩
  exact ⟨rfl, hd⟩

end Go.Proofs.Ytlgdjacgdflfaaa.XTokenOf
