-- Written by this session's own program wip/xprint.py: a changed copy of the kit's print.
import Derived.Test.YtlgdjacgdflfaaaXTokenExpandsx0
import Derived.Test.YtlgdjacgdflfaaaXTokenExpandsx1
import Derived.Test.YtlgdjacgdflfaaaXTokenExpandsx2
import Derived.Test.YtlgdjacgdflfaaaXTokenExpandsx3
namespace Go.Proofs.Ytlgdjacgdflfaaa.XTokenExpands
open Go.RowKit Go.Proofs.YtlgdjacgdflfaaaW.PrintWords Go.Proofs.YtlgdjacgdflfaaaW.PrintLast Go.Proofs.YtlgdjacgdflfaaaW.PrintMore
attribute [local go_sem] max2_int min2_int max_two min_two max_three min_three max_four min_four   -- for this text's walks alone
set_option linter.unusedVariables false
set_option linter.unusedSimpArgs false

/-! ### montagelaw07_TokenExpands: function 3 -/
mutual
def montagelaw07_TokenExpands.j0 : Nat → List (S30) → Bool → Option (Bool)
  | 0, _, _ => none
  | k + 1, x0, x35 => if x35 = true then (some false) else (montagelaw07_TokenExpands.l0 k x0 (x0.length : Int) 0)
def montagelaw07_TokenExpands.l0 : Nat → List (S30) → Int → Int → Option (Bool)
  | 0, _, _, _ => none
  | k + 1, x36, x37, x38 => if x38 < x37 then (if 0 ≤ x38 then (if x38 < (x36.length : Int) then ((token_May.f ((rd_T30 x36 x38).f0) ((rd_T30 x36 x38).f1) ((rd_T30 x36 x38).f2)).bind fun t153 => ((montageref07_May.f ((rd_T30 x36 x38).f0) ((rd_T30 x36 x38).f1) ((rd_T30 x36 x38).f2)).bind fun t154 => (if (t153 != t154) = true then (some false) else (montagelaw07_TokenExpands.l0 k x36 x37 (wrap64 (x38 + 1)))))) else (none)) else (none)) else (some true)
end
def montagelaw07_TokenExpands.f (k : Nat) (l0 : List (S30)) (a1 : Int) : Option (Bool) := (montagelaw07_awake.f k).bind fun t146 => (if t146 = true then (if (l0.length : Int) > 60 then (some true) else ((token_Expand.f k l0 a1).bind fun bt147 => ((montageref07_Expand.f k l0 a1).bind fun bt149 => (if bt147.1.toList = bt149.1.toList then (montagelaw07_TokenExpands.j0 k l0 (bt147.2 != bt149.2)) else (montagelaw07_TokenExpands.j0 k l0 true))))) else (some false))
theorem montagelaw07_TokenExpands.mono_l : ∀ k, (∀ y0 y1, LeO (montagelaw07_TokenExpands.j0 k y0 y1) (montagelaw07_TokenExpands.j0 (k + 1) y0 y1)) ∧ (∀ y0 y1 y2, LeO (montagelaw07_TokenExpands.l0 k y0 y1 y2) (montagelaw07_TokenExpands.l0 (k + 1) y0 y1 y2))
  | 0 => ⟨fun _ _ r h => by simp [montagelaw07_TokenExpands.j0] at h, fun _ _ _ r h => by simp [montagelaw07_TokenExpands.l0] at h⟩
  | k + 1 => by
    obtain ⟨ih0, ih1⟩ := montagelaw07_TokenExpands.mono_l k
    refine ⟨?_, ?_⟩
    · intro y0 y1
      unfold montagelaw07_TokenExpands.j0
      repeat' first
      | (with_reducible exact ih0 _ _)
      | (with_reducible exact ih1 _ _ _)
      | (with_reducible exact montagelaw07_awake.mono _)
      | (with_reducible exact montageref07_Expand.mono _ _ _)
      | (with_reducible exact token_Expand.mono _ _ _)
      | (with_reducible exact LeO.refl _)
      | (with_reducible exact LeO.none _)
      | (with_reducible refine LeO.ite ?_ ?_)
      | (with_reducible refine LeO.bind ?_ (fun _ => ?_))
      | exact ih0 _ _
      | exact ih1 _ _ _
      | exact montagelaw07_awake.mono _
      | exact montageref07_Expand.mono _ _ _
      | exact token_Expand.mono _ _ _
      | exact LeO.none _
      | refine LeO.ite ?_ ?_
      | refine LeO.bind ?_ (fun _ => ?_)
    · intro y0 y1 y2
      unfold montagelaw07_TokenExpands.l0
      repeat' first
      | (with_reducible exact ih0 _ _)
      | (with_reducible exact ih1 _ _ _)
      | (with_reducible exact montagelaw07_awake.mono _)
      | (with_reducible exact montageref07_Expand.mono _ _ _)
      | (with_reducible exact token_Expand.mono _ _ _)
      | (with_reducible exact LeO.refl _)
      | (with_reducible exact LeO.none _)
      | (with_reducible refine LeO.ite ?_ ?_)
      | (with_reducible refine LeO.bind ?_ (fun _ => ?_))
      | exact ih0 _ _
      | exact ih1 _ _ _
      | exact montagelaw07_awake.mono _
      | exact montageref07_Expand.mono _ _ _
      | exact token_Expand.mono _ _ _
      | exact LeO.none _
      | refine LeO.ite ?_ ?_
      | refine LeO.bind ?_ (fun _ => ?_)
theorem montagelaw07_TokenExpands.mono : ∀ a0 a1 k, LeO (montagelaw07_TokenExpands.f k a0 a1) (montagelaw07_TokenExpands.f (k + 1) a0 a1) := by
  intro a0 a1 k
  obtain ⟨ih0, ih1⟩ := montagelaw07_TokenExpands.mono_l k
  unfold montagelaw07_TokenExpands.f
  repeat' first
      | (with_reducible exact ih0 _ _)
      | (with_reducible exact ih1 _ _ _)
      | (with_reducible exact montagelaw07_awake.mono _)
      | (with_reducible exact montageref07_Expand.mono _ _ _)
      | (with_reducible exact token_Expand.mono _ _ _)
      | (with_reducible exact LeO.refl _)
      | (with_reducible exact LeO.none _)
      | (with_reducible refine LeO.ite ?_ ?_)
      | (with_reducible refine LeO.bind ?_ (fun _ => ?_))
      | exact ih0 _ _
      | exact ih1 _ _ _
      | exact montagelaw07_awake.mono _
      | exact montageref07_Expand.mono _ _ _
      | exact token_Expand.mono _ _ _
      | exact LeO.none _
      | refine LeO.ite ?_ ?_
      | refine LeO.bind ?_ (fun _ => ?_)
set_option maxHeartbeats 8000000 in
set_option maxRecDepth 100000 in
theorem montagelaw07_TokenExpands.calls (k : Nat) (A0 : Option Addr) (c0 : Nat) (l0 : List (S30)) (a1 : Int) (r : Bool) (w : World) (hr0 : Kd.C k30 w A0 l0.length l0) (hc0 : l0.length ≤ c0) (h : montagelaw07_TokenExpands.f k l0 a1 = some r) :
    Calls Try.prog 3 #[.slice A0 l0.length c0, .int .i64 a1] w fun e w' => e = .returned (.bool r) ∧ Below w.heap.size w w' := by
  have hu30 := Try.underlying30
  have HR0 := Aside0.mk hr0
  have HC0 := Aside0.mk hc0
  clear hr0 hc0
  have HB := Aside0.mk (Below.refl w.heap.size w)
  have H : ((montagelaw07_awake.f k).bind fun t146 => (if t146 = true then (if (l0.length : Int) > 60 then (some true) else ((token_Expand.f k l0 a1).bind fun bt147 => ((montageref07_Expand.f k l0 a1).bind fun bt149 => (if bt147.1.toList = bt149.1.toList then (montagelaw07_TokenExpands.j0 k l0 (bt147.2 != bt149.2)) else (montagelaw07_TokenExpands.j0 k l0 true))))) else (some false))) = some r := h
  clear h
  replace H := Option.bind_eq_some_iff.mp H
  obtain ⟨t146, A30, H⟩ := H
  replace H : (if t146 = true then (if (l0.length : Int) > 60 then (some true) else ((token_Expand.f k l0 a1).bind fun bt147 => ((montageref07_Expand.f k l0 a1).bind fun bt149 => (if bt147.1.toList = bt149.1.toList then (montagelaw07_TokenExpands.j0 k l0 (bt147.2 != bt149.2)) else (montagelaw07_TokenExpands.j0 k l0 true))))) else (some false)) = some r := H
  have A3 := Aside0.mk A30
  clear A30
  by_cases c4 : t146 = true
  · subst c4
    have H1 : (if (l0.length : Int) > 60 then (some true) else ((token_Expand.f k l0 a1).bind fun bt147 => ((montageref07_Expand.f k l0 a1).bind fun bt149 => (if bt147.1.toList = bt149.1.toList then (montagelaw07_TokenExpands.j0 k l0 (bt147.2 != bt149.2)) else (montagelaw07_TokenExpands.j0 k l0 true))))) = some r := by rw [if_pos rfl] at H; exact H
    clear H
    have H := H1
    clear H1
    by_cases c5 : (l0.length : Int) > 60
    · rw [if_pos c5] at H
      have c5b0 : decide (60 < (l0.length : Int)) = true := decide_eq_true c5
      have c5b1 : decide (60 < l0.length) = true := decide_eq_true (by omega)
      clear c5
      obtain rfl := Option.some.inj H
      go_enter Try.func3, Try.ntmps3
      go_wp2_with (first | ((with_reducible refine gate_callee (f := 12) rfl ?_); refine goesL_ (some 11) rfl rfl Try.func12 (by kernel_rfl) rfl #[] rfl (by (try simp only [List.map_toArray, List.map_cons, List.map_nil]); first | done | rfl | (simp only [List.length_drop, List.length_take]; rfl)) ?_; (with_reducible refine (montagelaw07_awake.calls k  true _ A3.out).mono ?_); rintro e w6 ⟨rfl, hb⟩; refine ⟨_, rfl, ?_⟩; have n0_ := Aside0.mk (below_step (by repeat (first | (with_reducible first | exact HB.out | apply below_alloc | apply pw_below_drewN | apply below_drew1) | exact HB.out)) hb); clear HB; have HB := n0_; clear n0_; (try clear hb); (try clear hb2); (try clear hk); (try clear hi)))
      go_ret
      exact ⟨by first | rfl | (simp [errW_none, errW_some] <;> rfl) | (simp [*, errW_none, errW_some] <;> rfl), by repeat (first | (with_reducible first | exact HB.out | apply below_alloc | apply pw_below_drewN | apply below_drew1) | exact HB.out)⟩
    · rw [if_neg c5] at H
      have c5b0 : decide (60 < (l0.length : Int)) = false := decide_eq_false c5
      have c5b1 : decide (60 < l0.length) = false := decide_eq_false (by omega)
      clear c5
      replace H := Option.bind_eq_some_iff.mp H
      obtain ⟨⟨t147, t148⟩, A70, H⟩ := H
      replace H : ((montageref07_Expand.f k l0 a1).bind fun bt149 => (if t147.toList = bt149.1.toList then (montagelaw07_TokenExpands.j0 k l0 (t148 != bt149.2)) else (montagelaw07_TokenExpands.j0 k l0 true))) = some r := H
      have A7 := Aside0.mk A70
      clear A70
      replace H := Option.bind_eq_some_iff.mp H
      obtain ⟨⟨t149, t150⟩, A80, H⟩ := H
      replace H : (if t147.toList = t149.toList then (montagelaw07_TokenExpands.j0 k l0 (t148 != t150)) else (montagelaw07_TokenExpands.j0 k l0 true)) = some r := H
      have A8 := Aside0.mk A80
      clear A80
      have HC9 := Aside0.mk H
      clear H
      go_enter Try.func3, Try.ntmps3
      go_upto_region 7 with (first | ((with_reducible refine gate_callee (f := 12) rfl ?_); refine goesL_ (some 11) rfl rfl Try.func12 (by kernel_rfl) rfl #[] rfl (by (try simp only [List.map_toArray, List.map_cons, List.map_nil]); first | done | rfl | (simp only [List.length_drop, List.length_take]; rfl)) ?_; (with_reducible refine (montagelaw07_awake.calls k  true _ A3.out).mono ?_); rintro e w10 ⟨rfl, hb⟩; refine ⟨_, rfl, ?_⟩; have n0_ := Aside0.mk (below_step (by repeat (first | (with_reducible first | exact HB.out | apply below_alloc | apply pw_below_drewN | apply below_drew1) | exact HB.out)) hb); clear HB; have HB := n0_; clear n0_; (try clear hb); (try clear hb2); (try clear hk); (try clear hi)) | ((with_reducible refine gate_callee (f := 13) rfl ?_); refine goesL_ (some 19) rfl rfl Try.func13 (by kernel_rfl) rfl #[.slice A0 l0.length c0, .int .i64 a1] rfl (by (try simp only [List.map_toArray, List.map_cons, List.map_nil]); first | done | rfl | (simp only [List.length_drop, List.length_take]; rfl)) ?_; (with_reducible refine (token_Expand.calls k _ _ l0 a1 t147 t148 _ ?side1 ?side2 A7.out).mono ?_); (case side1 => repeat (first | exact (Kd.C_below HR0.out HB.out) | (with_reducible refine Kd.C_alloc ?_ _) | (with_reducible refine Kd.C_drewN ?_ _) | (with_reducible refine Kd.C_drew ?_))); (case side2 => exact HC0.out); rintro e w11 ⟨rfl, hb⟩; refine ⟨_, rfl, ?_⟩; have n0_ := Aside0.mk (below_step (by repeat (first | (with_reducible first | exact HB.out | apply below_alloc | apply pw_below_drewN | apply below_drew1) | exact HB.out)) hb); clear HB; have HB := n0_; clear n0_; (try clear hb); (try clear hb2); (try clear hk); (try clear hi)) | ((with_reducible refine gate_callee (f := 14) rfl ?_); refine goesL_ (some 25) rfl rfl Try.func14 (by kernel_rfl) rfl #[.slice A0 l0.length c0, .int .i64 a1] rfl (by (try simp only [List.map_toArray, List.map_cons, List.map_nil]); first | done | rfl | (simp only [List.length_drop, List.length_take]; rfl)) ?_; (with_reducible refine (montageref07_Expand.calls k _ _ l0 a1 t149 t150 _ ?side1 ?side2 A8.out).mono ?_); (case side1 => repeat (first | exact (Kd.C_below HR0.out HB.out) | (with_reducible refine Kd.C_alloc ?_ _) | (with_reducible refine Kd.C_drewN ?_ _) | (with_reducible refine Kd.C_drew ?_))); (case side2 => exact HC0.out); rintro e w12 ⟨rfl, hb⟩; refine ⟨_, rfl, ?_⟩; have n0_ := Aside0.mk (below_step (by repeat (first | (with_reducible first | exact HB.out | apply below_alloc | apply pw_below_drewN | apply below_drew1) | exact HB.out)) hb); clear HB; have HB := n0_; clear n0_; (try clear hb); (try clear hb2); (try clear hk); (try clear hi)))
      (try simp only [Act.put, List.setIfInBounds_toArray, List.set_cons_zero, List.set_cons_succ])
      go_cut [35] (fun v35 wc => ∃ (kq : Nat) (x35_8 : Bool), v35 = .bool x35_8 ∧ Aside0 (montagelaw07_TokenExpands.j0 kq l0 x35_8 = some r) ∧ Aside0 (kq ≤ k) ∧ Aside0 (Below w.heap.size w wc))
      case first =>
        have H := HC9.out
        clear HC9
        by_cases c13 : t147.toList = t149.toList
        · rw [if_pos c13] at H
          have c13b0 : (t147.toList == t149.toList) = true := beq_iff_eq.mpr c13
          have c13b1 : (t147.toList != t149.toList) = false := bne_eq_false_iff_eq.mpr c13
          clear c13
          (first | rw [c13b0] | (simp only [i64_w, i32_w]; rw [c13b0]) | skip)
          have H' := Aside0.mk H
          clear H
          go_wp2
          go_meet
          case rel => exact ⟨_, ((t148 != t150)), (by first | rfl | (simp; done) | (simp [*]; done)), H', ⟨by first | omega | exact Nat.le_refl _⟩, ⟨by repeat (first | (with_reducible first | exact HB.out | apply below_alloc | apply pw_below_drewN | apply below_drew1) | exact HB.out)⟩⟩
        · rw [if_neg c13] at H
          have c13b0 : (t147.toList == t149.toList) = false := beq_eq_false_iff_ne.mpr c13
          have c13b1 : (t147.toList != t149.toList) = true := bne_iff_ne.mpr c13
          (first | rw [c13b0] | (simp only [i64_w, i32_w]; rw [c13b0]) | skip)
          have H' := Aside0.mk H
          clear H
          go_wp2
          go_meet
          case rel => exact ⟨_, (true), (by first | rfl | (simp; done) | (simp [*]; done)), H', ⟨by first | omega | exact Nat.le_refl _⟩, ⟨by repeat (first | (with_reducible first | exact HB.out | apply below_alloc | apply pw_below_drewN | apply below_drew1) | exact HB.out)⟩⟩
      case rest =>
        clear HC9
        try clear c1
        try clear p2
        try clear c3
        try clear c4
        try clear c5
        try clear c5b0
        try clear c5b1
        try clear c12
        try clear c13
        try clear c13b0
        try clear c13b1
        obtain ⟨kq, x35_8, rfl, HA, HJ8, HB⟩ := hcut
        cases kq with
        | zero => exact absurd HA.out (by simp [montagelaw07_TokenExpands.j0])
        | succ kj8 =>
          have H := HA.out
          clear HA
          simp only [montagelaw07_TokenExpands.j0] at H
          by_cases c14 : x35_8 = true
          · subst c14
            have H1 : (some false) = some r := by rw [if_pos rfl] at H; exact H
            clear H
            have H := H1
            clear H1
            obtain rfl := Option.some.inj H
            go_wp2
            go_ret
            exact ⟨by first | rfl | (simp [errW_none, errW_some] <;> rfl) | (simp [*, errW_none, errW_some] <;> rfl), by repeat (first | (with_reducible first | exact HB.out | apply below_alloc | apply pw_below_drewN | apply below_drew1) | exact HB.out)⟩
          · replace c14 := Bool.eq_false_iff.mpr c14
            subst c14
            have H1 : (montagelaw07_TokenExpands.l0 kj8 l0 (l0.length : Int) 0) = some r := by rw [if_neg (show ¬ (false = true) by decide)] at H; exact H
            clear H
            have H := H1
            clear H1
            have H' := Aside0.mk H
            clear H
            go_wp2
            go_loopg [38] kj8 (fun kq v38 w' => ∃ (x38_2 : Int), v38 = .int .i64 x38_2 ∧ Aside0 (montagelaw07_TokenExpands.l0 kq l0 (l0.length : Int) x38_2 = some r) ∧ Aside0 (kq ≤ kj8) ∧ Aside0 (Below w.heap.size w w'))
            case atStart => exact ⟨(0), (by first | rfl | (simp; done) | (simp [*]; done)), H', ⟨Nat.le_refl _⟩, ⟨by repeat (first | (with_reducible first | exact HB.out | apply below_alloc | apply pw_below_drewN | apply below_drew1) | exact HB.out)⟩⟩
            case round =>
              clear H'
              try clear c1
              try clear p2
              try clear c3
              try clear c4
              try clear c5
              try clear c5b0
              try clear c5b1
              try clear c12
              try clear c13
              try clear c13b0
              try clear c13b1
              try clear c14
              try clear p2
              obtain ⟨x38_2, rfl, HA, HK2, HB⟩ := hrel
              cases gk with
              | zero => exact absurd HA.out (by simp [montagelaw07_TokenExpands.l0])
              | succ k2 =>
                have H := HA.out
                clear HA
                simp only [montagelaw07_TokenExpands.l0] at H
                by_cases c15 : x38_2 < (l0.length : Int)
                · rw [if_pos c15] at H
                  have c15b0 : decide (x38_2 < (l0.length : Int)) = true := decide_eq_true c15
                  clear c15
                  by_cases c16 : 0 ≤ x38_2
                  · rw [if_pos c16] at H
                    have c16b0 : decide (0 ≤ x38_2) = true := decide_eq_true c16
                    clear c16
                    by_cases c17 : x38_2 < (l0.length : Int)
                    · rw [if_pos c17] at H
                      have c17b0 : decide (x38_2 < (l0.length : Int)) = true := decide_eq_true c17
                      clear c17
                      replace H := Option.bind_eq_some_iff.mp H
                      obtain ⟨t153, A180, H⟩ := H
                      replace H : ((montageref07_May.f ((rd_T30 l0 x38_2).f0) ((rd_T30 l0 x38_2).f1) ((rd_T30 l0 x38_2).f2)).bind fun t154 => (if (t153 != t154) = true then (some false) else (montagelaw07_TokenExpands.l0 k2 l0 (l0.length : Int) (wrap64 (x38_2 + 1))))) = some r := H
                      have A18 := Aside0.mk A180
                      clear A180
                      replace H := Option.bind_eq_some_iff.mp H
                      obtain ⟨t154, A190, H⟩ := H
                      replace H : (if (t153 != t154) = true then (some false) else (montagelaw07_TokenExpands.l0 k2 l0 (l0.length : Int) (wrap64 (x38_2 + 1)))) = some r := H
                      have A19 := Aside0.mk A190
                      clear A190
                      by_cases c20 : (t153 != t154) = true
                      · rw [if_pos c20] at H
                        have c20b0 : (t153 != t154) = true := c20
                        (try (have c20b1 : decide (t153 = t154) = false := by simpa using c20))
                        (try (have c20b2 : (t153 == t154) = false := by simpa using c20))
                        (try (have c20b3 : ¬ (t153 = t154) := by simpa using c20))
                        clear c20
                        obtain rfl := Option.some.inj H
                        have p151 : 0 ≤ (x38_2 : Int) := of_decide_eq_true (by first | (with_reducible assumption) | assumption)
                        have q151 : x38_2 < (l0.length : Int) := of_decide_eq_true (by first | (with_reducible assumption) | assumption)
                        obtain ⟨ad151, e151, hx151_0, hx151_1, hx151_2⟩ := at_T30 HR0.out x38_2 p151 q151
                        cases e151
                        replace hx151_0 := (HB.out.cell (World.block_lt_of_cell? w _ hx151_0)).trans hx151_0
                        replace hx151_1 := (HB.out.cell (World.block_lt_of_cell? w _ hx151_1)).trans hx151_1
                        replace hx151_2 := (HB.out.cell (World.block_lt_of_cell? w _ hx151_2)).trans hx151_2
                        replace p151 := eq_true p151
                        replace q151 := eq_true q151
                        try go_wp2_with (first | ((with_reducible refine gate_dst (N := 10) rfl ?_); refine box_event ?hg (N := 10) ?hd (cs := #[.int .u8 0, .int .i64 0, .int .i64 0]) (t := 30) ?hr ?_; (case hd => rfl); (case hg => rfl); (case hr => first | (go_simp; done) | (go_simp; rfl)); intro gb152 hg w21 hbox hb; have n0_ := Aside0.mk (below_step (by repeat (first | (with_reducible first | exact HB.out | apply below_alloc | apply pw_below_drewN | apply below_drew1) | exact HB.out)) hb); have n1_ := Aside0.mk (hbox); have n2_ := Aside0.mk ((by rw [hg]; exact (below_size (by repeat (first | (with_reducible first | exact HB.out | apply below_alloc | apply pw_below_drewN | apply below_drew1) | exact HB.out))) : w.heap.size ≤ gb152)); have n3_ := Aside0.mk ((by rw [hg]; exact (below_size (by repeat (first | (with_reducible first | exact HB.out | apply below_alloc | apply pw_below_drewN | apply below_drew1) | exact HB.out))) : w.heap.size ≤ gb152)); clear HB; have HB := n0_; have BK152 := n1_; have GW152 := n2_; have GE152 := n3_; clear n0_ n1_ n2_ n3_; clear hb hbox hg; have hcz22_0 : w21.cell? ⟨gb152, 0, none⟩ = some (.int .u8 0) := (blk_cell BK152.out 0).trans rfl; have hcz22_1 : w21.cell? ⟨gb152, 1, none⟩ = some (.int .i64 0) := (blk_cell BK152.out 1).trans rfl; have hcz22_2 : w21.cell? ⟨gb152, 2, none⟩ = some (.int .i64 0) := (blk_cell BK152.out 2).trans rfl; have hfz22_0 := blk_frozen BK152.out 0; have hfz22_1 := blk_frozen BK152.out 1; have hfz22_2 := blk_frozen BK152.out 2))
                        have n0_ : Aside0 ((((w21.setCell ⟨gb152, 0, none⟩ (.int .u8 ((rd_T30 l0 x38_2).f0))).setCell ⟨gb152, 1, none⟩ (.int .i64 ((rd_T30 l0 x38_2).f1))).setCell ⟨gb152, 2, none⟩ (.int .i64 ((rd_T30 l0 x38_2).f2))).heap[gb152]? = some (.cells #[.int .u8 ((rd_T30 l0 x38_2).f0), .int .i64 ((rd_T30 l0 x38_2).f1), .int .i64 ((rd_T30 l0 x38_2).f2)] 30 (0, 0))) := ⟨by (with_reducible repeat (first | refine blk_drewN ?_ _ | refine blk_drew ?_ | refine blk_alloc ?_ _)); refine blk_put (cs := #[.int .u8 ((rd_T30 l0 x38_2).f0), .int .i64 ((rd_T30 l0 x38_2).f1), .int .i64 0]) ?_ 2 _ rfl; (with_reducible repeat (first | refine blk_drewN ?_ _ | refine blk_drew ?_ | refine blk_alloc ?_ _)); refine blk_put (cs := #[.int .u8 ((rd_T30 l0 x38_2).f0), .int .i64 0, .int .i64 0]) ?_ 1 _ rfl; (with_reducible repeat (first | refine blk_drewN ?_ _ | refine blk_drew ?_ | refine blk_alloc ?_ _)); refine blk_put (cs := #[.int .u8 0, .int .i64 0, .int .i64 0]) ?_ 0 _ rfl; (with_reducible repeat (first | refine blk_drewN ?_ _ | refine blk_drew ?_ | refine blk_alloc ?_ _)); exact BK152.out⟩
                        have n1_ : Aside0 (Below w.heap.size w (((w21.setCell ⟨gb152, 0, none⟩ (.int .u8 ((rd_T30 l0 x38_2).f0))).setCell ⟨gb152, 1, none⟩ (.int .i64 ((rd_T30 l0 x38_2).f1))).setCell ⟨gb152, 2, none⟩ (.int .i64 ((rd_T30 l0 x38_2).f2)))) := ⟨by repeat (first | (with_reducible first | exact HB.out | apply below_alloc | apply pw_below_drewN | apply below_drew1 | refine below_set ?_ GE152.out) | exact HB.out)⟩
                        (try clear BK152)
                        (try clear HB)
                        generalize (((w21.setCell ⟨gb152, 0, none⟩ (.int .u8 ((rd_T30 l0 x38_2).f0))).setCell ⟨gb152, 1, none⟩ (.int .i64 ((rd_T30 l0 x38_2).f1))).setCell ⟨gb152, 2, none⟩ (.int .i64 ((rd_T30 l0 x38_2).f2))) = w23 at n0_ n1_ ⊢
                        have BK152 := n0_
                        have HB := n1_
                        clear n0_ n1_
                        have n0_ := Aside0.mk (blk_drew BK152.out)
                        have n1_ := Aside0.mk (below_drew1 HB.out)
                        clear BK152
                        clear HB
                        have BK152 := n0_
                        have HB := n1_
                        clear n0_ n1_
                        refine start_ (n := 5) (S := fun w' => w'.cell? ⟨gb152, 0, none⟩ = some (.int .u8 ((rd_T30 l0 x38_2).f0)) ∧ w'.cell? ⟨gb152, 1, none⟩ = some (.int .i64 ((rd_T30 l0 x38_2).f1)) ∧ w'.cell? ⟨gb152, 2, none⟩ = some (.int .i64 ((rd_T30 l0 x38_2).f2))) (ds := []) #[false, false, false, false, false] (by kernel_rfl) rfl rfl ⟨(blk_cell BK152.out 0).trans rfl, (blk_cell BK152.out 1).trans rfl, (blk_cell BK152.out 2).trans rfl⟩ (fun hHeld => ?_)
                        generalize w23.drew = w24 at BK152 HB hHeld ⊢
                        refine take_ (i := 0) (N := some 42) (v := ?_) (a' := ?_) #[true, false, false, false, false] rfl rfl (by kernel_rfl) (fun _ _ _ h => h) (Or.inl ⟨by rfl, ?_⟩) hHeld ?_ ?_
                        rotate_left
                        · rintro w' ⟨s0, s1, s2⟩
                          go_simp
                          with_reducible rfl
                        rotate_left
                        · simp only [Act.put, List.setIfInBounds_toArray, List.set_cons_zero, List.set_cons_succ, i64_w, i32_w]
                          rfl
                        refine take_ (i := 2) (N := some 44) (v := ?_) (a' := ?_) #[true, false, true, false, false] rfl rfl (by kernel_rfl) (fun _ _ _ h => h) (Or.inl ⟨by rfl, ?_⟩) hHeld ?_ ?_
                        rotate_left
                        · rintro w' ⟨s0, s1, s2⟩
                          go_simp
                          with_reducible rfl
                        rotate_left
                        · simp only [Act.put, List.setIfInBounds_toArray, List.set_cons_zero, List.set_cons_succ, i64_w, i32_w]
                          rfl
                        refine one_ (i := 1) (N := some 43) #[true, true, true, false, false] rfl rfl (by kernel_rfl) (by decide) (fun K hK => ?_)
                        refine goes_ Try.func15 (by kernel_rfl) rfl #[.agg #[.int .u8 ((rd_T30 l0 x38_2).f0), .int .i64 ((rd_T30 l0 x38_2).f1), .int .i64 ((rd_T30 l0 x38_2).f2)]] (by rfl) rfl rfl (by (try simp only [List.map_toArray, List.map_cons, List.map_nil]); first | done | rfl | (simp only [List.length_drop, List.length_take]; rfl)) ?_
                        with_reducible refine (token_May.calls ((rd_T30 l0 x38_2).f0) ((rd_T30 l0 x38_2).f1) ((rd_T30 l0 x38_2).f2) t153 _ A18.out).mono ?_
                        rintro e w25 ⟨rfl, hb⟩
                        refine ⟨_, rfl, ?_⟩
                        have n0_ := Aside0.mk (blk_below (g := gb152) (o := .cells #[.int .u8 ((rd_T30 l0 x38_2).f0), .int .i64 ((rd_T30 l0 x38_2).f1), .int .i64 ((rd_T30 l0 x38_2).f2)] 30 (0, 0)) (by (with_reducible repeat (first | refine blk_drewN ?_ _ | refine blk_drew ?_ | refine blk_alloc ?_ _)); exact BK152.out) hb)
                        have n1_ := Aside0.mk (below_step (by repeat (first | (with_reducible first | exact HB.out | apply below_alloc | apply pw_below_drewN | apply below_drew1 | refine below_set ?_ GE152.out) | exact HB.out)) hb)
                        clear BK152
                        clear HB
                        have BK152 := n0_
                        have HB := n1_
                        clear n0_ n1_
                        (try clear hb)
                        (try clear hb2)
                        (try clear hk)
                        (try clear hi)
                        refine hK.out _ _ ⟨(blk_cell BK152.out 0).trans rfl, (blk_cell BK152.out 1).trans rfl, (blk_cell BK152.out 2).trans rfl⟩ (fun hHeld => ?_)
                        clear hK K
                        refine norm_ (a' := ?_) ?_ ?_
                        rotate_left
                        · show Act.put _ (some 43) _ = _
                          simp only [Act.put, List.setIfInBounds_toArray, List.set_cons_zero, List.set_cons_succ, i64_w, i32_w]
                          rfl
                        refine one_ (i := 3) (N := some 45) #[true, true, true, true, false] rfl rfl (by kernel_rfl) (by decide) (fun K hK => ?_)
                        refine goes_ Try.func16 (by kernel_rfl) rfl #[.agg #[.int .u8 ((rd_T30 l0 x38_2).f0), .int .i64 ((rd_T30 l0 x38_2).f1), .int .i64 ((rd_T30 l0 x38_2).f2)]] (by rfl) rfl rfl (by (try simp only [List.map_toArray, List.map_cons, List.map_nil]); first | done | rfl | (simp only [List.length_drop, List.length_take]; rfl)) ?_
                        with_reducible refine (montageref07_May.calls ((rd_T30 l0 x38_2).f0) ((rd_T30 l0 x38_2).f1) ((rd_T30 l0 x38_2).f2) t154 _ A19.out).mono ?_
                        rintro e w26 ⟨rfl, hb⟩
                        refine ⟨_, rfl, ?_⟩
                        have n0_ := Aside0.mk (blk_below (g := gb152) (o := .cells #[.int .u8 ((rd_T30 l0 x38_2).f0), .int .i64 ((rd_T30 l0 x38_2).f1), .int .i64 ((rd_T30 l0 x38_2).f2)] 30 (0, 0)) (by (with_reducible repeat (first | refine blk_drewN ?_ _ | refine blk_drew ?_ | refine blk_alloc ?_ _)); exact BK152.out) hb)
                        have n1_ := Aside0.mk (below_step (by repeat (first | (with_reducible first | exact HB.out | apply below_alloc | apply pw_below_drewN | apply below_drew1 | refine below_set ?_ GE152.out) | exact HB.out)) hb)
                        clear BK152
                        clear HB
                        have BK152 := n0_
                        have HB := n1_
                        clear n0_ n1_
                        (try clear hb)
                        (try clear hb2)
                        (try clear hk)
                        (try clear hi)
                        refine hK.out _ _ ⟨(blk_cell BK152.out 0).trans rfl, (blk_cell BK152.out 1).trans rfl, (blk_cell BK152.out 2).trans rfl⟩ (fun hHeld => ?_)
                        clear hK K
                        refine norm_ (a' := ?_) ?_ ?_
                        rotate_left
                        · show Act.put _ (some 45) _ = _
                          simp only [Act.put, List.setIfInBounds_toArray, List.set_cons_zero, List.set_cons_succ, i64_w, i32_w]
                          rfl
                        refine pure_ (i := 4) (N := some 46) (v := ?_) (a' := ?_) #[true, true, true, true, true] rfl rfl (by kernel_rfl) (fun _ _ _ h => h) (Or.inl ⟨by rfl, ?_⟩) ?_ ?_
                        rotate_left
                        · intro w'
                          go_simp
                          with_reducible rfl
                        rotate_left
                        · simp only [Act.put, List.setIfInBounds_toArray, List.set_cons_zero, List.set_cons_succ, i64_w, i32_w]
                          rfl
                        refine done_ (by kernel_rfl) ?_
                        try go_wp2
                        go_ret
                        exact ⟨by first | rfl | (simp [errW_none, errW_some] <;> rfl) | (simp [*, errW_none, errW_some] <;> rfl), by repeat (first | (with_reducible first | exact HB.out | apply below_alloc | apply pw_below_drewN | apply below_drew1 | refine below_set ?_ GE152.out) | exact HB.out)⟩
                      · rw [if_neg c20] at H
                        have c20b0 : (t153 != t154) = false := by simpa using c20
                        (try (have c20b1 : decide (t153 = t154) = true := by simpa using c20))
                        (try (have c20b2 : (t153 == t154) = true := by simpa using c20))
                        clear c20
                        have H' := Aside0.mk H
                        clear H
                        have p151 : 0 ≤ (x38_2 : Int) := of_decide_eq_true (by first | (with_reducible assumption) | assumption)
                        have q151 : x38_2 < (l0.length : Int) := of_decide_eq_true (by first | (with_reducible assumption) | assumption)
                        obtain ⟨ad151, e151, hx151_0, hx151_1, hx151_2⟩ := at_T30 HR0.out x38_2 p151 q151
                        cases e151
                        replace hx151_0 := (HB.out.cell (World.block_lt_of_cell? w _ hx151_0)).trans hx151_0
                        replace hx151_1 := (HB.out.cell (World.block_lt_of_cell? w _ hx151_1)).trans hx151_1
                        replace hx151_2 := (HB.out.cell (World.block_lt_of_cell? w _ hx151_2)).trans hx151_2
                        replace p151 := eq_true p151
                        replace q151 := eq_true q151
                        try go_wp2_with (first | ((with_reducible refine gate_dst (N := 10) rfl ?_); refine box_event ?hg (N := 10) ?hd (cs := #[.int .u8 0, .int .i64 0, .int .i64 0]) (t := 30) ?hr ?_; (case hd => rfl); (case hg => rfl); (case hr => first | (go_simp; done) | (go_simp; rfl)); intro gb152 hg w27 hbox hb; have n0_ := Aside0.mk (below_step (by repeat (first | (with_reducible first | exact HB.out | apply below_alloc | apply pw_below_drewN | apply below_drew1) | exact HB.out)) hb); have n1_ := Aside0.mk (hbox); have n2_ := Aside0.mk ((by rw [hg]; exact (below_size (by repeat (first | (with_reducible first | exact HB.out | apply below_alloc | apply pw_below_drewN | apply below_drew1) | exact HB.out))) : w.heap.size ≤ gb152)); have n3_ := Aside0.mk ((by rw [hg]; exact (below_size (by repeat (first | (with_reducible first | exact HB.out | apply below_alloc | apply pw_below_drewN | apply below_drew1) | exact HB.out))) : w.heap.size ≤ gb152)); clear HB; have HB := n0_; have BK152 := n1_; have GW152 := n2_; have GE152 := n3_; clear n0_ n1_ n2_ n3_; clear hb hbox hg; have hcz28_0 : w27.cell? ⟨gb152, 0, none⟩ = some (.int .u8 0) := (blk_cell BK152.out 0).trans rfl; have hcz28_1 : w27.cell? ⟨gb152, 1, none⟩ = some (.int .i64 0) := (blk_cell BK152.out 1).trans rfl; have hcz28_2 : w27.cell? ⟨gb152, 2, none⟩ = some (.int .i64 0) := (blk_cell BK152.out 2).trans rfl; have hfz28_0 := blk_frozen BK152.out 0; have hfz28_1 := blk_frozen BK152.out 1; have hfz28_2 := blk_frozen BK152.out 2))
                        have n0_ : Aside0 ((((w27.setCell ⟨gb152, 0, none⟩ (.int .u8 ((rd_T30 l0 x38_2).f0))).setCell ⟨gb152, 1, none⟩ (.int .i64 ((rd_T30 l0 x38_2).f1))).setCell ⟨gb152, 2, none⟩ (.int .i64 ((rd_T30 l0 x38_2).f2))).heap[gb152]? = some (.cells #[.int .u8 ((rd_T30 l0 x38_2).f0), .int .i64 ((rd_T30 l0 x38_2).f1), .int .i64 ((rd_T30 l0 x38_2).f2)] 30 (0, 0))) := ⟨by (with_reducible repeat (first | refine blk_drewN ?_ _ | refine blk_drew ?_ | refine blk_alloc ?_ _)); refine blk_put (cs := #[.int .u8 ((rd_T30 l0 x38_2).f0), .int .i64 ((rd_T30 l0 x38_2).f1), .int .i64 0]) ?_ 2 _ rfl; (with_reducible repeat (first | refine blk_drewN ?_ _ | refine blk_drew ?_ | refine blk_alloc ?_ _)); refine blk_put (cs := #[.int .u8 ((rd_T30 l0 x38_2).f0), .int .i64 0, .int .i64 0]) ?_ 1 _ rfl; (with_reducible repeat (first | refine blk_drewN ?_ _ | refine blk_drew ?_ | refine blk_alloc ?_ _)); refine blk_put (cs := #[.int .u8 0, .int .i64 0, .int .i64 0]) ?_ 0 _ rfl; (with_reducible repeat (first | refine blk_drewN ?_ _ | refine blk_drew ?_ | refine blk_alloc ?_ _)); exact BK152.out⟩
                        have n1_ : Aside0 (Below w.heap.size w (((w27.setCell ⟨gb152, 0, none⟩ (.int .u8 ((rd_T30 l0 x38_2).f0))).setCell ⟨gb152, 1, none⟩ (.int .i64 ((rd_T30 l0 x38_2).f1))).setCell ⟨gb152, 2, none⟩ (.int .i64 ((rd_T30 l0 x38_2).f2)))) := ⟨by repeat (first | (with_reducible first | exact HB.out | apply below_alloc | apply pw_below_drewN | apply below_drew1 | refine below_set ?_ GE152.out) | exact HB.out)⟩
                        (try clear BK152)
                        (try clear HB)
                        generalize (((w27.setCell ⟨gb152, 0, none⟩ (.int .u8 ((rd_T30 l0 x38_2).f0))).setCell ⟨gb152, 1, none⟩ (.int .i64 ((rd_T30 l0 x38_2).f1))).setCell ⟨gb152, 2, none⟩ (.int .i64 ((rd_T30 l0 x38_2).f2))) = w29 at n0_ n1_ ⊢
                        have BK152 := n0_
                        have HB := n1_
                        clear n0_ n1_
                        have n0_ := Aside0.mk (blk_drew BK152.out)
                        have n1_ := Aside0.mk (below_drew1 HB.out)
                        clear BK152
                        clear HB
                        have BK152 := n0_
                        have HB := n1_
                        clear n0_ n1_
                        refine start_ (n := 5) (S := fun w' => w'.cell? ⟨gb152, 0, none⟩ = some (.int .u8 ((rd_T30 l0 x38_2).f0)) ∧ w'.cell? ⟨gb152, 1, none⟩ = some (.int .i64 ((rd_T30 l0 x38_2).f1)) ∧ w'.cell? ⟨gb152, 2, none⟩ = some (.int .i64 ((rd_T30 l0 x38_2).f2))) (ds := []) #[false, false, false, false, false] (by kernel_rfl) rfl rfl ⟨(blk_cell BK152.out 0).trans rfl, (blk_cell BK152.out 1).trans rfl, (blk_cell BK152.out 2).trans rfl⟩ (fun hHeld => ?_)
                        generalize w29.drew = w30 at BK152 HB hHeld ⊢
                        refine take_ (i := 0) (N := some 42) (v := ?_) (a' := ?_) #[true, false, false, false, false] rfl rfl (by kernel_rfl) (fun _ _ _ h => h) (Or.inl ⟨by rfl, ?_⟩) hHeld ?_ ?_
                        rotate_left
                        · rintro w' ⟨s0, s1, s2⟩
                          go_simp
                          with_reducible rfl
                        rotate_left
                        · simp only [Act.put, List.setIfInBounds_toArray, List.set_cons_zero, List.set_cons_succ, i64_w, i32_w]
                          rfl
                        refine take_ (i := 2) (N := some 44) (v := ?_) (a' := ?_) #[true, false, true, false, false] rfl rfl (by kernel_rfl) (fun _ _ _ h => h) (Or.inl ⟨by rfl, ?_⟩) hHeld ?_ ?_
                        rotate_left
                        · rintro w' ⟨s0, s1, s2⟩
                          go_simp
                          with_reducible rfl
                        rotate_left
                        · simp only [Act.put, List.setIfInBounds_toArray, List.set_cons_zero, List.set_cons_succ, i64_w, i32_w]
                          rfl
                        refine one_ (i := 1) (N := some 43) #[true, true, true, false, false] rfl rfl (by kernel_rfl) (by decide) (fun K hK => ?_)
                        refine goes_ Try.func15 (by kernel_rfl) rfl #[.agg #[.int .u8 ((rd_T30 l0 x38_2).f0), .int .i64 ((rd_T30 l0 x38_2).f1), .int .i64 ((rd_T30 l0 x38_2).f2)]] (by rfl) rfl rfl (by (try simp only [List.map_toArray, List.map_cons, List.map_nil]); first | done | rfl | (simp only [List.length_drop, List.length_take]; rfl)) ?_
                        with_reducible refine (token_May.calls ((rd_T30 l0 x38_2).f0) ((rd_T30 l0 x38_2).f1) ((rd_T30 l0 x38_2).f2) t153 _ A18.out).mono ?_
                        rintro e w31 ⟨rfl, hb⟩
                        refine ⟨_, rfl, ?_⟩
                        have n0_ := Aside0.mk (blk_below (g := gb152) (o := .cells #[.int .u8 ((rd_T30 l0 x38_2).f0), .int .i64 ((rd_T30 l0 x38_2).f1), .int .i64 ((rd_T30 l0 x38_2).f2)] 30 (0, 0)) (by (with_reducible repeat (first | refine blk_drewN ?_ _ | refine blk_drew ?_ | refine blk_alloc ?_ _)); exact BK152.out) hb)
                        have n1_ := Aside0.mk (below_step (by repeat (first | (with_reducible first | exact HB.out | apply below_alloc | apply pw_below_drewN | apply below_drew1 | refine below_set ?_ GE152.out) | exact HB.out)) hb)
                        clear BK152
                        clear HB
                        have BK152 := n0_
                        have HB := n1_
                        clear n0_ n1_
                        (try clear hb)
                        (try clear hb2)
                        (try clear hk)
                        (try clear hi)
                        refine hK.out _ _ ⟨(blk_cell BK152.out 0).trans rfl, (blk_cell BK152.out 1).trans rfl, (blk_cell BK152.out 2).trans rfl⟩ (fun hHeld => ?_)
                        clear hK K
                        refine norm_ (a' := ?_) ?_ ?_
                        rotate_left
                        · show Act.put _ (some 43) _ = _
                          simp only [Act.put, List.setIfInBounds_toArray, List.set_cons_zero, List.set_cons_succ, i64_w, i32_w]
                          rfl
                        refine one_ (i := 3) (N := some 45) #[true, true, true, true, false] rfl rfl (by kernel_rfl) (by decide) (fun K hK => ?_)
                        refine goes_ Try.func16 (by kernel_rfl) rfl #[.agg #[.int .u8 ((rd_T30 l0 x38_2).f0), .int .i64 ((rd_T30 l0 x38_2).f1), .int .i64 ((rd_T30 l0 x38_2).f2)]] (by rfl) rfl rfl (by (try simp only [List.map_toArray, List.map_cons, List.map_nil]); first | done | rfl | (simp only [List.length_drop, List.length_take]; rfl)) ?_
                        with_reducible refine (montageref07_May.calls ((rd_T30 l0 x38_2).f0) ((rd_T30 l0 x38_2).f1) ((rd_T30 l0 x38_2).f2) t154 _ A19.out).mono ?_
                        rintro e w32 ⟨rfl, hb⟩
                        refine ⟨_, rfl, ?_⟩
                        have n0_ := Aside0.mk (blk_below (g := gb152) (o := .cells #[.int .u8 ((rd_T30 l0 x38_2).f0), .int .i64 ((rd_T30 l0 x38_2).f1), .int .i64 ((rd_T30 l0 x38_2).f2)] 30 (0, 0)) (by (with_reducible repeat (first | refine blk_drewN ?_ _ | refine blk_drew ?_ | refine blk_alloc ?_ _)); exact BK152.out) hb)
                        have n1_ := Aside0.mk (below_step (by repeat (first | (with_reducible first | exact HB.out | apply below_alloc | apply pw_below_drewN | apply below_drew1 | refine below_set ?_ GE152.out) | exact HB.out)) hb)
                        clear BK152
                        clear HB
                        have BK152 := n0_
                        have HB := n1_
                        clear n0_ n1_
                        (try clear hb)
                        (try clear hb2)
                        (try clear hk)
                        (try clear hi)
                        refine hK.out _ _ ⟨(blk_cell BK152.out 0).trans rfl, (blk_cell BK152.out 1).trans rfl, (blk_cell BK152.out 2).trans rfl⟩ (fun hHeld => ?_)
                        clear hK K
                        refine norm_ (a' := ?_) ?_ ?_
                        rotate_left
                        · show Act.put _ (some 45) _ = _
                          simp only [Act.put, List.setIfInBounds_toArray, List.set_cons_zero, List.set_cons_succ, i64_w, i32_w]
                          rfl
                        refine pure_ (i := 4) (N := some 46) (v := ?_) (a' := ?_) #[true, true, true, true, true] rfl rfl (by kernel_rfl) (fun _ _ _ h => h) (Or.inl ⟨by rfl, ?_⟩) ?_ ?_
                        rotate_left
                        · intro w'
                          go_simp
                          with_reducible rfl
                        rotate_left
                        · simp only [Act.put, List.setIfInBounds_toArray, List.set_cons_zero, List.set_cons_succ, i64_w, i32_w]
                          rfl
                        refine done_ (by kernel_rfl) ?_
                        try go_wp2
                        go_roundg k2
                        case measure => have := HJ8.out; have := HK2.out; omega
                        case rel => exact ⟨(wrap64 (x38_2 + 1)), (by first | rfl | (simp; done) | (simp [*]; done)), H', ⟨by have := HJ8.out; have := HK2.out; omega⟩, ⟨by repeat (first | (with_reducible first | exact HB.out | apply below_alloc | apply pw_below_drewN | apply below_drew1 | refine below_set ?_ GE152.out) | exact HB.out)⟩⟩
                    · rw [if_neg c17] at H
                      exact absurd H (by simp)
                  · rw [if_neg c16] at H
                    exact absurd H (by simp)
                · rw [if_neg c15] at H
                  have c15b0 : decide (x38_2 < (l0.length : Int)) = false := decide_eq_false c15
                  clear c15
                  obtain rfl := Option.some.inj H
                  go_wp2
                  go_ret
                  exact ⟨by first | rfl | (simp [errW_none, errW_some] <;> rfl) | (simp [*, errW_none, errW_some] <;> rfl), by repeat (first | (with_reducible first | exact HB.out | apply below_alloc | apply pw_below_drewN | apply below_drew1) | exact HB.out)⟩
  · replace c4 := Bool.eq_false_iff.mpr c4
    subst c4
    have H1 : (some false) = some r := by rw [if_neg (show ¬ (false = true) by decide)] at H; exact H
    clear H
    have H := H1
    clear H1
    obtain rfl := Option.some.inj H
    go_enter Try.func3, Try.ntmps3
    go_wp2_with (first | ((with_reducible refine gate_callee (f := 12) rfl ?_); refine goesL_ (some 11) rfl rfl Try.func12 (by kernel_rfl) rfl #[] rfl (by (try simp only [List.map_toArray, List.map_cons, List.map_nil]); first | done | rfl | (simp only [List.length_drop, List.length_take]; rfl)) ?_; (with_reducible refine (montagelaw07_awake.calls k  false _ A3.out).mono ?_); rintro e w33 ⟨rfl, hb⟩; refine ⟨_, rfl, ?_⟩; have n0_ := Aside0.mk (below_step (by repeat (first | (with_reducible first | exact HB.out | apply below_alloc | apply pw_below_drewN | apply below_drew1) | exact HB.out)) hb); clear HB; have HB := n0_; clear n0_; (try clear hb); (try clear hb2); (try clear hk); (try clear hi)))
    go_ret
    exact ⟨by first | rfl | (simp [errW_none, errW_some] <;> rfl) | (simp [*, errW_none, errW_some] <;> rfl), by repeat (first | (with_reducible first | exact HB.out | apply below_alloc | apply pw_below_drewN | apply below_drew1) | exact HB.out)⟩

def G30 (x : S30) : Prop := (Lit.int .u8 x.f0).wf = true ∧ (Lit.int .i64 x.f1).wf = true ∧ (Lit.int .i64 x.f2).wf = true
theorem opens30 : Opens.Opens Try.prog 30 k30 G30 := by
  intro H enc W fuel cs x h
  obtain ⟨xs, n, _, _, hl, hlen, hf⟩ := DataW.trod_struct Try.underlying30 h
  have l0_ : cs.length = 3 := hl.trans (by kernel_rfl)
  clear hl
  obtain ⟨v0, r0, e0_, l1_⟩ := Opens.cons_of (n := 2) l0_
  subst e0_
  obtain ⟨v1, r1, rfl, l2_⟩ := Opens.cons_of (n := 1) l1_
  obtain ⟨v2, r2, rfl, l3_⟩ := Opens.cons_of (n := 0) l2_
  obtain rfl := Opens.nil_of l3_
  have h0 : DataW.trod enc Try.prog W 0 (fun _ => true) true n 5 (List.take (Try.prog.cellsOf 5) (List.drop 0 [v0, v1, v2])) = xs[0]? := hf 0 _ rfl
  obtain ⟨y0, hy0⟩ : ∃ y, xs[0]? = some y := ⟨_, List.getElem?_eq_getElem (by rw [hlen]; decide)⟩
  rw [hy0, show Try.prog.cellsOf 5 = 1 from by kernel_rfl] at h0
  obtain ⟨a0, k0_, g0⟩ := (Opens.opens_int (k := .u8) Try.underlying5) _ _ _ _ _ _ h0
  have h1 : DataW.trod enc Try.prog W 0 (fun _ => true) true n 3 (List.take (Try.prog.cellsOf 3) (List.drop 1 [v0, v1, v2])) = xs[1]? := hf 1 _ rfl
  obtain ⟨y1, hy1⟩ : ∃ y, xs[1]? = some y := ⟨_, List.getElem?_eq_getElem (by rw [hlen]; decide)⟩
  rw [hy1, show Try.prog.cellsOf 3 = 1 from by kernel_rfl] at h1
  obtain ⟨a1, k1_, g1⟩ := (Opens.opens_int (k := .i64) Try.underlying3) _ _ _ _ _ _ h1
  have h2 : DataW.trod enc Try.prog W 0 (fun _ => true) true n 3 (List.take (Try.prog.cellsOf 3) (List.drop 2 [v0, v1, v2])) = xs[2]? := hf 2 _ rfl
  obtain ⟨y2, hy2⟩ : ∃ y, xs[2]? = some y := ⟨_, List.getElem?_eq_getElem (by rw [hlen]; decide)⟩
  rw [hy2, show Try.prog.cellsOf 3 = 1 from by kernel_rfl] at h2
  obtain ⟨a2, k2_, g2⟩ := (Opens.opens_int (k := .i64) Try.underlying3) _ _ _ _ _ _ h2
  exact ⟨⟨a0, a1, a2⟩, ⟨[v0], [v1, v2], rfl, k0_, ⟨[v1], [v2], rfl, k1_, k2_⟩⟩, g0, g1, g2⟩
/-- The one pure statement of montagelaw07_TokenExpands. -/
def montagelaw07_TokenExpands.Pure : Prop := ∀ (l0 : List (S30)) (a1 : Int), l0.length ≤ maxLen → l0.length * 24 ≤ 140737488351232 → (∀ x ∈ l0, G30 x) → (Lit.int .i64 a1).wf = true → ∃ k, montagelaw07_TokenExpands.f k l0 a1 = some true
theorem montagelaw07_TokenExpands.walk (P : montagelaw07_TokenExpands.Pure) (A0 : Option Addr) (c0 : Nat) (l0 : List (S30)) (a1 : Int) (w : World) (hr0 : Kd.C k30 w A0 l0.length l0) (hc0 : l0.length ≤ c0) (hm0 : l0.length ≤ maxLen) (y0 : l0.length * 24 ≤ 140737488351232) (g0 : ∀ x ∈ l0, G30 x) (w1 : (Lit.int .i64 a1).wf = true) :
    Calls Try.prog 3 #[.slice A0 l0.length c0, .int .i64 a1] w fun e w' => e = .returned (.bool true) ∧ Below w.heap.size w w' := by
  obtain ⟨k, h⟩ := P l0 a1 hm0 y0 g0 w1
  refine (montagelaw07_TokenExpands.calls k A0 c0 l0 a1 true w hr0 hc0 h).mono ?_
  rintro e w' ⟨rfl, hd⟩
  exact ⟨rfl, hd⟩

end Go.Proofs.Ytlgdjacgdflfaaa.XTokenExpands
