-- Written by this session's own program wip/xprint.py: a changed copy of the kit's print.
import Derived.Test.YtiemjhoadobigaaXPrefixReadsx0
import Derived.Test.YtiemjhoadobigaaXPrefixReadsx1
import Derived.Test.YtiemjhoadobigaaXPrefixReadsx2
namespace Go.Proofs.Ytiemjhoadobigaa.XPrefixReads
open Go.RowKit Go.Proofs.YtiemjhoadobigaaW.PrintWords Go.Proofs.YtiemjhoadobigaaW.PrintLast Go.Proofs.YtiemjhoadobigaaW.PrintMore
attribute [local go_sem] max2_int min2_int max_two min_two max_three min_three max_four min_four   -- for this text's walks alone
set_option linter.unusedVariables false
set_option linter.unusedSimpArgs false

/-! ### montageref05_Read: function 22 -/
mutual
def montageref05_Read.l0 : Nat → List Int → List Int → Int → Int → List Int → Int → Int → Option (Int × Int × Int)
  | 0, _, _, _, _, _, _, _ => none
  | k + 1, x0, x1, x2, x9, x11, x12, x13 => if x13 ≤ 15 then (if x2 ≥ (x1.length : Int) then (some (0, x2, 3)) else (if 0 ≤ x2 then (if x2 < (x1.length : Int) then (montageref05_Read.l1 k x0 x1 (wrap64 (x2 + 1)) x9 x11 (wrap64 ((wrap64 (2 * x12)) + (wrap64 (rd x1 x2)))) x13 0) else (none)) else (none))) else (some (0, x2, 10))
def montageref05_Read.l1 : Nat → List Int → List Int → Int → Int → List Int → Int → Int → Int → Option (Int × Int × Int)
  | 0, _, _, _, _, _, _, _, _ => none
  | k + 1, x0, x1, x2, x9, x11, x12, x13, x14 => if x14 < (x0.length : Int) then (if 0 ≤ x14 then (if (rd x0 x14) = x13 then (if x14 < (x11.length : Int) then (if (rd x11 x14) = x12 then (some (x14, x2, 0)) else (montageref05_Read.l1 k x0 x1 x2 x9 x11 x12 x13 (wrap64 (x14 + 1)))) else (none)) else (montageref05_Read.l1 k x0 x1 x2 x9 x11 x12 x13 (wrap64 (x14 + 1)))) else (none)) else (if x9 = 1 then (some (0, x2, 10)) else (montageref05_Read.l0 k x0 x1 x2 x9 x11 x12 (wrap64 (x13 + 1))))
end
def montageref05_Read.f (k : Nat) (l0 : List Int) (l1 : List Int) (a2 : Int) : Option (Int × Int × Int) := (montageref05_Check.f k l0).bind fun bt136 => (if bt136.1 = 2 then (some (0, a2, 10)) else ((montageref05_Codes.f k l0).bind fun t138 => (montageref05_Read.l0 k l0 l1 a2 bt136.1 t138 0 1)))
theorem montageref05_Read.mono_l : ∀ k, (∀ y0 y1 y2 y3 y4 y5 y6, LeO (montageref05_Read.l0 k y0 y1 y2 y3 y4 y5 y6) (montageref05_Read.l0 (k + 1) y0 y1 y2 y3 y4 y5 y6)) ∧ (∀ y0 y1 y2 y3 y4 y5 y6 y7, LeO (montageref05_Read.l1 k y0 y1 y2 y3 y4 y5 y6 y7) (montageref05_Read.l1 (k + 1) y0 y1 y2 y3 y4 y5 y6 y7))
  | 0 => ⟨fun _ _ _ _ _ _ _ r h => by simp [montageref05_Read.l0] at h, fun _ _ _ _ _ _ _ _ r h => by simp [montageref05_Read.l1] at h⟩
  | k + 1 => by
    obtain ⟨ih0, ih1⟩ := montageref05_Read.mono_l k
    refine ⟨?_, ?_⟩
    · intro y0 y1 y2 y3 y4 y5 y6
      unfold montageref05_Read.l0
      repeat' first
      | (with_reducible exact ih0 _ _ _ _ _ _ _)
      | (with_reducible exact ih1 _ _ _ _ _ _ _ _)
      | (with_reducible exact montageref05_Check.mono _ _)
      | (with_reducible exact montageref05_Codes.mono _ _)
      | (with_reducible exact LeO.refl _)
      | (with_reducible exact LeO.none _)
      | (with_reducible refine LeO.ite ?_ ?_)
      | (with_reducible refine LeO.bind ?_ (fun _ => ?_))
      | exact ih0 _ _ _ _ _ _ _
      | exact ih1 _ _ _ _ _ _ _ _
      | exact montageref05_Check.mono _ _
      | exact montageref05_Codes.mono _ _
      | exact LeO.none _
      | refine LeO.ite ?_ ?_
      | refine LeO.bind ?_ (fun _ => ?_)
    · intro y0 y1 y2 y3 y4 y5 y6 y7
      unfold montageref05_Read.l1
      repeat' first
      | (with_reducible exact ih0 _ _ _ _ _ _ _)
      | (with_reducible exact ih1 _ _ _ _ _ _ _ _)
      | (with_reducible exact montageref05_Check.mono _ _)
      | (with_reducible exact montageref05_Codes.mono _ _)
      | (with_reducible exact LeO.refl _)
      | (with_reducible exact LeO.none _)
      | (with_reducible refine LeO.ite ?_ ?_)
      | (with_reducible refine LeO.bind ?_ (fun _ => ?_))
      | exact ih0 _ _ _ _ _ _ _
      | exact ih1 _ _ _ _ _ _ _ _
      | exact montageref05_Check.mono _ _
      | exact montageref05_Codes.mono _ _
      | exact LeO.none _
      | refine LeO.ite ?_ ?_
      | refine LeO.bind ?_ (fun _ => ?_)
theorem montageref05_Read.mono : ∀ a0 a1 a2 k, LeO (montageref05_Read.f k a0 a1 a2) (montageref05_Read.f (k + 1) a0 a1 a2) := by
  intro a0 a1 a2 k
  obtain ⟨ih0, ih1⟩ := montageref05_Read.mono_l k
  unfold montageref05_Read.f
  repeat' first
      | (with_reducible exact ih0 _ _ _ _ _ _ _)
      | (with_reducible exact ih1 _ _ _ _ _ _ _ _)
      | (with_reducible exact montageref05_Check.mono _ _)
      | (with_reducible exact montageref05_Codes.mono _ _)
      | (with_reducible exact LeO.refl _)
      | (with_reducible exact LeO.none _)
      | (with_reducible refine LeO.ite ?_ ?_)
      | (with_reducible refine LeO.bind ?_ (fun _ => ?_))
      | exact ih0 _ _ _ _ _ _ _
      | exact ih1 _ _ _ _ _ _ _ _
      | exact montageref05_Check.mono _ _
      | exact montageref05_Codes.mono _ _
      | exact LeO.none _
      | refine LeO.ite ?_ ?_
      | refine LeO.bind ?_ (fun _ => ?_)
set_option maxHeartbeats 8000000 in
set_option maxRecDepth 100000 in
theorem montageref05_Read.calls (k : Nat) (A0 : Option Addr) (c0 : Nat) (l0 : List Int) (A1 : Option Addr) (c1 : Nat) (l1 : List Int) (a2 : Int) (r1 : Int) (r2 : Int) (r3 : Int) (w : World) (hr0 : Kd.C (Kd.int .i64) w A0 l0.length l0) (hc0 : l0.length ≤ c0) (hr1 : Kd.C (Kd.int .u8) w A1 l1.length l1) (hc1 : l1.length ≤ c1) (h : montageref05_Read.f k l0 l1 a2 = some (r1, r2, r3)) :
    Calls Try.prog 22 #[.slice A0 l0.length c0, .slice A1 l1.length c1, .int .i64 a2] w fun e w' => e = .returned (.tuple #[.int .i64 r1, .int .i64 r2, .int .i64 r3]) ∧ Below w.heap.size w w' := by
  have HR0 := Aside0.mk hr0
  have HC0 := Aside0.mk hc0
  clear hr0 hc0
  have HR1 := Aside0.mk hr1
  have HC1 := Aside0.mk hc1
  clear hr1 hc1
  have HB := Aside0.mk (Below.refl w.heap.size w)
  have H : ((montageref05_Check.f k l0).bind fun bt136 => (if bt136.1 = 2 then (some (0, a2, 10)) else ((montageref05_Codes.f k l0).bind fun t138 => (montageref05_Read.l0 k l0 l1 a2 bt136.1 t138 0 1)))) = some (r1, r2, r3) := h
  clear h
  replace H := Option.bind_eq_some_iff.mp H
  obtain ⟨⟨t136, t137⟩, A40, H⟩ := H
  replace H : (if t136 = 2 then (some (0, a2, 10)) else ((montageref05_Codes.f k l0).bind fun t138 => (montageref05_Read.l0 k l0 l1 a2 t136 t138 0 1))) = some (r1, r2, r3) := H
  have A4 := Aside0.mk A40
  clear A40
  by_cases c5 : t136 = 2
  · rw [if_pos c5] at H
    have c5b0 : (t136 == 2) = true := beq_iff_eq.mpr c5
    have c5b1 : (t136 != 2) = false := bne_eq_false_iff_eq.mpr c5
    clear c5
    simp only [Option.some.injEq, Prod.mk.injEq] at H
    obtain ⟨rfl, rfl, rfl⟩ := H
    go_enter Try.func22, Try.ntmps22
    go_wp2_with (first | ((with_reducible refine gate_callee (f := 7) rfl ?_); refine goesL_ (some 17) rfl rfl Try.func7 (by kernel_rfl) rfl #[.slice A0 l0.length c0] rfl (by (try simp only [List.map_toArray, List.map_cons, List.map_nil]); first | done | rfl | (simp only [List.length_drop, List.length_take]; rfl)) ?_; (with_reducible refine (montageref05_Check.calls k _ _ l0 t136 t137 _ ?side1 ?side2 A4.out).mono ?_); (case side1 => repeat (first | exact HR0.out | (with_reducible refine Kd.C_alloc ?_ _) | (with_reducible refine Kd.C_drewN ?_ _) | (with_reducible refine Kd.C_drew ?_))); (case side2 => exact HC0.out); rintro e w' ⟨rfl, ⟨nd, rfl⟩⟩; refine ⟨_, rfl, ?_⟩))
    go_ret3
    exact ⟨by first | rfl | (simp [errW_none, errW_some] <;> rfl) | (simp [*, errW_none, errW_some] <;> rfl), by repeat (first | (with_reducible first | exact HB.out | apply below_alloc | apply pw_below_drewN | apply below_drew1) | exact HB.out)⟩
  · rw [if_neg c5] at H
    have c5b0 : (t136 == 2) = false := beq_eq_false_iff_ne.mpr c5
    have c5b1 : (t136 != 2) = true := bne_iff_ne.mpr c5
    replace H := Option.bind_eq_some_iff.mp H
    obtain ⟨t138, A60, H⟩ := H
    replace H : (montageref05_Read.l0 k l0 l1 a2 t136 t138 0 1) = some (r1, r2, r3) := H
    have A6 := Aside0.mk A60
    clear A60
    have H' := Aside0.mk H
    clear H
    go_enter Try.func22, Try.ntmps22
    go_wp2_with (first | ((with_reducible refine gate_callee (f := 7) rfl ?_); refine goesL_ (some 17) rfl rfl Try.func7 (by kernel_rfl) rfl #[.slice A0 l0.length c0] rfl (by (try simp only [List.map_toArray, List.map_cons, List.map_nil]); first | done | rfl | (simp only [List.length_drop, List.length_take]; rfl)) ?_; (with_reducible refine (montageref05_Check.calls k _ _ l0 t136 t137 _ ?side1 ?side2 A4.out).mono ?_); (case side1 => repeat (first | exact HR0.out | (with_reducible refine Kd.C_alloc ?_ _) | (with_reducible refine Kd.C_drewN ?_ _) | (with_reducible refine Kd.C_drew ?_))); (case side2 => exact HC0.out); rintro e w' ⟨rfl, ⟨nd, rfl⟩⟩; refine ⟨_, rfl, ?_⟩) | ((with_reducible refine gate_callee (f := 9) rfl ?_); refine goesL_ (some 24) rfl rfl Try.func9 (by kernel_rfl) rfl #[.slice A0 l0.length c0] rfl (by (try simp only [List.map_toArray, List.map_cons, List.map_nil]); first | done | rfl | (simp only [List.length_drop, List.length_take]; rfl)) ?_; (with_reducible refine (montageref05_Codes.calls k _ _ l0 t138 _ ?side1 ?side2 A6.out).mono ?_); (case side1 => repeat (first | exact HR0.out | (with_reducible refine Kd.C_alloc ?_ _) | (with_reducible refine Kd.C_drewN ?_ _) | (with_reducible refine Kd.C_drew ?_))); (case side2 => exact HC0.out); rintro e w7 ⟨v139, rfl, ho0, hb⟩; refine ⟨_, rfl, ?_⟩; have n0_ := Aside0.mk (Kd.R_lower ho0 (below_size (by repeat (first | (with_reducible first | exact HB.out | apply below_alloc | apply pw_below_drewN | apply below_drew1) | exact HB.out)))); have n1_ := Aside0.mk (below_step (by repeat (first | (with_reducible first | exact HB.out | apply below_alloc | apply pw_below_drewN | apply below_drew1) | exact HB.out)) hb); clear HB; have HO140 := n0_; have HB := n1_; clear n0_ n1_; (try clear hb); (try clear hb2); (try clear hk); (try clear hi); (try clear ho0)))
    go_loopg [2, 12, 13] k (fun kq v2 v12 v13 w' => ∃ (x2_1 : Int) (x12_1 : Int) (x13_1 : Int), v2 = .int .i64 x2_1 ∧ v12 = .int .i64 x12_1 ∧ v13 = .int .i64 x13_1 ∧ Aside0 (montageref05_Read.l0 kq l0 l1 x2_1 t136 t138 x12_1 x13_1 = some (r1, r2, r3)) ∧ Aside0 (kq ≤ k) ∧ Aside0 (Kd.R (Kd.int .i64) 3 w' w.heap.size (fun _ => True) v139 t138) ∧ Aside0 (Below w.heap.size w w'))
    case atStart => exact ⟨(a2), (0), (1), (by first | rfl | (simp; done) | (simp [*]; done)), (by first | rfl | (simp; done) | (simp [*]; done)), (by first | rfl | (simp; done) | (simp [*]; done)), H', ⟨Nat.le_refl _⟩, ⟨by (with_reducible repeat (first | apply Kd.R_alloc | apply Kd.R_drewN | apply Kd.R_drew)); exact HO140.out⟩, ⟨by repeat (first | (with_reducible first | exact HB.out | apply below_alloc | apply pw_below_drewN | apply below_drew1) | exact HB.out)⟩⟩
    case round =>
      clear H'
      try clear c1
      try clear c2
      try clear p2
      try clear c5
      try clear c5b0
      try clear c5b1
      try clear c7
      obtain ⟨x2_1, x12_1, x13_1, rfl, rfl, rfl, HA, HK1, HO_11, HB⟩ := hrel
      cases gk with
      | zero => exact absurd HA.out (by simp [montageref05_Read.l0])
      | succ k1 =>
        have H := HA.out
        clear HA
        simp only [montageref05_Read.l0] at H
        by_cases c8 : x13_1 ≤ 15
        · rw [if_pos c8] at H
          have c8b0 : decide (x13_1 ≤ 15) = true := decide_eq_true c8
          clear c8
          by_cases c9 : x2_1 ≥ (l1.length : Int)
          · rw [if_pos c9] at H
            have c9b0 : decide ((l1.length : Int) ≤ x2_1) = true := decide_eq_true c9
            clear c9
            simp only [Option.some.injEq, Prod.mk.injEq] at H
            obtain ⟨rfl, rfl, rfl⟩ := H
            go_wp2
            go_ret3
            exact ⟨by first | rfl | (simp [errW_none, errW_some] <;> rfl) | (simp [*, errW_none, errW_some] <;> rfl), by repeat (first | (with_reducible first | exact HB.out | apply below_alloc | apply pw_below_drewN | apply below_drew1) | exact HB.out)⟩
          · rw [if_neg c9] at H
            have c9b0 : decide ((l1.length : Int) ≤ x2_1) = false := decide_eq_false c9
            clear c9
            by_cases c10 : 0 ≤ x2_1
            · rw [if_pos c10] at H
              have c10b0 : decide (0 ≤ x2_1) = true := decide_eq_true c10
              clear c10
              by_cases c11 : x2_1 < (l1.length : Int)
              · rw [if_pos c11] at H
                have c11b0 : decide (x2_1 < (l1.length : Int)) = true := decide_eq_true c11
                clear c11
                have H' := Aside0.mk H
                clear H
                have p141 : 0 ≤ (x2_1 : Int) := of_decide_eq_true (by first | (with_reducible assumption) | assumption)
                have q141 : x2_1 < (l1.length : Int) := of_decide_eq_true (by first | (with_reducible assumption) | assumption)
                obtain ⟨ad141, e141, hx141_0⟩ := Kd.at_int HR1.out x2_1 p141 q141
                cases e141
                replace hx141_0 := (HB.out.cell (World.block_lt_of_cell? w _ hx141_0)).trans hx141_0
                replace p141 := eq_true p141
                replace q141 := eq_true q141
                go_wp2
                go_loopg [14] k1 (fun kq v14 w' => ∃ (x14_2 : Int), v14 = .int .i64 x14_2 ∧ Aside0 (montageref05_Read.l1 kq l0 l1 (wrap64 (x2_1 + 1)) t136 t138 (wrap64 ((wrap64 (2 * x12_1)) + (wrap64 (rd l1 x2_1)))) x13_1 x14_2 = some (r1, r2, r3)) ∧ Aside0 (kq ≤ k1) ∧ Aside0 (Kd.R (Kd.int .i64) 3 w' w.heap.size (fun _ => True) v139 t138) ∧ Aside0 (Below w.heap.size w w'))
                case atStart => exact ⟨(0), (by first | rfl | (simp; done) | (simp [*]; done)), H', ⟨Nat.le_refl _⟩, ⟨by (with_reducible repeat (first | apply Kd.R_alloc | apply Kd.R_drewN | apply Kd.R_drew)); exact HO_11.out⟩, ⟨by repeat (first | (with_reducible first | exact HB.out | apply below_alloc | apply pw_below_drewN | apply below_drew1) | exact HB.out)⟩⟩
                case round =>
                  clear H'
                  try clear c1
                  try clear p1
                  try clear q1
                  try clear hx1
                  try clear c2
                  try clear p2
                  try clear c5
                  try clear c5b0
                  try clear c5b1
                  try clear p6
                  try clear c7
                  try clear c8
                  try clear c8b0
                  try clear c9
                  try clear c9b0
                  try clear c10
                  try clear c10b0
                  try clear c11
                  try clear c11b0
                  try clear hx141_0
                  try clear p141
                  try clear p2
                  try clear q141
                  obtain ⟨x14_2, rfl, HA, HK2, HO_11, HB⟩ := hrel
                  cases gk with
                  | zero => exact absurd HA.out (by simp [montageref05_Read.l1])
                  | succ k2 =>
                    have H := HA.out
                    clear HA
                    simp only [montageref05_Read.l1] at H
                    by_cases c12 : x14_2 < (l0.length : Int)
                    · rw [if_pos c12] at H
                      have c12b0 : decide (x14_2 < (l0.length : Int)) = true := decide_eq_true c12
                      clear c12
                      by_cases c13 : 0 ≤ x14_2
                      · rw [if_pos c13] at H
                        have c13b0 : decide (0 ≤ x14_2) = true := decide_eq_true c13
                        clear c13
                        by_cases c14 : (rd l0 x14_2) = x13_1
                        · rw [if_pos c14] at H
                          have c14b0 : ((rd l0 x14_2) == x13_1) = true := beq_iff_eq.mpr c14
                          have c14b1 : ((rd l0 x14_2) != x13_1) = false := bne_eq_false_iff_eq.mpr c14
                          clear c14
                          by_cases c15 : x14_2 < (t138.length : Int)
                          · rw [if_pos c15] at H
                            have c15b0 : decide (x14_2 < (t138.length : Int)) = true := decide_eq_true c15
                            clear c15
                            by_cases c16 : (rd t138 x14_2) = (wrap64 ((wrap64 (2 * x12_1)) + (wrap64 (rd l1 x2_1))))
                            · rw [if_pos c16] at H
                              have c16b0 : ((rd t138 x14_2) == (wrap64 ((wrap64 (2 * x12_1)) + (wrap64 (rd l1 x2_1))))) = true := beq_iff_eq.mpr c16
                              have c16b1 : ((rd t138 x14_2) != (wrap64 ((wrap64 (2 * x12_1)) + (wrap64 (rd l1 x2_1))))) = false := bne_eq_false_iff_eq.mpr c16
                              clear c16
                              simp only [Option.some.injEq, Prod.mk.injEq] at H
                              obtain ⟨rfl, rfl, rfl⟩ := H
                              have p142 : 0 ≤ (x14_2 : Int) := of_decide_eq_true (by first | (with_reducible assumption) | assumption)
                              have q142 : x14_2 < (l0.length : Int) := of_decide_eq_true (by first | (with_reducible assumption) | assumption)
                              obtain ⟨ad142, e142, hx142_0⟩ := Kd.at_int HR0.out x14_2 p142 q142
                              cases e142
                              replace hx142_0 := (HB.out.cell (World.block_lt_of_cell? w _ hx142_0)).trans hx142_0
                              replace p142 := eq_true p142
                              replace q142 := eq_true q142
                              obtain ⟨Ao17, co17, eo17⟩ := Kd.R_slice HO_11.out
                              subst eo17
                              have p143 : 0 ≤ (x14_2 : Int) := of_decide_eq_true (by first | (with_reducible assumption) | assumption)
                              have q143 : x14_2 < (t138.length : Int) := of_decide_eq_true (by first | (with_reducible assumption) | assumption)
                              obtain ⟨ad143, e143, hx143_0⟩ := Kd.at_int (Kd.R_reads' HO_11.out).2.2 x14_2 p143 q143
                              cases e143
                              replace p143 := eq_true p143
                              replace q143 := eq_true q143
                              go_wp2
                              go_ret3
                              exact ⟨by first | rfl | (simp [errW_none, errW_some] <;> rfl) | (simp [*, errW_none, errW_some] <;> rfl), by repeat (first | (with_reducible first | exact HB.out | apply below_alloc | apply pw_below_drewN | apply below_drew1) | exact HB.out)⟩
                            · rw [if_neg c16] at H
                              have c16b0 : ((rd t138 x14_2) == (wrap64 ((wrap64 (2 * x12_1)) + (wrap64 (rd l1 x2_1))))) = false := beq_eq_false_iff_ne.mpr c16
                              have c16b1 : ((rd t138 x14_2) != (wrap64 ((wrap64 (2 * x12_1)) + (wrap64 (rd l1 x2_1))))) = true := bne_iff_ne.mpr c16
                              have H' := Aside0.mk H
                              clear H
                              have p142 : 0 ≤ (x14_2 : Int) := of_decide_eq_true (by first | (with_reducible assumption) | assumption)
                              have q142 : x14_2 < (l0.length : Int) := of_decide_eq_true (by first | (with_reducible assumption) | assumption)
                              obtain ⟨ad142, e142, hx142_0⟩ := Kd.at_int HR0.out x14_2 p142 q142
                              cases e142
                              replace hx142_0 := (HB.out.cell (World.block_lt_of_cell? w _ hx142_0)).trans hx142_0
                              replace p142 := eq_true p142
                              replace q142 := eq_true q142
                              obtain ⟨Ao18, co18, eo18⟩ := Kd.R_slice HO_11.out
                              subst eo18
                              have p143 : 0 ≤ (x14_2 : Int) := of_decide_eq_true (by first | (with_reducible assumption) | assumption)
                              have q143 : x14_2 < (t138.length : Int) := of_decide_eq_true (by first | (with_reducible assumption) | assumption)
                              obtain ⟨ad143, e143, hx143_0⟩ := Kd.at_int (Kd.R_reads' HO_11.out).2.2 x14_2 p143 q143
                              cases e143
                              replace p143 := eq_true p143
                              replace q143 := eq_true q143
                              go_wp2
                              go_roundg k2
                              case measure => have := HK1.out; have := HK2.out; omega
                              case rel => exact ⟨(wrap64 (x14_2 + 1)), (by first | rfl | (simp; done) | (simp [*]; done)), H', ⟨by have := HK1.out; have := HK2.out; omega⟩, ⟨by (with_reducible repeat (first | apply Kd.R_alloc | apply Kd.R_drewN | apply Kd.R_drew)); exact HO_11.out⟩, ⟨by repeat (first | (with_reducible first | exact HB.out | apply below_alloc | apply pw_below_drewN | apply below_drew1) | exact HB.out)⟩⟩
                          · rw [if_neg c15] at H
                            exact absurd H (by simp)
                        · rw [if_neg c14] at H
                          have c14b0 : ((rd l0 x14_2) == x13_1) = false := beq_eq_false_iff_ne.mpr c14
                          have c14b1 : ((rd l0 x14_2) != x13_1) = true := bne_iff_ne.mpr c14
                          have H' := Aside0.mk H
                          clear H
                          have p142 : 0 ≤ (x14_2 : Int) := of_decide_eq_true (by first | (with_reducible assumption) | assumption)
                          have q142 : x14_2 < (l0.length : Int) := of_decide_eq_true (by first | (with_reducible assumption) | assumption)
                          obtain ⟨ad142, e142, hx142_0⟩ := Kd.at_int HR0.out x14_2 p142 q142
                          cases e142
                          replace hx142_0 := (HB.out.cell (World.block_lt_of_cell? w _ hx142_0)).trans hx142_0
                          replace p142 := eq_true p142
                          replace q142 := eq_true q142
                          go_wp2
                          go_roundg k2
                          case measure => have := HK1.out; have := HK2.out; omega
                          case rel => exact ⟨(wrap64 (x14_2 + 1)), (by first | rfl | (simp; done) | (simp [*]; done)), H', ⟨by have := HK1.out; have := HK2.out; omega⟩, ⟨by (with_reducible repeat (first | apply Kd.R_alloc | apply Kd.R_drewN | apply Kd.R_drew)); exact HO_11.out⟩, ⟨by repeat (first | (with_reducible first | exact HB.out | apply below_alloc | apply pw_below_drewN | apply below_drew1) | exact HB.out)⟩⟩
                      · rw [if_neg c13] at H
                        exact absurd H (by simp)
                    · rw [if_neg c12] at H
                      have c12b0 : decide (x14_2 < (l0.length : Int)) = false := decide_eq_false c12
                      clear c12
                      by_cases c19 : t136 = 1
                      · rw [if_pos c19] at H
                        have c19b0 : (t136 == 1) = true := beq_iff_eq.mpr c19
                        have c19b1 : (t136 != 1) = false := bne_eq_false_iff_eq.mpr c19
                        clear c19
                        simp only [Option.some.injEq, Prod.mk.injEq] at H
                        obtain ⟨rfl, rfl, rfl⟩ := H
                        go_wp2
                        go_ret3
                        exact ⟨by first | rfl | (simp [errW_none, errW_some] <;> rfl) | (simp [*, errW_none, errW_some] <;> rfl), by repeat (first | (with_reducible first | exact HB.out | apply below_alloc | apply pw_below_drewN | apply below_drew1) | exact HB.out)⟩
                      · rw [if_neg c19] at H
                        have c19b0 : (t136 == 1) = false := beq_eq_false_iff_ne.mpr c19
                        have c19b1 : (t136 != 1) = true := bne_iff_ne.mpr c19
                        have H' := Aside0.mk H
                        clear H
                        go_wp2
                        go_roundg k2
                        case measure => have := HK1.out; have := HK2.out; omega
                        case rel => exact ⟨((wrap64 (x2_1 + 1))), ((wrap64 ((wrap64 (2 * x12_1)) + (wrap64 (rd l1 x2_1))))), (wrap64 (x13_1 + 1)), (by first | rfl | (simp; done) | (simp [*]; done)), (by first | rfl | (simp; done) | (simp [*]; done)), (by first | rfl | (simp; done) | (simp [*]; done)), H', ⟨by have := HK1.out; have := HK2.out; omega⟩, ⟨by (with_reducible repeat (first | apply Kd.R_alloc | apply Kd.R_drewN | apply Kd.R_drew)); exact HO_11.out⟩, ⟨by repeat (first | (with_reducible first | exact HB.out | apply below_alloc | apply pw_below_drewN | apply below_drew1) | exact HB.out)⟩⟩
              · rw [if_neg c11] at H
                exact absurd H (by simp)
            · rw [if_neg c10] at H
              exact absurd H (by simp)
        · rw [if_neg c8] at H
          have c8b0 : decide (x13_1 ≤ 15) = false := decide_eq_false c8
          clear c8
          simp only [Option.some.injEq, Prod.mk.injEq] at H
          obtain ⟨rfl, rfl, rfl⟩ := H
          go_wp2
          go_ret3
          exact ⟨by first | rfl | (simp [errW_none, errW_some] <;> rfl) | (simp [*, errW_none, errW_some] <;> rfl), by repeat (first | (with_reducible first | exact HB.out | apply below_alloc | apply pw_below_drewN | apply below_drew1) | exact HB.out)⟩

/-! ### bits_Reader_At: function 23 -/
def bits_Reader_At.f (s0_0 : ByteArray) (s0_1 : Int) (s0_2 : Bool) : Option (Int × ByteArray × Int × Bool) := some (s0_1, s0_0, s0_1, s0_2)
set_option maxHeartbeats 8000000 in
set_option maxRecDepth 100000 in
theorem bits_Reader_At.calls (g : Nat) (s0_0 : ByteArray) (s0_1 : Int) (s0_2 : Bool) (r1 : Int) (r2 : ByteArray) (r3 : Int) (r4 : Bool) (w0 w : World) (hI : IsS70 w0 w g s0_0 s0_1 s0_2) (hB : Below w0.heap.size w0 w) (h : bits_Reader_At.f s0_0 s0_1 s0_2 = some (r1, r2, r3, r4)) :
    Calls Try.prog 23 #[.pointer (some ⟨g, 0, none⟩)] w fun e w' => e = .returned (.int .i64 r1) ∧ IsS70 w0 w' g r2 r3 r4 ∧ Below w0.heap.size w0 w' ∧ KeepBut w w' g none := by
  have HI0 := Aside0.mk hI
  have HK := Aside0.mk (KeepBut.refl w g none)
  have HL := Aside0.mk hB.size
  clear hI
  have HW0 := Aside0.mk hB.size
  have HB := Aside0.mk hB
  clear hB
  have H : (some (s0_1, s0_0, s0_1, s0_2)) = some (r1, r2, r3, r4) := h
  clear h
  simp only [Option.some.injEq, Prod.mk.injEq] at H
  obtain ⟨rfl, rfl, rfl, rfl⟩ := H
  obtain ⟨HGz2, hgz2⟩ := HI0.out
  have hcz2_0 := cellS70_0 HGz2
  have hcz2_1 := cellS70_1 HGz2
  have hcz2_2 := cellS70_2 HGz2
  have hfz2_0 := blk_frozen HGz2 0
  have hfz2_1 := blk_frozen HGz2 1
  have hfz2_2 := blk_frozen HGz2 2
  clear HGz2 hgz2
  go_enter Try.func23, Try.ntmps23
  go_wp2
  go_ret
  exact ⟨by first | rfl | (simp [errW_none, errW_some] <;> rfl) | (simp [*, errW_none, errW_some] <;> rfl), by repeat (first | (with_reducible first | exact HI0.out | apply IsS70.alloc | apply IsS70.drewN | apply IsS70.drew | apply IsS70.set_0 | apply IsS70.set_1 | apply IsS70.set_2) | exact HI0.out), by repeat (first | (with_reducible first | exact HB.out | apply below_alloc | apply pw_below_drewN | apply below_drew1 | refine below_set ?_ (IsS70.ge HI0.out)) | exact HB.out), by repeat (first | (with_reducible first | exact HK.out | apply KeepBut.set_ | apply keep_drewN | apply keep_drew | apply keep_alloc) | exact HK.out)⟩

-- NOT PRINTED: function 5 (montagelaw05_PrefixReads)

end Go.Proofs.Ytiemjhoadobigaa.XPrefixReads
