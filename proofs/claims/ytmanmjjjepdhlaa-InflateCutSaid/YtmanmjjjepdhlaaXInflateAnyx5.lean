-- Written by this session's own program wip/xprint.py: a changed copy of the kit's print.
import Derived.Test.YtmanmjjjepdhlaaXInflateAnyx0
import Derived.Test.YtmanmjjjepdhlaaXInflateAnyx4
namespace Go.Proofs.Ytmanmjjjepdhlaa.XInflateAny
open Go.RowKit Go.Proofs.YtmanmjjjepdhlaaW.PrintWords Go.Proofs.YtmanmjjjepdhlaaW.PrintLast Go.Proofs.YtmanmjjjepdhlaaW.PrintMore
attribute [local go_sem] max2_int min2_int max_two min_two max_three min_three max_four min_four   -- for this text's walks alone
set_option linter.unusedVariables false
set_option linter.unusedSimpArgs false

/-! ### montageref05_Read: function 144 -/
mutual
def montageref05_Read.l0 : Nat → List Int → List Int → Int → Int → List Int → Int → Int → Option (Int × Int × Int)
  | 0, _, _, _, _, _, _, _ => none
  | k + 1, x0, x1, x2, x9, x11, x12, x13 => if x13 ≤ 15 then (if x2 ≥ (x1.length : Int) then (some (0, x2, 3)) else (if 0 ≤ x2 then (if x2 < (x1.length : Int) then (montageref05_Read.l1 k x0 x1 (wrap64 (x2 + 1)) x9 x11 (wrap64 ((wrap64 (2 * x12)) + (wrap64 (rd x1 x2)))) x13 0) else (none)) else (none))) else (some (0, x2, 10))
def montageref05_Read.l1 : Nat → List Int → List Int → Int → Int → List Int → Int → Int → Int → Option (Int × Int × Int)
  | 0, _, _, _, _, _, _, _, _ => none
  | k + 1, x0, x1, x2, x9, x11, x12, x13, x14 => if x14 < (x0.length : Int) then (if 0 ≤ x14 then (if (rd x0 x14) = x13 then (if x14 < (x11.length : Int) then (if (rd x11 x14) = x12 then (some (x14, x2, 0)) else (montageref05_Read.l1 k x0 x1 x2 x9 x11 x12 x13 (wrap64 (x14 + 1)))) else (none)) else (montageref05_Read.l1 k x0 x1 x2 x9 x11 x12 x13 (wrap64 (x14 + 1)))) else (none)) else (if x9 = 1 then (some (0, x2, 10)) else (montageref05_Read.l0 k x0 x1 x2 x9 x11 x12 (wrap64 (x13 + 1))))
end
def montageref05_Read.f (k : Nat) (l0 : List Int) (l1 : List Int) (a2 : Int) : Option (Int × Int × Int) := (montageref05_Check.f k l0).bind fun bt185 => (if bt185.1 = 2 then (some (0, a2, 10)) else ((montageref05_Codes.f k l0).bind fun t187 => (montageref05_Read.l0 k l0 l1 a2 bt185.1 t187 0 1)))
theorem montageref05_Read.mono_l : ∀ k, (∀ y0 y1 y2 y3 y4 y5 y6, LeO (montageref05_Read.l0 k y0 y1 y2 y3 y4 y5 y6) (montageref05_Read.l0 (k + 1) y0 y1 y2 y3 y4 y5 y6)) ∧ (∀ y0 y1 y2 y3 y4 y5 y6 y7, LeO (montageref05_Read.l1 k y0 y1 y2 y3 y4 y5 y6 y7) (montageref05_Read.l1 (k + 1) y0 y1 y2 y3 y4 y5 y6 y7))
  | 0 => ⟨fun _ _ _ _ _ _ _ r h => by simp [montageref05_Read.l0] at h, fun _ _ _ _ _ _ _ _ r h => by simp [montageref05_Read.l1] at h⟩
  | k + 1 => by
    obtain ⟨ih0, ih1⟩ := montageref05_Read.mono_l k
    refine ⟨?_, ?_⟩
    · intro y0 y1 y2 y3 y4 y5 y6
      unfold montageref05_Read.l0
      repeat' first
      | (with_reducible exact ih0 _ _ _ _ _ _ _)
      | (with_reducible exact ih1 _ _ _ _ _ _ _ _)
      | (with_reducible exact montageref05_Check.mono _ _)
      | (with_reducible exact montageref05_Codes.mono _ _)
      | (with_reducible exact LeO.refl _)
      | (with_reducible exact LeO.none _)
      | (with_reducible refine LeO.ite ?_ ?_)
      | (with_reducible refine LeO.bind ?_ (fun _ => ?_))
      | exact ih0 _ _ _ _ _ _ _
      | exact ih1 _ _ _ _ _ _ _ _
      | exact montageref05_Check.mono _ _
      | exact montageref05_Codes.mono _ _
      | exact LeO.none _
      | refine LeO.ite ?_ ?_
      | refine LeO.bind ?_ (fun _ => ?_)
    · intro y0 y1 y2 y3 y4 y5 y6 y7
      unfold montageref05_Read.l1
      repeat' first
      | (with_reducible exact ih0 _ _ _ _ _ _ _)
      | (with_reducible exact ih1 _ _ _ _ _ _ _ _)
      | (with_reducible exact montageref05_Check.mono _ _)
      | (with_reducible exact montageref05_Codes.mono _ _)
      | (with_reducible exact LeO.refl _)
      | (with_reducible exact LeO.none _)
      | (with_reducible refine LeO.ite ?_ ?_)
      | (with_reducible refine LeO.bind ?_ (fun _ => ?_))
      | exact ih0 _ _ _ _ _ _ _
      | exact ih1 _ _ _ _ _ _ _ _
      | exact montageref05_Check.mono _ _
      | exact montageref05_Codes.mono _ _
      | exact LeO.none _
      | refine LeO.ite ?_ ?_
      | refine LeO.bind ?_ (fun _ => ?_)
theorem montageref05_Read.mono : ∀ a0 a1 a2 k, LeO (montageref05_Read.f k a0 a1 a2) (montageref05_Read.f (k + 1) a0 a1 a2) := by
  intro a0 a1 a2 k
  obtain ⟨ih0, ih1⟩ := montageref05_Read.mono_l k
  unfold montageref05_Read.f
  repeat' first
      | (with_reducible exact ih0 _ _ _ _ _ _ _)
      | (with_reducible exact ih1 _ _ _ _ _ _ _ _)
      | (with_reducible exact montageref05_Check.mono _ _)
      | (with_reducible exact montageref05_Codes.mono _ _)
      | (with_reducible exact LeO.refl _)
      | (with_reducible exact LeO.none _)
      | (with_reducible refine LeO.ite ?_ ?_)
      | (with_reducible refine LeO.bind ?_ (fun _ => ?_))
      | exact ih0 _ _ _ _ _ _ _
      | exact ih1 _ _ _ _ _ _ _ _
      | exact montageref05_Check.mono _ _
      | exact montageref05_Codes.mono _ _
      | exact LeO.none _
      | refine LeO.ite ?_ ?_
      | refine LeO.bind ?_ (fun _ => ?_)
set_option maxHeartbeats 8000000 in
set_option maxRecDepth 100000 in
theorem montageref05_Read.calls (k : Nat) (A0 : Option Addr) (c0 : Nat) (l0 : List Int) (A1 : Option Addr) (c1 : Nat) (l1 : List Int) (a2 : Int) (r1 : Int) (r2 : Int) (r3 : Int) (w : World) (hr0 : Kd.C (Kd.int .i64) w A0 l0.length l0) (hc0 : l0.length ≤ c0) (hr1 : Kd.C (Kd.int .u8) w A1 l1.length l1) (hc1 : l1.length ≤ c1) (h : montageref05_Read.f k l0 l1 a2 = some (r1, r2, r3)) :
    Calls Try.prog 144 #[.slice A0 l0.length c0, .slice A1 l1.length c1, .int .i64 a2] w fun e w' => e = .returned (.tuple #[.int .i64 r1, .int .i64 r2, .int .i64 r3]) ∧ Below w.heap.size w w' := by
  have HR0 := Aside0.mk hr0
  have HC0 := Aside0.mk hc0
  clear hr0 hc0
  have HR1 := Aside0.mk hr1
  have HC1 := Aside0.mk hc1
  clear hr1 hc1
  have HB := Aside0.mk (Below.refl w.heap.size w)
  have H : ((montageref05_Check.f k l0).bind fun bt185 => (if bt185.1 = 2 then (some (0, a2, 10)) else ((montageref05_Codes.f k l0).bind fun t187 => (montageref05_Read.l0 k l0 l1 a2 bt185.1 t187 0 1)))) = some (r1, r2, r3) := h
  clear h
  replace H := Option.bind_eq_some_iff.mp H
  obtain ⟨⟨t185, t186⟩, A40, H⟩ := H
  replace H : (if t185 = 2 then (some (0, a2, 10)) else ((montageref05_Codes.f k l0).bind fun t187 => (montageref05_Read.l0 k l0 l1 a2 t185 t187 0 1))) = some (r1, r2, r3) := H
  have A4 := Aside0.mk A40
  clear A40
  by_cases c5 : t185 = 2
  · rw [if_pos c5] at H
    have c5b0 : (t185 == 2) = true := beq_iff_eq.mpr c5
    have c5b1 : (t185 != 2) = false := bne_eq_false_iff_eq.mpr c5
    clear c5
    simp only [Option.some.injEq, Prod.mk.injEq] at H
    obtain ⟨rfl, rfl, rfl⟩ := H
    go_enter Try.func144, Try.ntmps144
    go_wp2_with (first | ((with_reducible refine gate_callee (f := 15) rfl ?_); refine goesL_ (some 17) rfl rfl Try.func15 (by kernel_rfl) rfl #[.slice A0 l0.length c0] rfl (by (try simp only [List.map_toArray, List.map_cons, List.map_nil]); first | done | rfl | (simp only [List.length_drop, List.length_take]; rfl)) ?_; (with_reducible refine (montageref05_Check.calls k _ _ l0 t185 t186 _ ?side1 ?side2 A4.out).mono ?_); (case side1 => repeat (first | exact HR0.out | (with_reducible refine Kd.C_alloc ?_ _) | (with_reducible refine Kd.C_drewN ?_ _) | (with_reducible refine Kd.C_drew ?_))); (case side2 => exact HC0.out); rintro e w' ⟨rfl, ⟨nd, rfl⟩⟩; refine ⟨_, rfl, ?_⟩))
    go_ret3
    exact ⟨by first | rfl | (simp [errW_none, errW_some] <;> rfl) | (simp [*, errW_none, errW_some] <;> rfl), by repeat (first | (with_reducible first | exact HB.out | apply below_alloc | apply pw_below_drewN | apply below_drew1) | exact HB.out)⟩
  · rw [if_neg c5] at H
    have c5b0 : (t185 == 2) = false := beq_eq_false_iff_ne.mpr c5
    have c5b1 : (t185 != 2) = true := bne_iff_ne.mpr c5
    replace H := Option.bind_eq_some_iff.mp H
    obtain ⟨t187, A60, H⟩ := H
    replace H : (montageref05_Read.l0 k l0 l1 a2 t185 t187 0 1) = some (r1, r2, r3) := H
    have A6 := Aside0.mk A60
    clear A60
    have H' := Aside0.mk H
    clear H
    go_enter Try.func144, Try.ntmps144
    go_wp2_with (first | ((with_reducible refine gate_callee (f := 15) rfl ?_); refine goesL_ (some 17) rfl rfl Try.func15 (by kernel_rfl) rfl #[.slice A0 l0.length c0] rfl (by (try simp only [List.map_toArray, List.map_cons, List.map_nil]); first | done | rfl | (simp only [List.length_drop, List.length_take]; rfl)) ?_; (with_reducible refine (montageref05_Check.calls k _ _ l0 t185 t186 _ ?side1 ?side2 A4.out).mono ?_); (case side1 => repeat (first | exact HR0.out | (with_reducible refine Kd.C_alloc ?_ _) | (with_reducible refine Kd.C_drewN ?_ _) | (with_reducible refine Kd.C_drew ?_))); (case side2 => exact HC0.out); rintro e w' ⟨rfl, ⟨nd, rfl⟩⟩; refine ⟨_, rfl, ?_⟩) | ((with_reducible refine gate_callee (f := 63) rfl ?_); refine goesL_ (some 24) rfl rfl Try.func63 (by kernel_rfl) rfl #[.slice A0 l0.length c0] rfl (by (try simp only [List.map_toArray, List.map_cons, List.map_nil]); first | done | rfl | (simp only [List.length_drop, List.length_take]; rfl)) ?_; (with_reducible refine (montageref05_Codes.calls k _ _ l0 t187 _ ?side1 ?side2 A6.out).mono ?_); (case side1 => repeat (first | exact HR0.out | (with_reducible refine Kd.C_alloc ?_ _) | (with_reducible refine Kd.C_drewN ?_ _) | (with_reducible refine Kd.C_drew ?_))); (case side2 => exact HC0.out); rintro e w7 ⟨v188, rfl, ho0, hb⟩; refine ⟨_, rfl, ?_⟩; have n0_ := Aside0.mk (Kd.R_lower ho0 (below_size (by repeat (first | (with_reducible first | exact HB.out | apply below_alloc | apply pw_below_drewN | apply below_drew1) | exact HB.out)))); have n1_ := Aside0.mk (below_step (by repeat (first | (with_reducible first | exact HB.out | apply below_alloc | apply pw_below_drewN | apply below_drew1) | exact HB.out)) hb); clear HB; have HO189 := n0_; have HB := n1_; clear n0_ n1_; (try clear hb); (try clear hb2); (try clear hk); (try clear hi); (try clear ho0)))
    go_loopg [2, 12, 13] k (fun kq v2 v12 v13 w' => ∃ (x2_1 : Int) (x12_1 : Int) (x13_1 : Int), v2 = .int .i64 x2_1 ∧ v12 = .int .i64 x12_1 ∧ v13 = .int .i64 x13_1 ∧ Aside0 (montageref05_Read.l0 kq l0 l1 x2_1 t185 t187 x12_1 x13_1 = some (r1, r2, r3)) ∧ Aside0 (kq ≤ k) ∧ Aside0 (Kd.R (Kd.int .i64) 3 w' w.heap.size (fun _ => True) v188 t187) ∧ Aside0 (Below w.heap.size w w'))
    case atStart => exact ⟨(a2), (0), (1), (by first | rfl | (simp; done) | (simp [*]; done)), (by first | rfl | (simp; done) | (simp [*]; done)), (by first | rfl | (simp; done) | (simp [*]; done)), H', ⟨Nat.le_refl _⟩, ⟨by (with_reducible repeat (first | apply Kd.R_alloc | apply Kd.R_drewN | apply Kd.R_drew)); exact HO189.out⟩, ⟨by repeat (first | (with_reducible first | exact HB.out | apply below_alloc | apply pw_below_drewN | apply below_drew1) | exact HB.out)⟩⟩
    case round =>
      clear H'
      try clear c1
      try clear p2
      try clear c5
      try clear c5b0
      try clear c5b1
      try clear c6
      obtain ⟨x2_1, x12_1, x13_1, rfl, rfl, rfl, HA, HK1, HO_11, HB⟩ := hrel
      cases gk with
      | zero => exact absurd HA.out (by simp [montageref05_Read.l0])
      | succ k1 =>
        have H := HA.out
        clear HA
        simp only [montageref05_Read.l0] at H
        by_cases c8 : x13_1 ≤ 15
        · rw [if_pos c8] at H
          have c8b0 : decide (x13_1 ≤ 15) = true := decide_eq_true c8
          clear c8
          by_cases c9 : x2_1 ≥ (l1.length : Int)
          · rw [if_pos c9] at H
            have c9b0 : decide ((l1.length : Int) ≤ x2_1) = true := decide_eq_true c9
            clear c9
            simp only [Option.some.injEq, Prod.mk.injEq] at H
            obtain ⟨rfl, rfl, rfl⟩ := H
            go_wp2
            go_ret3
            exact ⟨by first | rfl | (simp [errW_none, errW_some] <;> rfl) | (simp [*, errW_none, errW_some] <;> rfl), by repeat (first | (with_reducible first | exact HB.out | apply below_alloc | apply pw_below_drewN | apply below_drew1) | exact HB.out)⟩
          · rw [if_neg c9] at H
            have c9b0 : decide ((l1.length : Int) ≤ x2_1) = false := decide_eq_false c9
            clear c9
            by_cases c10 : 0 ≤ x2_1
            · rw [if_pos c10] at H
              have c10b0 : decide (0 ≤ x2_1) = true := decide_eq_true c10
              clear c10
              by_cases c11 : x2_1 < (l1.length : Int)
              · rw [if_pos c11] at H
                have c11b0 : decide (x2_1 < (l1.length : Int)) = true := decide_eq_true c11
                clear c11
                have H' := Aside0.mk H
                clear H
                have p190 : 0 ≤ (x2_1 : Int) := of_decide_eq_true (by first | (with_reducible assumption) | assumption)
                have q190 : x2_1 < (l1.length : Int) := of_decide_eq_true (by first | (with_reducible assumption) | assumption)
                obtain ⟨ad190, e190, hx190_0⟩ := Kd.at_int HR1.out x2_1 p190 q190
                cases e190
                replace hx190_0 := (HB.out.cell (World.block_lt_of_cell? w _ hx190_0)).trans hx190_0
                replace p190 := eq_true p190
                replace q190 := eq_true q190
                go_wp2
                go_loopg [14] k1 (fun kq v14 w' => ∃ (x14_2 : Int), v14 = .int .i64 x14_2 ∧ Aside0 (montageref05_Read.l1 kq l0 l1 (wrap64 (x2_1 + 1)) t185 t187 (wrap64 ((wrap64 (2 * x12_1)) + (wrap64 (rd l1 x2_1)))) x13_1 x14_2 = some (r1, r2, r3)) ∧ Aside0 (kq ≤ k1) ∧ Aside0 (Kd.R (Kd.int .i64) 3 w' w.heap.size (fun _ => True) v188 t187) ∧ Aside0 (Below w.heap.size w w'))
                case atStart => exact ⟨(0), (by first | rfl | (simp; done) | (simp [*]; done)), H', ⟨Nat.le_refl _⟩, ⟨by (with_reducible repeat (first | apply Kd.R_alloc | apply Kd.R_drewN | apply Kd.R_drew)); exact HO_11.out⟩, ⟨by repeat (first | (with_reducible first | exact HB.out | apply below_alloc | apply pw_below_drewN | apply below_drew1) | exact HB.out)⟩⟩
                case round =>
                  clear H'
                  try clear c1
                  try clear p1
                  try clear q1
                  try clear hx1
                  try clear p2
                  try clear c5
                  try clear c5b0
                  try clear c5b1
                  try clear c6
                  try clear p6
                  try clear c8
                  try clear c8b0
                  try clear c9
                  try clear c9b0
                  try clear c10
                  try clear c10b0
                  try clear c11
                  try clear c11b0
                  try clear hx190_0
                  try clear p190
                  try clear p2
                  try clear q190
                  obtain ⟨x14_2, rfl, HA, HK2, HO_11, HB⟩ := hrel
                  cases gk with
                  | zero => exact absurd HA.out (by simp [montageref05_Read.l1])
                  | succ k2 =>
                    have H := HA.out
                    clear HA
                    simp only [montageref05_Read.l1] at H
                    by_cases c12 : x14_2 < (l0.length : Int)
                    · rw [if_pos c12] at H
                      have c12b0 : decide (x14_2 < (l0.length : Int)) = true := decide_eq_true c12
                      clear c12
                      by_cases c13 : 0 ≤ x14_2
                      · rw [if_pos c13] at H
                        have c13b0 : decide (0 ≤ x14_2) = true := decide_eq_true c13
                        clear c13
                        by_cases c14 : (rd l0 x14_2) = x13_1
                        · rw [if_pos c14] at H
                          have c14b0 : ((rd l0 x14_2) == x13_1) = true := beq_iff_eq.mpr c14
                          have c14b1 : ((rd l0 x14_2) != x13_1) = false := bne_eq_false_iff_eq.mpr c14
                          clear c14
                          by_cases c15 : x14_2 < (t187.length : Int)
                          · rw [if_pos c15] at H
                            have c15b0 : decide (x14_2 < (t187.length : Int)) = true := decide_eq_true c15
                            clear c15
                            by_cases c16 : (rd t187 x14_2) = (wrap64 ((wrap64 (2 * x12_1)) + (wrap64 (rd l1 x2_1))))
                            · rw [if_pos c16] at H
                              have c16b0 : ((rd t187 x14_2) == (wrap64 ((wrap64 (2 * x12_1)) + (wrap64 (rd l1 x2_1))))) = true := beq_iff_eq.mpr c16
                              have c16b1 : ((rd t187 x14_2) != (wrap64 ((wrap64 (2 * x12_1)) + (wrap64 (rd l1 x2_1))))) = false := bne_eq_false_iff_eq.mpr c16
                              clear c16
                              simp only [Option.some.injEq, Prod.mk.injEq] at H
                              obtain ⟨rfl, rfl, rfl⟩ := H
                              have p191 : 0 ≤ (x14_2 : Int) := of_decide_eq_true (by first | (with_reducible assumption) | assumption)
                              have q191 : x14_2 < (l0.length : Int) := of_decide_eq_true (by first | (with_reducible assumption) | assumption)
                              obtain ⟨ad191, e191, hx191_0⟩ := Kd.at_int HR0.out x14_2 p191 q191
                              cases e191
                              replace hx191_0 := (HB.out.cell (World.block_lt_of_cell? w _ hx191_0)).trans hx191_0
                              replace p191 := eq_true p191
                              replace q191 := eq_true q191
                              obtain ⟨Ao17, co17, eo17⟩ := Kd.R_slice HO_11.out
                              subst eo17
                              have p192 : 0 ≤ (x14_2 : Int) := of_decide_eq_true (by first | (with_reducible assumption) | assumption)
                              have q192 : x14_2 < (t187.length : Int) := of_decide_eq_true (by first | (with_reducible assumption) | assumption)
                              obtain ⟨ad192, e192, hx192_0⟩ := Kd.at_int (Kd.R_reads' HO_11.out).2.2 x14_2 p192 q192
                              cases e192
                              replace p192 := eq_true p192
                              replace q192 := eq_true q192
                              go_wp2
                              go_ret3
                              exact ⟨by first | rfl | (simp [errW_none, errW_some] <;> rfl) | (simp [*, errW_none, errW_some] <;> rfl), by repeat (first | (with_reducible first | exact HB.out | apply below_alloc | apply pw_below_drewN | apply below_drew1) | exact HB.out)⟩
                            · rw [if_neg c16] at H
                              have c16b0 : ((rd t187 x14_2) == (wrap64 ((wrap64 (2 * x12_1)) + (wrap64 (rd l1 x2_1))))) = false := beq_eq_false_iff_ne.mpr c16
                              have c16b1 : ((rd t187 x14_2) != (wrap64 ((wrap64 (2 * x12_1)) + (wrap64 (rd l1 x2_1))))) = true := bne_iff_ne.mpr c16
                              have H' := Aside0.mk H
                              clear H
                              have p191 : 0 ≤ (x14_2 : Int) := of_decide_eq_true (by first | (with_reducible assumption) | assumption)
                              have q191 : x14_2 < (l0.length : Int) := of_decide_eq_true (by first | (with_reducible assumption) | assumption)
                              obtain ⟨ad191, e191, hx191_0⟩ := Kd.at_int HR0.out x14_2 p191 q191
                              cases e191
                              replace hx191_0 := (HB.out.cell (World.block_lt_of_cell? w _ hx191_0)).trans hx191_0
                              replace p191 := eq_true p191
                              replace q191 := eq_true q191
                              obtain ⟨Ao18, co18, eo18⟩ := Kd.R_slice HO_11.out
                              subst eo18
                              have p192 : 0 ≤ (x14_2 : Int) := of_decide_eq_true (by first | (with_reducible assumption) | assumption)
                              have q192 : x14_2 < (t187.length : Int) := of_decide_eq_true (by first | (with_reducible assumption) | assumption)
                              obtain ⟨ad192, e192, hx192_0⟩ := Kd.at_int (Kd.R_reads' HO_11.out).2.2 x14_2 p192 q192
                              cases e192
                              replace p192 := eq_true p192
                              replace q192 := eq_true q192
                              go_wp2
                              go_roundg k2
                              case measure => have := HK1.out; have := HK2.out; omega
                              case rel => exact ⟨(wrap64 (x14_2 + 1)), (by first | rfl | (simp; done) | (simp [*]; done)), H', ⟨by have := HK1.out; have := HK2.out; omega⟩, ⟨by (with_reducible repeat (first | apply Kd.R_alloc | apply Kd.R_drewN | apply Kd.R_drew)); exact HO_11.out⟩, ⟨by repeat (first | (with_reducible first | exact HB.out | apply below_alloc | apply pw_below_drewN | apply below_drew1) | exact HB.out)⟩⟩
                          · rw [if_neg c15] at H
                            exact absurd H (by simp)
                        · rw [if_neg c14] at H
                          have c14b0 : ((rd l0 x14_2) == x13_1) = false := beq_eq_false_iff_ne.mpr c14
                          have c14b1 : ((rd l0 x14_2) != x13_1) = true := bne_iff_ne.mpr c14
                          have H' := Aside0.mk H
                          clear H
                          have p191 : 0 ≤ (x14_2 : Int) := of_decide_eq_true (by first | (with_reducible assumption) | assumption)
                          have q191 : x14_2 < (l0.length : Int) := of_decide_eq_true (by first | (with_reducible assumption) | assumption)
                          obtain ⟨ad191, e191, hx191_0⟩ := Kd.at_int HR0.out x14_2 p191 q191
                          cases e191
                          replace hx191_0 := (HB.out.cell (World.block_lt_of_cell? w _ hx191_0)).trans hx191_0
                          replace p191 := eq_true p191
                          replace q191 := eq_true q191
                          go_wp2
                          go_roundg k2
                          case measure => have := HK1.out; have := HK2.out; omega
                          case rel => exact ⟨(wrap64 (x14_2 + 1)), (by first | rfl | (simp; done) | (simp [*]; done)), H', ⟨by have := HK1.out; have := HK2.out; omega⟩, ⟨by (with_reducible repeat (first | apply Kd.R_alloc | apply Kd.R_drewN | apply Kd.R_drew)); exact HO_11.out⟩, ⟨by repeat (first | (with_reducible first | exact HB.out | apply below_alloc | apply pw_below_drewN | apply below_drew1) | exact HB.out)⟩⟩
                      · rw [if_neg c13] at H
                        exact absurd H (by simp)
                    · rw [if_neg c12] at H
                      have c12b0 : decide (x14_2 < (l0.length : Int)) = false := decide_eq_false c12
                      clear c12
                      by_cases c19 : t185 = 1
                      · rw [if_pos c19] at H
                        have c19b0 : (t185 == 1) = true := beq_iff_eq.mpr c19
                        have c19b1 : (t185 != 1) = false := bne_eq_false_iff_eq.mpr c19
                        clear c19
                        simp only [Option.some.injEq, Prod.mk.injEq] at H
                        obtain ⟨rfl, rfl, rfl⟩ := H
                        go_wp2
                        go_ret3
                        exact ⟨by first | rfl | (simp [errW_none, errW_some] <;> rfl) | (simp [*, errW_none, errW_some] <;> rfl), by repeat (first | (with_reducible first | exact HB.out | apply below_alloc | apply pw_below_drewN | apply below_drew1) | exact HB.out)⟩
                      · rw [if_neg c19] at H
                        have c19b0 : (t185 == 1) = false := beq_eq_false_iff_ne.mpr c19
                        have c19b1 : (t185 != 1) = true := bne_iff_ne.mpr c19
                        have H' := Aside0.mk H
                        clear H
                        go_wp2
                        go_roundg k2
                        case measure => have := HK1.out; have := HK2.out; omega
                        case rel => exact ⟨((wrap64 (x2_1 + 1))), ((wrap64 ((wrap64 (2 * x12_1)) + (wrap64 (rd l1 x2_1))))), (wrap64 (x13_1 + 1)), (by first | rfl | (simp; done) | (simp [*]; done)), (by first | rfl | (simp; done) | (simp [*]; done)), (by first | rfl | (simp; done) | (simp [*]; done)), H', ⟨by have := HK1.out; have := HK2.out; omega⟩, ⟨by (with_reducible repeat (first | apply Kd.R_alloc | apply Kd.R_drewN | apply Kd.R_drew)); exact HO_11.out⟩, ⟨by repeat (first | (with_reducible first | exact HB.out | apply below_alloc | apply pw_below_drewN | apply below_drew1) | exact HB.out)⟩⟩
              · rw [if_neg c11] at H
                exact absurd H (by simp)
            · rw [if_neg c10] at H
              exact absurd H (by simp)
        · rw [if_neg c8] at H
          have c8b0 : decide (x13_1 ≤ 15) = false := decide_eq_false c8
          clear c8
          simp only [Option.some.injEq, Prod.mk.injEq] at H
          obtain ⟨rfl, rfl, rfl⟩ := H
          go_wp2
          go_ret3
          exact ⟨by first | rfl | (simp [errW_none, errW_some] <;> rfl) | (simp [*, errW_none, errW_some] <;> rfl), by repeat (first | (with_reducible first | exact HB.out | apply below_alloc | apply pw_below_drewN | apply below_drew1) | exact HB.out)⟩

-- NOT PRINTED: function 124 (montageref08_Reader_symbol)

-- NOT PRINTED: function 123 (montageref08_Reader_row)

-- NOT PRINTED: function 94 (montageref08_Reader_own)

/-! ### montageref07_power: function 126 -/
def montageref07_power.l0 : Nat → Int → Int → Int → Option (Int)
  | 0, _, _, _ => none
  | k + 1, x0, x3, x4 => if x4 < x0 then (montageref07_power.l0 k x0 (wrap64 (2 * x3)) (wrap64 (x4 + 1))) else (some x3)
def montageref07_power.f (k : Nat) (a0 : Int) : Option (Int) := montageref07_power.l0 k a0 1 0
theorem montageref07_power.mono_l : ∀ k, (∀ y0 y1 y2, LeO (montageref07_power.l0 k y0 y1 y2) (montageref07_power.l0 (k + 1) y0 y1 y2))
  | 0 => fun _ _ _ r h => by simp [montageref07_power.l0] at h
  | k + 1 => by
    have ih0 := montageref07_power.mono_l k
    · intro y0 y1 y2
      unfold montageref07_power.l0
      repeat' first
      | (with_reducible exact ih0 _ _ _)
      | (with_reducible exact LeO.refl _)
      | (with_reducible exact LeO.none _)
      | (with_reducible refine LeO.ite ?_ ?_)
      | (with_reducible refine LeO.bind ?_ (fun _ => ?_))
      | exact ih0 _ _ _
      | exact LeO.none _
      | refine LeO.ite ?_ ?_
      | refine LeO.bind ?_ (fun _ => ?_)
theorem montageref07_power.mono : ∀ a0 k, LeO (montageref07_power.f k a0) (montageref07_power.f (k + 1) a0) := by
  intro a0 k
  have ih0 := montageref07_power.mono_l k
  unfold montageref07_power.f
  repeat' first
      | (with_reducible exact ih0 _ _ _)
      | (with_reducible exact LeO.refl _)
      | (with_reducible exact LeO.none _)
      | (with_reducible refine LeO.ite ?_ ?_)
      | (with_reducible refine LeO.bind ?_ (fun _ => ?_))
      | exact ih0 _ _ _
      | exact LeO.none _
      | refine LeO.ite ?_ ?_
      | refine LeO.bind ?_ (fun _ => ?_)
set_option maxHeartbeats 8000000 in
set_option maxRecDepth 100000 in
theorem montageref07_power.calls (k : Nat) (a0 : Int) (r : Int) (w : World) (h : montageref07_power.f k a0 = some r) :
    Calls Try.prog 126 #[.int .i64 a0] w fun e w' => e = .returned (.int .i64 r) ∧ Drawn0 w w' := by
  have H : (montageref07_power.l0 k a0 1 0) = some r := h
  clear h
  have H' := Aside0.mk H
  clear H
  go_enter Try.func126, Try.ntmps126
  go_wp2
  go_loopg [3, 4] k (fun kq v3 v4 w' => ∃ (x3_1 : Int) (x4_1 : Int), v3 = .int .i64 x3_1 ∧ v4 = .int .i64 x4_1 ∧ Aside0 (montageref07_power.l0 kq a0 x3_1 x4_1 = some r) ∧ Aside0 (kq ≤ k) ∧ Drawn0 w w')
  case atStart => exact ⟨(1), (0), (by first | rfl | (simp; done) | (simp [*]; done)), (by first | rfl | (simp; done) | (simp [*]; done)), H', ⟨Nat.le_refl _⟩, by repeat (first | exact Drawn0.refl _ | apply Drawn0.step)⟩
  case round =>
    clear H'
    try clear c1
    obtain ⟨x3_1, x4_1, rfl, rfl, HA, HK1, ⟨m1, rfl⟩⟩ := hrel
    cases gk with
    | zero => exact absurd HA.out (by simp [montageref07_power.l0])
    | succ k1 =>
      have H := HA.out
      clear HA
      simp only [montageref07_power.l0] at H
      by_cases c2 : x4_1 < a0
      · rw [if_pos c2] at H
        have c2b0 : decide (x4_1 < a0) = true := decide_eq_true c2
        clear c2
        have H' := Aside0.mk H
        clear H
        go_wp2
        go_roundg k1
        case measure => have := HK1.out; omega
        case rel => exact ⟨(wrap64 (2 * x3_1)), (wrap64 (x4_1 + 1)), (by first | rfl | (simp; done) | (simp [*]; done)), (by first | rfl | (simp; done) | (simp [*]; done)), H', ⟨by have := HK1.out; omega⟩, by repeat (first | exact Drawn0.refl _ | apply Drawn0.step)⟩
      · rw [if_neg c2] at H
        have c2b0 : decide (x4_1 < a0) = false := decide_eq_false c2
        clear c2
        obtain rfl := Option.some.inj H
        go_wp2
        go_ret
        exact ⟨by first | rfl | (simp; done) | (simp [*]; done), by repeat (first | exact Drawn0.refl _ | apply Drawn0.step)⟩

/-! ### montageref07_lengths: function 98 -/
mutual
def montageref07_lengths.l0 : Nat → List (S200) → Int → Int → Option ((List (S200)))
  | 0, _, _, _ => none
  | k + 1, x1, x2, x3 => if x3 ≤ 284 then (if x3 ≥ 265 then (montageref07_lengths.j1 k x1 x2 x3 (wrap64 (Int.tdiv (wrap64 (x3 - 261)) 4))) else (montageref07_lengths.j1 k x1 x2 x3 0)) else (if x1.length < 5864062014805 then (some (x1 ++ [(⟨285, 258, 0⟩ : S200)])) else (none))
def montageref07_lengths.j1 : Nat → List (S200) → Int → Int → Int → Option ((List (S200)))
  | 0, _, _, _, _ => none
  | k + 1, x1, x2, x3, x4 => if x1.length < 5864062014805 then (montageref07_lengths.l1 k (x1 ++ [(⟨x3, x2, x4⟩ : S200)]) x2 x3 x4 0) else (none)
def montageref07_lengths.l1 : Nat → List (S200) → Int → Int → Int → Int → Option ((List (S200)))
  | 0, _, _, _, _, _ => none
  | k + 1, x1, x2, x3, x4, x5 => (montageref07_power.f k x4).bind fun t237 => (if x5 < t237 then (montageref07_lengths.l1 k x1 (wrap64 (x2 + 1)) x3 x4 (wrap64 (x5 + 1))) else (montageref07_lengths.l0 k x1 x2 (wrap64 (x3 + 1))))
end
def montageref07_lengths.f (k : Nat)  : Option ((List (S200))) := montageref07_lengths.l0 k ([] : List (S200)) 3 257
theorem montageref07_lengths.mono_l : ∀ k, (∀ y0 y1 y2, LeO (montageref07_lengths.l0 k y0 y1 y2) (montageref07_lengths.l0 (k + 1) y0 y1 y2)) ∧ (∀ y0 y1 y2 y3, LeO (montageref07_lengths.j1 k y0 y1 y2 y3) (montageref07_lengths.j1 (k + 1) y0 y1 y2 y3)) ∧ (∀ y0 y1 y2 y3 y4, LeO (montageref07_lengths.l1 k y0 y1 y2 y3 y4) (montageref07_lengths.l1 (k + 1) y0 y1 y2 y3 y4))
  | 0 => ⟨fun _ _ _ r h => by simp [montageref07_lengths.l0] at h, fun _ _ _ _ r h => by simp [montageref07_lengths.j1] at h, fun _ _ _ _ _ r h => by simp [montageref07_lengths.l1] at h⟩
  | k + 1 => by
    obtain ⟨ih0, ih1, ih2⟩ := montageref07_lengths.mono_l k
    refine ⟨?_, ?_, ?_⟩
    · intro y0 y1 y2
      unfold montageref07_lengths.l0
      repeat' first
      | (with_reducible exact ih0 _ _ _)
      | (with_reducible exact ih1 _ _ _ _)
      | (with_reducible exact ih2 _ _ _ _ _)
      | (with_reducible exact montageref07_power.mono _ _)
      | (with_reducible exact LeO.refl _)
      | (with_reducible exact LeO.none _)
      | (with_reducible refine LeO.ite ?_ ?_)
      | (with_reducible refine LeO.bind ?_ (fun _ => ?_))
      | exact ih0 _ _ _
      | exact ih1 _ _ _ _
      | exact ih2 _ _ _ _ _
      | exact montageref07_power.mono _ _
      | exact LeO.none _
      | refine LeO.ite ?_ ?_
      | refine LeO.bind ?_ (fun _ => ?_)
    · intro y0 y1 y2 y3
      unfold montageref07_lengths.j1
      repeat' first
      | (with_reducible exact ih0 _ _ _)
      | (with_reducible exact ih1 _ _ _ _)
      | (with_reducible exact ih2 _ _ _ _ _)
      | (with_reducible exact montageref07_power.mono _ _)
      | (with_reducible exact LeO.refl _)
      | (with_reducible exact LeO.none _)
      | (with_reducible refine LeO.ite ?_ ?_)
      | (with_reducible refine LeO.bind ?_ (fun _ => ?_))
      | exact ih0 _ _ _
      | exact ih1 _ _ _ _
      | exact ih2 _ _ _ _ _
      | exact montageref07_power.mono _ _
      | exact LeO.none _
      | refine LeO.ite ?_ ?_
      | refine LeO.bind ?_ (fun _ => ?_)
    · intro y0 y1 y2 y3 y4
      unfold montageref07_lengths.l1
      repeat' first
      | (with_reducible exact ih0 _ _ _)
      | (with_reducible exact ih1 _ _ _ _)
      | (with_reducible exact ih2 _ _ _ _ _)
      | (with_reducible exact montageref07_power.mono _ _)
      | (with_reducible exact LeO.refl _)
      | (with_reducible exact LeO.none _)
      | (with_reducible refine LeO.ite ?_ ?_)
      | (with_reducible refine LeO.bind ?_ (fun _ => ?_))
      | exact ih0 _ _ _
      | exact ih1 _ _ _ _
      | exact ih2 _ _ _ _ _
      | exact montageref07_power.mono _ _
      | exact LeO.none _
      | refine LeO.ite ?_ ?_
      | refine LeO.bind ?_ (fun _ => ?_)
theorem montageref07_lengths.mono : ∀ k, LeO (montageref07_lengths.f k ) (montageref07_lengths.f (k + 1) ) := by
  intro  k
  obtain ⟨ih0, ih1, ih2⟩ := montageref07_lengths.mono_l k
  unfold montageref07_lengths.f
  repeat' first
      | (with_reducible exact ih0 _ _ _)
      | (with_reducible exact ih1 _ _ _ _)
      | (with_reducible exact ih2 _ _ _ _ _)
      | (with_reducible exact montageref07_power.mono _ _)
      | (with_reducible exact LeO.refl _)
      | (with_reducible exact LeO.none _)
      | (with_reducible refine LeO.ite ?_ ?_)
      | (with_reducible refine LeO.bind ?_ (fun _ => ?_))
      | exact ih0 _ _ _
      | exact ih1 _ _ _ _
      | exact ih2 _ _ _ _ _
      | exact montageref07_power.mono _ _
      | exact LeO.none _
      | refine LeO.ite ?_ ?_
      | refine LeO.bind ?_ (fun _ => ?_)
set_option maxHeartbeats 8000000 in
set_option maxRecDepth 100000 in
theorem montageref07_lengths.calls (k : Nat)  (r : List (S200)) (w : World) (h : montageref07_lengths.f k  = some r) :
    Calls Try.prog 98 #[] w fun e w' => ∃ v0_ : Value, e = .returned (v0_) ∧ Kd.R k200 200 w' w.heap.size (fun _ => True) v0_ r ∧ Below w.heap.size w w' := by
  have hu200 := Try.underlying200
  have HB := Aside0.mk (Below.refl w.heap.size w)
  have H : (montageref07_lengths.l0 k ([] : List (S200)) 3 257) = some r := h
  clear h
  have H' := Aside0.mk H
  clear H
  go_enter Try.func98, Try.ntmps98
  go_wp2
  go_loopg [1, 2, 3] k (fun kq v1 v2 v3 w' => ∃ (x1_1 : List (S200)) (x2_1 : Int) (x3_1 : Int), v2 = .int .i64 x2_1 ∧ v3 = .int .i64 x3_1 ∧ Aside0 (montageref07_lengths.l0 kq x1_1 x2_1 x3_1 = some r) ∧ Aside0 (kq ≤ k) ∧ Aside0 (Kd.R k200 200 w' w.heap.size (fun _ => True) v1 x1_1) ∧ Aside0 (Below w.heap.size w w'))
  case atStart => exact ⟨(([] : List (S200))), (3), (257), (by first | rfl | (simp; done) | (simp [*]; done)), (by first | rfl | (simp; done) | (simp [*]; done)), H', ⟨Nat.le_refl _⟩, ⟨by first | exact Kd.R_nil _ _ _ _ _ | exact Kd.N_nil _ _ _ _ _ | exact Kd.V_nil _ _ _ _ _ | exact Kd.Q_nil _ _ _ _ _ | exact Kd.S_nil _ _ _ _ _⟩, ⟨by repeat (first | (with_reducible first | exact HB.out | apply below_alloc | apply pw_below_drewN | apply below_drew1) | exact HB.out)⟩⟩
  case round =>
    clear H'
    obtain ⟨x1_1, x2_1, x3_1, rfl, rfl, HA, HK1, HO_1, HB⟩ := hrel
    cases gk with
    | zero => exact absurd HA.out (by simp [montageref07_lengths.l0])
    | succ k1 =>
      have H := HA.out
      clear HA
      simp only [montageref07_lengths.l0] at H
      by_cases c1 : x3_1 ≤ 284
      · rw [if_pos c1] at H
        have c1b0 : decide (x3_1 ≤ 284) = true := decide_eq_true c1
        clear c1
        have HC2 := Aside0.mk H
        clear H
        go_upto_if 11 with (fail)
        go_cut [4] (fun v4 wc => ∃ (kq : Nat) (x4_1 : Int), v4 = .int .i64 x4_1 ∧ Aside0 (montageref07_lengths.j1 kq x1_1 x2_1 x3_1 x4_1 = some r) ∧ Aside0 (kq ≤ k1) ∧ Aside0 (Kd.R k200 200 wc w.heap.size (fun _ => True) u1 x1_1) ∧ Aside0 (Below w.heap.size w wc))
        case first =>
          have H := HC2.out
          clear HC2
          by_cases c3 : x3_1 ≥ 265
          · rw [if_pos c3] at H
            have c3b0 : decide (265 ≤ x3_1) = true := decide_eq_true c3
            clear c3
            (first | rw [c3b0] | (simp only [i64_w, i32_w]; rw [c3b0]) | skip)
            have H' := Aside0.mk H
            clear H
            go_wp2
            go_meet
            case rel => exact ⟨_, (wrap64 (Int.tdiv (wrap64 (x3_1 - 261)) 4)), (by first | rfl | (simp; done) | (simp [*]; done)), H', ⟨by have := HK1.out; first | omega | exact Nat.le_refl _⟩, ⟨by (with_reducible repeat (first | apply Kd.R_alloc | apply Kd.R_drewN | apply Kd.R_drew)); exact HO_1.out⟩, ⟨by repeat (first | (with_reducible first | exact HB.out | apply below_alloc | apply pw_below_drewN | apply below_drew1) | exact HB.out)⟩⟩
          · rw [if_neg c3] at H
            have c3b0 : decide (265 ≤ x3_1) = false := decide_eq_false c3
            clear c3
            (first | rw [c3b0] | (simp only [i64_w, i32_w]; rw [c3b0]) | skip)
            have H' := Aside0.mk H
            clear H
            go_wp2
            go_meet
            case rel => exact ⟨_, (0), (by first | rfl | (simp; done) | (simp [*]; done)), H', ⟨by have := HK1.out; first | omega | exact Nat.le_refl _⟩, ⟨by (with_reducible repeat (first | apply Kd.R_alloc | apply Kd.R_drewN | apply Kd.R_drew)); exact HO_1.out⟩, ⟨by repeat (first | (with_reducible first | exact HB.out | apply below_alloc | apply pw_below_drewN | apply below_drew1) | exact HB.out)⟩⟩
        case rest =>
          clear HC2
          try clear c1
          try clear c1b0
          try clear p2
          try clear c3
          try clear c3b0
          obtain ⟨kq, x4_1, rfl, HA, HJ1, HO_1, HB⟩ := hcut
          cases kq with
          | zero => exact absurd HA.out (by simp [montageref07_lengths.j1])
          | succ kj1 =>
            have H := HA.out
            clear HA
            simp only [montageref07_lengths.j1] at H
            by_cases c4 : x1_1.length < 5864062014805
            · rw [if_pos c4] at H
              have LMc4 := Aside0.mk c4
              clear c4
              obtain ⟨y234, hy234⟩ : ∃ y_ : List (S200), y_ = (x1_1 ++ [(⟨x3_1, x2_1, x4_1⟩ : S200)]) := ⟨_, rfl⟩
              replace H : (montageref07_lengths.l1 kj1 y234 x2_1 x3_1 x4_1 0) = some r := by first | (rw [hy234]; with_reducible exact H) | (have H2_ := (Option.bind_some _ _).symm.trans H; rw [hy234]; with_reducible exact H2_) | (have H2_ := (Option.bind_some _ _).symm.trans H; with_reducible exact H2_) | with_reducible exact H | (rw [hy234]; exact H) | exact H
              have Ny234 := Aside0.mk hy234
              clear hy234
              have H' := Aside0.mk H
              clear H
              go_wp2_with (first | ((with_reducible refine gate_builtin (b := .append) (xs := #[.tmp 15, .tmp 20]) rfl ?_); at_builtin; refine Kd.R_append k200 (w0 := w) w.heap.size rfl (.tmp 15) (.tmp 20) 162 200 (.agg #[(.int .i64 0), (.int .i64 0), (.int .i64 0)]) 24 rfl Try.underlying162 info200 rfl (by decide) (by omega) u1 x1_1 (⟨x3_1, x2_1, x4_1⟩ : S200) [.int .i64 x3_1, .int .i64 x2_1, .int .i64 x4_1] (fun _ => True) (fun _ => False) rfl rfl ?aP (fun _ hk => hk.elim) ?aF ?aO ?aB ?aS ?aL ?_; (case aP => exact k200_mkM _ _ _ (⟨x3_1, x2_1, x4_1⟩ : S200)); (case aB => exact (by repeat (first | (with_reducible first | exact HB.out | apply below_alloc | apply pw_below_drewN | apply below_drew1) | exact HB.out))); (case aF => exact (fun _ _ => trivial)); (case aO => exact (by (with_reducible repeat (first | apply Kd.R_alloc | apply Kd.R_drewN | apply Kd.R_drew)); exact HO_1.out)); (case aS => exact (below_size (by repeat (first | (with_reducible first | exact HB.out | apply below_alloc | apply pw_below_drewN | apply below_drew1) | exact HB.out)))); (case aL => have := LMc4.out; omega); intro v235 w5 ho hb hg hat; rw [← Ny234.out] at ho; have n0_ := Aside0.mk (hb); have n1_ := Aside0.mk (ho); clear HB; clear HO_1; have HB := n0_; have HO236 := n1_; clear n0_ n1_; clear ho hb hg hat))
              go_loopg [2, 5] kj1 (fun kq v2 v5 w' => ∃ (x2_3 : Int) (x5_3 : Int), v2 = .int .i64 x2_3 ∧ v5 = .int .i64 x5_3 ∧ Aside0 (montageref07_lengths.l1 kq y234 x2_3 x3_1 x4_1 x5_3 = some r) ∧ Aside0 (kq ≤ kj1) ∧ Aside0 (Kd.R k200 200 w' w.heap.size (fun _ => True) v235 y234) ∧ Aside0 (Below w.heap.size w w'))
              case atStart => exact ⟨(x2_1), (0), (by first | rfl | (simp; done) | (simp [*]; done)), (by first | rfl | (simp; done) | (simp [*]; done)), H', ⟨Nat.le_refl _⟩, ⟨by (with_reducible repeat (first | apply Kd.R_alloc | apply Kd.R_drewN | apply Kd.R_drew)); exact HO236.out⟩, ⟨by repeat (first | (with_reducible first | exact HB.out | apply below_alloc | apply pw_below_drewN | apply below_drew1) | exact HB.out)⟩⟩
              case round =>
                clear H'
                try clear c1
                try clear c1b0
                try clear p2
                try clear c3
                try clear c3b0
                try clear c4
                try clear p2
                obtain ⟨x2_3, x5_3, rfl, rfl, HA, HK3, HO_1, HB⟩ := hrel
                cases gk with
                | zero => exact absurd HA.out (by simp [montageref07_lengths.l1])
                | succ k3 =>
                  have H := HA.out
                  clear HA
                  simp only [montageref07_lengths.l1] at H
                  replace H := Option.bind_eq_some_iff.mp H
                  obtain ⟨t237, A60, H⟩ := H
                  replace H : (if x5_3 < t237 then (montageref07_lengths.l1 k3 y234 (wrap64 (x2_3 + 1)) x3_1 x4_1 (wrap64 (x5_3 + 1))) else (montageref07_lengths.l0 k3 y234 x2_3 (wrap64 (x3_1 + 1)))) = some r := H
                  have A6 := Aside0.mk A60
                  clear A60
                  by_cases c7 : x5_3 < t237
                  · rw [if_pos c7] at H
                    have c7b0 : decide (x5_3 < t237) = true := decide_eq_true c7
                    clear c7
                    have H' := Aside0.mk H
                    clear H
                    go_wp2_with (first | ((with_reducible refine gate_callee (f := 126) rfl ?_); refine goesL_ (some 24) rfl rfl Try.func126 (by kernel_rfl) rfl #[.int .i64 x4_1] rfl (by (try simp only [List.map_toArray, List.map_cons, List.map_nil]); first | done | rfl | (simp only [List.length_drop, List.length_take]; rfl)) ?_; (with_reducible refine (montageref07_power.calls k3 x4_1 t237 _ A6.out).mono ?_); rintro e w' ⟨rfl, ⟨nd, rfl⟩⟩; refine ⟨_, rfl, ?_⟩))
                    go_roundg k3
                    case measure => have := HK1.out; have := HJ1.out; have := HK3.out; omega
                    case rel => exact ⟨(wrap64 (x2_3 + 1)), (wrap64 (x5_3 + 1)), (by first | rfl | (simp; done) | (simp [*]; done)), (by first | rfl | (simp; done) | (simp [*]; done)), H', ⟨by have := HK1.out; have := HJ1.out; have := HK3.out; omega⟩, ⟨by (with_reducible repeat (first | apply Kd.R_alloc | apply Kd.R_drewN | apply Kd.R_drew)); exact HO_1.out⟩, ⟨by repeat (first | (with_reducible first | exact HB.out | apply below_alloc | apply pw_below_drewN | apply below_drew1) | exact HB.out)⟩⟩
                  · rw [if_neg c7] at H
                    have c7b0 : decide (x5_3 < t237) = false := decide_eq_false c7
                    clear c7
                    have H' := Aside0.mk H
                    clear H
                    go_wp2_with (first | ((with_reducible refine gate_callee (f := 126) rfl ?_); refine goesL_ (some 24) rfl rfl Try.func126 (by kernel_rfl) rfl #[.int .i64 x4_1] rfl (by (try simp only [List.map_toArray, List.map_cons, List.map_nil]); first | done | rfl | (simp only [List.length_drop, List.length_take]; rfl)) ?_; (with_reducible refine (montageref07_power.calls k3 x4_1 t237 _ A6.out).mono ?_); rintro e w' ⟨rfl, ⟨nd, rfl⟩⟩; refine ⟨_, rfl, ?_⟩))
                    go_roundg k3
                    case measure => have := HK1.out; have := HJ1.out; have := HK3.out; omega
                    case rel => exact ⟨(y234), (x2_3), (wrap64 (x3_1 + 1)), (by first | rfl | (simp; done) | (simp [*]; done)), (by first | rfl | (simp; done) | (simp [*]; done)), H', ⟨by have := HK1.out; have := HJ1.out; have := HK3.out; omega⟩, ⟨by (with_reducible repeat (first | apply Kd.R_alloc | apply Kd.R_drewN | apply Kd.R_drew)); exact HO_1.out⟩, ⟨by repeat (first | (with_reducible first | exact HB.out | apply below_alloc | apply pw_below_drewN | apply below_drew1) | exact HB.out)⟩⟩
            · rw [if_neg c4] at H
              exact absurd H (by simp)
      · rw [if_neg c1] at H
        have c1b0 : decide (x3_1 ≤ 284) = false := decide_eq_false c1
        clear c1
        by_cases c8 : x1_1.length < 5864062014805
        · rw [if_pos c8] at H
          have LMc8 := Aside0.mk c8
          clear c8
          obtain ⟨y231, hy231⟩ : ∃ y_ : List (S200), y_ = (x1_1 ++ [(⟨285, 258, 0⟩ : S200)]) := ⟨_, rfl⟩
          replace H : (some y231) = some r := by first | (rw [hy231]; with_reducible exact H) | (have H2_ := (Option.bind_some _ _).symm.trans H; rw [hy231]; with_reducible exact H2_) | (have H2_ := (Option.bind_some _ _).symm.trans H; with_reducible exact H2_) | with_reducible exact H | (rw [hy231]; exact H) | exact H
          have Ny231 := Aside0.mk hy231
          clear hy231
          obtain rfl := Option.some.inj H
          go_wp2_with (first | ((with_reducible refine gate_builtin (b := .append) (xs := #[.tmp 30, .tmp 32]) rfl ?_); at_builtin; refine Kd.R_append k200 (w0 := w) w.heap.size rfl (.tmp 30) (.tmp 32) 162 200 (.agg #[(.int .i64 0), (.int .i64 0), (.int .i64 0)]) 24 rfl Try.underlying162 info200 rfl (by decide) (by omega) u1 x1_1 (⟨285, 258, 0⟩ : S200) [.int .i64 285, .int .i64 258, .int .i64 0] (fun _ => True) (fun _ => False) rfl rfl ?aP (fun _ hk => hk.elim) ?aF ?aO ?aB ?aS ?aL ?_; (case aP => exact k200_mkM _ _ _ (⟨285, 258, 0⟩ : S200)); (case aB => exact (by repeat (first | (with_reducible first | exact HB.out | apply below_alloc | apply pw_below_drewN | apply below_drew1) | exact HB.out))); (case aF => exact (fun _ _ => trivial)); (case aO => exact (by (with_reducible repeat (first | apply Kd.R_alloc | apply Kd.R_drewN | apply Kd.R_drew)); exact HO_1.out)); (case aS => exact (below_size (by repeat (first | (with_reducible first | exact HB.out | apply below_alloc | apply pw_below_drewN | apply below_drew1) | exact HB.out)))); (case aL => have := LMc8.out; omega); intro v232 w9 ho hb hg hat; rw [← Ny231.out] at ho; have n0_ := Aside0.mk (hb); have n1_ := Aside0.mk (ho); clear HB; clear HO_1; have HB := n0_; have HO233 := n1_; clear n0_ n1_; clear ho hb hg hat))
          go_ret
          exact ⟨_, by first | rfl | (simp [errW_none, errW_some] <;> rfl) | (simp [*, errW_none, errW_some] <;> rfl), by (with_reducible repeat (first | apply Kd.R_alloc | apply Kd.R_drewN | apply Kd.R_drew)); exact HO233.out, by repeat (first | (with_reducible first | exact HB.out | apply below_alloc | apply pw_below_drewN | apply below_drew1) | exact HB.out)⟩
        · rw [if_neg c8] at H
          exact absurd H (by simp)

/-! ### montageref07_bitsOf: function 160 -/
def montageref07_bitsOf.l0 : Nat → List (S200) → Int → Int → Option (Int)
  | 0, _, _, _ => none
  | k + 1, x0, x1, x5 => if x5 < (x0.length : Int) then (if 0 ≤ x5 then (if ((rd_T200 x0 x5).f0) = x1 then (some ((rd_T200 x0 x5).f2)) else (montageref07_bitsOf.l0 k x0 x1 (wrap64 (x5 + 1)))) else (none)) else (some (-1))
def montageref07_bitsOf.f (k : Nat) (l0 : List (S200)) (a1 : Int) : Option (Int) := montageref07_bitsOf.l0 k l0 a1 0
theorem montageref07_bitsOf.mono_l : ∀ k, (∀ y0 y1 y2, LeO (montageref07_bitsOf.l0 k y0 y1 y2) (montageref07_bitsOf.l0 (k + 1) y0 y1 y2))
  | 0 => fun _ _ _ r h => by simp [montageref07_bitsOf.l0] at h
  | k + 1 => by
    have ih0 := montageref07_bitsOf.mono_l k
    · intro y0 y1 y2
      unfold montageref07_bitsOf.l0
      repeat' first
      | (with_reducible exact ih0 _ _ _)
      | (with_reducible exact LeO.refl _)
      | (with_reducible exact LeO.none _)
      | (with_reducible refine LeO.ite ?_ ?_)
      | (with_reducible refine LeO.bind ?_ (fun _ => ?_))
      | exact ih0 _ _ _
      | exact LeO.none _
      | refine LeO.ite ?_ ?_
      | refine LeO.bind ?_ (fun _ => ?_)
theorem montageref07_bitsOf.mono : ∀ a0 a1 k, LeO (montageref07_bitsOf.f k a0 a1) (montageref07_bitsOf.f (k + 1) a0 a1) := by
  intro a0 a1 k
  have ih0 := montageref07_bitsOf.mono_l k
  unfold montageref07_bitsOf.f
  repeat' first
      | (with_reducible exact ih0 _ _ _)
      | (with_reducible exact LeO.refl _)
      | (with_reducible exact LeO.none _)
      | (with_reducible refine LeO.ite ?_ ?_)
      | (with_reducible refine LeO.bind ?_ (fun _ => ?_))
      | exact ih0 _ _ _
      | exact LeO.none _
      | refine LeO.ite ?_ ?_
      | refine LeO.bind ?_ (fun _ => ?_)
set_option maxHeartbeats 8000000 in
set_option maxRecDepth 100000 in
theorem montageref07_bitsOf.calls (k : Nat) (A0 : Option Addr) (c0 : Nat) (l0 : List (S200)) (a1 : Int) (r : Int) (w : World) (hr0 : Kd.C k200 w A0 l0.length l0) (hc0 : l0.length ≤ c0) (h : montageref07_bitsOf.f k l0 a1 = some r) :
    Calls Try.prog 160 #[.slice A0 l0.length c0, .int .i64 a1] w fun e w' => e = .returned (.int .i64 r) ∧ Drawn0 w w' := by
  have HR0 := Aside0.mk hr0
  have HC0 := Aside0.mk hc0
  clear hr0 hc0
  have H : (montageref07_bitsOf.l0 k l0 a1 0) = some r := h
  clear h
  have H' := Aside0.mk H
  clear H
  go_enter Try.func160, Try.ntmps160
  go_wp2
  go_loopg [5] k (fun kq v5 w' => ∃ (x5_1 : Int), v5 = .int .i64 x5_1 ∧ Aside0 (montageref07_bitsOf.l0 kq l0 a1 x5_1 = some r) ∧ Aside0 (kq ≤ k) ∧ Drawn0 w w')
  case atStart => exact ⟨(0), (by first | rfl | (simp; done) | (simp [*]; done)), H', ⟨Nat.le_refl _⟩, by repeat (first | exact Drawn0.refl _ | apply Drawn0.step)⟩
  case round =>
    clear H'
    try clear c1
    try clear p2
    obtain ⟨x5_1, rfl, HA, HK1, ⟨m1, rfl⟩⟩ := hrel
    cases gk with
    | zero => exact absurd HA.out (by simp [montageref07_bitsOf.l0])
    | succ k1 =>
      have H := HA.out
      clear HA
      simp only [montageref07_bitsOf.l0] at H
      by_cases c3 : x5_1 < (l0.length : Int)
      · rw [if_pos c3] at H
        have c3b0 : decide (x5_1 < (l0.length : Int)) = true := decide_eq_true c3
        clear c3
        by_cases c4 : 0 ≤ x5_1
        · rw [if_pos c4] at H
          have c4b0 : decide (0 ≤ x5_1) = true := decide_eq_true c4
          clear c4
          by_cases c5 : ((rd_T200 l0 x5_1).f0) = a1
          · rw [if_pos c5] at H
            have c5b0 : (((rd_T200 l0 x5_1).f0) == a1) = true := beq_iff_eq.mpr c5
            have c5b1 : (((rd_T200 l0 x5_1).f0) != a1) = false := bne_eq_false_iff_eq.mpr c5
            clear c5
            obtain rfl := Option.some.inj H
            have p238 : 0 ≤ (x5_1 : Int) := of_decide_eq_true (by first | (with_reducible assumption) | assumption)
            have q238 : x5_1 < (l0.length : Int) := of_decide_eq_true (by first | (with_reducible assumption) | assumption)
            obtain ⟨ad238, e238, hx238_0, hx238_1, hx238_2⟩ := at_T200 HR0.out x5_1 p238 q238
            cases e238
            replace p238 := eq_true p238
            replace q238 := eq_true q238
            have p239 : 0 ≤ (x5_1 : Int) := of_decide_eq_true (by first | (with_reducible assumption) | assumption)
            have q239 : x5_1 < (l0.length : Int) := of_decide_eq_true (by first | (with_reducible assumption) | assumption)
            obtain ⟨ad239, e239, hx239_0, hx239_1, hx239_2⟩ := at_T200 HR0.out x5_1 p239 q239
            obtain rfl : ad238 = ad239 := (by injection e239)
            replace p239 := eq_true p239
            replace q239 := eq_true q239
            go_wp2
            go_ret
            exact ⟨by first | rfl | (simp; done) | (simp [*]; done), by repeat (first | exact Drawn0.refl _ | apply Drawn0.step)⟩
          · rw [if_neg c5] at H
            have c5b0 : (((rd_T200 l0 x5_1).f0) == a1) = false := beq_eq_false_iff_ne.mpr c5
            have c5b1 : (((rd_T200 l0 x5_1).f0) != a1) = true := bne_iff_ne.mpr c5
            have H' := Aside0.mk H
            clear H
            have p238 : 0 ≤ (x5_1 : Int) := of_decide_eq_true (by first | (with_reducible assumption) | assumption)
            have q238 : x5_1 < (l0.length : Int) := of_decide_eq_true (by first | (with_reducible assumption) | assumption)
            obtain ⟨ad238, e238, hx238_0, hx238_1, hx238_2⟩ := at_T200 HR0.out x5_1 p238 q238
            cases e238
            replace p238 := eq_true p238
            replace q238 := eq_true q238
            go_wp2
            go_roundg k1
            case measure => have := HK1.out; omega
            case rel => exact ⟨(wrap64 (x5_1 + 1)), (by first | rfl | (simp; done) | (simp [*]; done)), H', ⟨by have := HK1.out; omega⟩, by repeat (first | exact Drawn0.refl _ | apply Drawn0.step)⟩
        · rw [if_neg c4] at H
          exact absurd H (by simp)
      · rw [if_neg c3] at H
        have c3b0 : decide (x5_1 < (l0.length : Int)) = false := decide_eq_false c3
        clear c3
        obtain rfl := Option.some.inj H
        go_wp2
        go_ret
        exact ⟨by first | rfl | (simp; done) | (simp [*]; done), by repeat (first | exact Drawn0.refl _ | apply Drawn0.step)⟩

/-! ### montageref07_LengthBits: function 145 -/
def montageref07_LengthBits.f (k : Nat) (a0 : Int) : Option (Int) := (montageref07_lengths.f k).bind fun t240 => ((montageref07_bitsOf.f k t240 a0).bind fun t243 => (some t243))
theorem montageref07_LengthBits.mono : ∀ a0 k, LeO (montageref07_LengthBits.f k a0) (montageref07_LengthBits.f (k + 1) a0) := by
  intro a0 k
  unfold montageref07_LengthBits.f
  repeat' first
      | (with_reducible exact montageref07_bitsOf.mono _ _ _)
      | (with_reducible exact montageref07_lengths.mono _)
      | (with_reducible exact LeO.refl _)
      | (with_reducible exact LeO.none _)
      | (with_reducible refine LeO.ite ?_ ?_)
      | (with_reducible refine LeO.bind ?_ (fun _ => ?_))
      | exact montageref07_bitsOf.mono _ _ _
      | exact montageref07_lengths.mono _
      | exact LeO.none _
      | refine LeO.ite ?_ ?_
      | refine LeO.bind ?_ (fun _ => ?_)
set_option maxHeartbeats 8000000 in
set_option maxRecDepth 100000 in
theorem montageref07_LengthBits.calls (k : Nat) (a0 : Int) (r : Int) (w : World) (h : montageref07_LengthBits.f k a0 = some r) :
    Calls Try.prog 145 #[.int .i64 a0] w fun e w' => e = .returned (.int .i64 r) ∧ Below w.heap.size w w' := by
  have HB := Aside0.mk (Below.refl w.heap.size w)
  have H : ((montageref07_lengths.f k).bind fun t240 => ((montageref07_bitsOf.f k t240 a0).bind fun t243 => (some t243))) = some r := h
  clear h
  replace H := Option.bind_eq_some_iff.mp H
  obtain ⟨t240, A20, H⟩ := H
  replace H : ((montageref07_bitsOf.f k t240 a0).bind fun t243 => (some t243)) = some r := H
  have A2 := Aside0.mk A20
  clear A20
  replace H := Option.bind_eq_some_iff.mp H
  obtain ⟨t243, A30, H⟩ := H
  replace H : (some t243) = some r := H
  have A3 := Aside0.mk A30
  clear A30
  obtain rfl := Option.some.inj H
  go_enter Try.func145, Try.ntmps145
  go_wp2_with (first | ((with_reducible refine gate_callee (f := 98) rfl ?_); refine goesL_ (some 3) rfl rfl Try.func98 (by kernel_rfl) rfl #[] rfl (by (try simp only [List.map_toArray, List.map_cons, List.map_nil]); first | done | rfl | (simp only [List.length_drop, List.length_take]; rfl)) ?_; (with_reducible refine (montageref07_lengths.calls k  t240 _ A2.out).mono ?_); rintro e w4 ⟨v241, rfl, ho0, hb⟩; refine ⟨_, rfl, ?_⟩; have n0_ := Aside0.mk (Kd.R_lower ho0 (below_size (by repeat (first | (with_reducible first | exact HB.out | apply below_alloc | apply pw_below_drewN | apply below_drew1) | exact HB.out)))); have n1_ := Aside0.mk (below_step (by repeat (first | (with_reducible first | exact HB.out | apply below_alloc | apply pw_below_drewN | apply below_drew1) | exact HB.out)) hb); clear HB; have HO242 := n0_; have HB := n1_; clear n0_ n1_; (try clear hb); (try clear hb2); (try clear hk); (try clear hi); (try clear ho0); obtain ⟨Ao5, co5, eo5⟩ := Kd.R_slice HO242.out; subst eo5) | ((with_reducible refine gate_callee (f := 160) rfl ?_); refine goesL_ (some 5) rfl rfl Try.func160 (by kernel_rfl) rfl #[.slice Ao5 t240.length co5, .int .i64 a0] rfl (by (try simp only [List.map_toArray, List.map_cons, List.map_nil]); first | done | rfl | (simp only [List.length_drop, List.length_take]; rfl)) ?_; (with_reducible refine (montageref07_bitsOf.calls k _ _ t240 a0 t243 _ ?side1 ?side2 A3.out).mono ?_); (case side1 => repeat (first | exact (Kd.R_reads' HO242.out).2.2 | (with_reducible refine Kd.C_alloc ?_ _) | (with_reducible refine Kd.C_drewN ?_ _) | (with_reducible refine Kd.C_drew ?_))); (case side2 => exact (Kd.R_reads' HO242.out).2.1); rintro e w' ⟨rfl, ⟨nd, rfl⟩⟩; refine ⟨_, rfl, ?_⟩))
  go_ret
  exact ⟨by first | rfl | (simp [errW_none, errW_some] <;> rfl) | (simp [*, errW_none, errW_some] <;> rfl), by repeat (first | (with_reducible first | exact HB.out | apply below_alloc | apply pw_below_drewN | apply below_drew1) | exact HB.out)⟩

end Go.Proofs.Ytmanmjjjepdhlaa.XInflateAny
