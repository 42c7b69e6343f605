-- Written by this session's own program wip/xprint.py: a changed copy of the kit's print.
import Derived.Test.YtdaofffedfccmaaDoorXOptionAnyx0
import Derived.Test.YtdaofffedfccmaaDoorXOptionAnyx4
namespace Go.Proofs.YtdaofffedfccmaaDoor.XOptionAny
open Go.RowKit Go.Proofs.YtdaofffedfccmaaDoorW.PrintWords Go.Proofs.YtdaofffedfccmaaDoorW.PrintLast Go.Proofs.YtdaofffedfccmaaDoorW.PrintMore
attribute [local go_sem] max2_int min2_int max_two min_two max_three min_three max_four min_four   -- for this text's walks alone
set_option linter.unusedVariables false
set_option linter.unusedSimpArgs false

/-! ### montageref31_Words: function 48 -/
mutual
def montageref31_Words.j0 : Nat → List ByteArray → Int → Bool → Bool → Bool → Int → Option (List ByteArray × Int)
  | 0, _, _, _, _, _, _ => none
  | k + 1, x4, x188000, x188001, x188002, x188003, x188004 => if x188004 = 4194304 then (montageref31_Words.j1 k x4 x188000 x188001 x188002 x188003 x188004) else ((montageref31_digits.f k x188004).bind fun t193 => (if 5 + t193.size ≤ 9223372036854775807 then (if x4.length < 8796093022208 then (montageref31_Words.j1 k (x4 ++ [(⟨#[109, 111, 115, 116, 61]⟩ : ByteArray) ++ t193]) x188000 x188001 x188002 x188003 x188004) else (none)) else (none)))
def montageref31_Words.j1 : Nat → List ByteArray → Int → Bool → Bool → Bool → Int → Option (List ByteArray × Int)
  | 0, _, _, _, _, _, _ => none
  | k + 1, x4, x188000, x188001, x188002, x188003, x188004 => if x188001 = true then (if x4.length < 8796093022208 then (montageref31_Words.j2 k (x4 ++ [(⟨#[114, 101, 117, 115, 101]⟩ : ByteArray)]) x188000 x188001 x188002 x188003 x188004) else (none)) else (montageref31_Words.j2 k x4 x188000 x188001 x188002 x188003 x188004)
def montageref31_Words.j2 : Nat → List ByteArray → Int → Bool → Bool → Bool → Int → Option (List ByteArray × Int)
  | 0, _, _, _, _, _, _ => none
  | k + 1, x4, x188000, x188001, x188002, x188003, x188004 => if x188002 = true then (if x4.length < 8796093022208 then ((some (x4 ++ [(⟨#[115, 104, 97, 114, 101]⟩ : ByteArray)] : List ByteArray)).bind fun y200 => (if x188003 = true then (if y200.length < 8796093022208 then (some ((y200 ++ [(⟨#[119, 105, 100, 101]⟩ : ByteArray)]), 0)) else (none)) else (some (y200, 0)))) else (none)) else (if x188003 = true then (if x4.length < 8796093022208 then (some ((x4 ++ [(⟨#[119, 105, 100, 101]⟩ : ByteArray)]), 0)) else (none)) else (some (x4, 0)))
end
def montageref31_Words.f (k : Nat) (a0_0 : Int) (a0_1 : Bool) (a0_2 : Bool) (a0_3 : Bool) (a0_4 : Int) : Option (List ByteArray × Int) := (montageref30_May.f a0_0 a0_1 a0_2 a0_3 a0_4).bind fun t188 => (if t188 = true then (if a0_0 = 1 then (montageref31_Words.j0 k ([] : List ByteArray) a0_0 a0_1 a0_2 a0_3 a0_4) else ((montageref31_digits.f k a0_0).bind fun t189 => (if 6 + t189.size ≤ 9223372036854775807 then (if ([] : List ByteArray).length < 8796093022208 then (montageref31_Words.j0 k (([] : List ByteArray) ++ [(⟨#[108, 101, 118, 101, 108, 61]⟩ : ByteArray) ++ t189]) a0_0 a0_1 a0_2 a0_3 a0_4) else (none)) else (none)))) else (some (([] : List ByteArray), 1)))
theorem montageref31_Words.mono_l : ∀ k, (∀ y0 y1 y2 y3 y4 y5, LeO (montageref31_Words.j0 k y0 y1 y2 y3 y4 y5) (montageref31_Words.j0 (k + 1) y0 y1 y2 y3 y4 y5)) ∧ (∀ y0 y1 y2 y3 y4 y5, LeO (montageref31_Words.j1 k y0 y1 y2 y3 y4 y5) (montageref31_Words.j1 (k + 1) y0 y1 y2 y3 y4 y5)) ∧ (∀ y0 y1 y2 y3 y4 y5, LeO (montageref31_Words.j2 k y0 y1 y2 y3 y4 y5) (montageref31_Words.j2 (k + 1) y0 y1 y2 y3 y4 y5))
  | 0 => ⟨fun _ _ _ _ _ _ r h => by simp [montageref31_Words.j0] at h, fun _ _ _ _ _ _ r h => by simp [montageref31_Words.j1] at h, fun _ _ _ _ _ _ r h => by simp [montageref31_Words.j2] at h⟩
  | k + 1 => by
    obtain ⟨ih0, ih1, ih2⟩ := montageref31_Words.mono_l k
    refine ⟨?_, ?_, ?_⟩
    · intro y0 y1 y2 y3 y4 y5
      unfold montageref31_Words.j0
      repeat' first
      | (with_reducible exact ih0 _ _ _ _ _ _)
      | (with_reducible exact ih1 _ _ _ _ _ _)
      | (with_reducible exact ih2 _ _ _ _ _ _)
      | (with_reducible exact montageref31_digits.mono _ _)
      | (with_reducible exact LeO.refl _)
      | (with_reducible exact LeO.none _)
      | (with_reducible refine LeO.ite ?_ ?_)
      | (with_reducible refine LeO.bind ?_ (fun _ => ?_))
      | exact ih0 _ _ _ _ _ _
      | exact ih1 _ _ _ _ _ _
      | exact ih2 _ _ _ _ _ _
      | exact montageref31_digits.mono _ _
      | exact LeO.none _
      | refine LeO.ite ?_ ?_
      | refine LeO.bind ?_ (fun _ => ?_)
    · intro y0 y1 y2 y3 y4 y5
      unfold montageref31_Words.j1
      repeat' first
      | (with_reducible exact ih0 _ _ _ _ _ _)
      | (with_reducible exact ih1 _ _ _ _ _ _)
      | (with_reducible exact ih2 _ _ _ _ _ _)
      | (with_reducible exact montageref31_digits.mono _ _)
      | (with_reducible exact LeO.refl _)
      | (with_reducible exact LeO.none _)
      | (with_reducible refine LeO.ite ?_ ?_)
      | (with_reducible refine LeO.bind ?_ (fun _ => ?_))
      | exact ih0 _ _ _ _ _ _
      | exact ih1 _ _ _ _ _ _
      | exact ih2 _ _ _ _ _ _
      | exact montageref31_digits.mono _ _
      | exact LeO.none _
      | refine LeO.ite ?_ ?_
      | refine LeO.bind ?_ (fun _ => ?_)
    · intro y0 y1 y2 y3 y4 y5
      unfold montageref31_Words.j2
      repeat' first
      | (with_reducible exact ih0 _ _ _ _ _ _)
      | (with_reducible exact ih1 _ _ _ _ _ _)
      | (with_reducible exact ih2 _ _ _ _ _ _)
      | (with_reducible exact montageref31_digits.mono _ _)
      | (with_reducible exact LeO.refl _)
      | (with_reducible exact LeO.none _)
      | (with_reducible refine LeO.ite ?_ ?_)
      | (with_reducible refine LeO.bind ?_ (fun _ => ?_))
      | exact ih0 _ _ _ _ _ _
      | exact ih1 _ _ _ _ _ _
      | exact ih2 _ _ _ _ _ _
      | exact montageref31_digits.mono _ _
      | exact LeO.none _
      | refine LeO.ite ?_ ?_
      | refine LeO.bind ?_ (fun _ => ?_)
theorem montageref31_Words.mono : ∀ a0 a1 a2 a3 a4 k, LeO (montageref31_Words.f k a0 a1 a2 a3 a4) (montageref31_Words.f (k + 1) a0 a1 a2 a3 a4) := by
  intro a0 a1 a2 a3 a4 k
  obtain ⟨ih0, ih1, ih2⟩ := montageref31_Words.mono_l k
  unfold montageref31_Words.f
  repeat' first
      | (with_reducible exact ih0 _ _ _ _ _ _)
      | (with_reducible exact ih1 _ _ _ _ _ _)
      | (with_reducible exact ih2 _ _ _ _ _ _)
      | (with_reducible exact montageref31_digits.mono _ _)
      | (with_reducible exact LeO.refl _)
      | (with_reducible exact LeO.none _)
      | (with_reducible refine LeO.ite ?_ ?_)
      | (with_reducible refine LeO.bind ?_ (fun _ => ?_))
      | exact ih0 _ _ _ _ _ _
      | exact ih1 _ _ _ _ _ _
      | exact ih2 _ _ _ _ _ _
      | exact montageref31_digits.mono _ _
      | exact LeO.none _
      | refine LeO.ite ?_ ?_
      | refine LeO.bind ?_ (fun _ => ?_)
set_option maxHeartbeats 8000000 in
set_option maxRecDepth 100000 in
theorem montageref31_Words.calls (k : Nat) (a0_0 : Int) (a0_1 : Bool) (a0_2 : Bool) (a0_3 : Bool) (a0_4 : Int) (r1 : List ByteArray) (r2 : Int) (w : World) (h : montageref31_Words.f k a0_0 a0_1 a0_2 a0_3 a0_4 = some (r1, r2)) :
    Calls Tryd.prog 48 #[.agg #[.int .i64 a0_0, .bool a0_1, .bool a0_2, .bool a0_3, .int .i64 a0_4]] w fun e w' => ∃ v0_ : Value, e = .returned (.tuple #[v0_, .int .i64 r2]) ∧ Kd.R Kd.string 9 w' w.heap.size (fun _ => True) v0_ r1 ∧ Below w.heap.size w w' := by
  have hu58 := Tryd.underlying58
  have HB := Aside0.mk (Below.refl w.heap.size w)
  have H : ((montageref30_May.f a0_0 a0_1 a0_2 a0_3 a0_4).bind fun t188 => (if t188 = true then (if a0_0 = 1 then (montageref31_Words.j0 k ([] : List ByteArray) a0_0 a0_1 a0_2 a0_3 a0_4) else ((montageref31_digits.f k a0_0).bind fun t189 => (if 6 + t189.size ≤ 9223372036854775807 then (if ([] : List ByteArray).length < 8796093022208 then (montageref31_Words.j0 k (([] : List ByteArray) ++ [(⟨#[108, 101, 118, 101, 108, 61]⟩ : ByteArray) ++ t189]) a0_0 a0_1 a0_2 a0_3 a0_4) else (none)) else (none)))) else (some (([] : List ByteArray), 1)))) = some (r1, r2) := h
  clear h
  replace H := Option.bind_eq_some_iff.mp H
  obtain ⟨t188, A20, H⟩ := H
  replace H : (if t188 = true then (if a0_0 = 1 then (montageref31_Words.j0 k ([] : List ByteArray) a0_0 a0_1 a0_2 a0_3 a0_4) else ((montageref31_digits.f k a0_0).bind fun t189 => (if 6 + t189.size ≤ 9223372036854775807 then (if ([] : List ByteArray).length < 8796093022208 then (montageref31_Words.j0 k (([] : List ByteArray) ++ [(⟨#[108, 101, 118, 101, 108, 61]⟩ : ByteArray) ++ t189]) a0_0 a0_1 a0_2 a0_3 a0_4) else (none)) else (none)))) else (some (([] : List ByteArray), 1))) = some (r1, r2) := H
  have A2 := Aside0.mk A20
  clear A20
  by_cases c3 : t188 = true
  · subst c3
    have H1 : (if a0_0 = 1 then (montageref31_Words.j0 k ([] : List ByteArray) a0_0 a0_1 a0_2 a0_3 a0_4) else ((montageref31_digits.f k a0_0).bind fun t189 => (if 6 + t189.size ≤ 9223372036854775807 then (if ([] : List ByteArray).length < 8796093022208 then (montageref31_Words.j0 k (([] : List ByteArray) ++ [(⟨#[108, 101, 118, 101, 108, 61]⟩ : ByteArray) ++ t189]) a0_0 a0_1 a0_2 a0_3 a0_4) else (none)) else (none)))) = some (r1, r2) := by rw [if_pos rfl] at H; exact H
    clear H
    have H := H1
    clear H1
    have HC4 := Aside0.mk H
    clear H
    go_enter Tryd.func48, Tryd.ntmps48
    go_upto_if 10 with (first | ((with_reducible refine gate_dst (N := 1) rfl ?_); refine box_event ?hg (N := 1) ?hd (cs := #[.int .i64 a0_0, .bool a0_1, .bool a0_2, .bool a0_3, .int .i64 a0_4]) (t := 58) ?hr ?_; (case hd => rfl); (case hg => rfl); (case hr => first | (go_simp; done) | (go_simp; rfl)); intro gb187 hg w5 hbox hb; have n0_ := Aside0.mk (below_step (by repeat (first | (with_reducible first | exact HB.out | apply below_alloc | apply pw_below_drewN | apply below_drew1) | exact HB.out)) hb); have n1_ := Aside0.mk (hbox); have n2_ := Aside0.mk ((by rw [hg]; exact (below_size (by repeat (first | (with_reducible first | exact HB.out | apply below_alloc | apply pw_below_drewN | apply below_drew1) | exact HB.out))) : w.heap.size ≤ gb187)); have n3_ := Aside0.mk ((by rw [hg]; exact (below_size (by repeat (first | (with_reducible first | exact HB.out | apply below_alloc | apply pw_below_drewN | apply below_drew1) | exact HB.out))) : w.heap.size ≤ gb187)); clear HB; have HB := n0_; have BK187 := n1_; have GW187 := n2_; have GE187 := n3_; clear n0_ n1_ n2_ n3_; clear hb hbox hg; have hcz6_0 : w5.cell? ⟨gb187, 0, none⟩ = some (.int .i64 a0_0) := (blk_cell BK187.out 0).trans rfl; have hcz6_1 : w5.cell? ⟨gb187, 1, none⟩ = some (.bool a0_1) := (blk_cell BK187.out 1).trans rfl; have hcz6_2 : w5.cell? ⟨gb187, 2, none⟩ = some (.bool a0_2) := (blk_cell BK187.out 2).trans rfl; have hcz6_3 : w5.cell? ⟨gb187, 3, none⟩ = some (.bool a0_3) := (blk_cell BK187.out 3).trans rfl; have hcz6_4 : w5.cell? ⟨gb187, 4, none⟩ = some (.int .i64 a0_4) := (blk_cell BK187.out 4).trans rfl; have hfz6_0 := blk_frozen BK187.out 0; have hfz6_1 := blk_frozen BK187.out 1; have hfz6_2 := blk_frozen BK187.out 2; have hfz6_3 := blk_frozen BK187.out 3; have hfz6_4 := blk_frozen BK187.out 4) | ((with_reducible refine gate_callee (f := 98) rfl ?_); refine goesL_ (some 6) rfl rfl Tryd.func98 (by kernel_rfl) rfl #[.agg #[.int .i64 a0_0, .bool a0_1, .bool a0_2, .bool a0_3, .int .i64 a0_4]] rfl (by (try simp only [List.map_toArray, List.map_cons, List.map_nil]); first | done | rfl | (simp only [List.length_drop, List.length_take]; rfl)) ?_; (with_reducible refine (montageref30_May.calls a0_0 a0_1 a0_2 a0_3 a0_4 true _ A2.out).mono ?_); rintro e w7 ⟨rfl, hb⟩; refine ⟨_, rfl, ?_⟩; have n0_ := Aside0.mk (blk_below (g := gb187) (o := .cells #[.int .i64 a0_0, .bool a0_1, .bool a0_2, .bool a0_3, .int .i64 a0_4] 58 (0, 0)) (by (with_reducible repeat (first | refine blk_drewN ?_ _ | refine blk_drew ?_ | refine blk_alloc ?_ _)); exact BK187.out) hb); have n1_ := Aside0.mk (below_step (by repeat (first | (with_reducible first | exact HB.out | apply below_alloc | apply pw_below_drewN | apply below_drew1 | refine below_set ?_ GE187.out) | exact HB.out)) hb); clear BK187; clear HB; have BK187 := n0_; have HB := n1_; clear n0_ n1_; (try clear hb); (try clear hb2); (try clear hk); (try clear hi); have hcz8_0 : w7.cell? ⟨gb187, 0, none⟩ = some (.int .i64 a0_0) := (blk_cell BK187.out 0).trans rfl; have hcz8_1 : w7.cell? ⟨gb187, 1, none⟩ = some (.bool a0_1) := (blk_cell BK187.out 1).trans rfl; have hcz8_2 : w7.cell? ⟨gb187, 2, none⟩ = some (.bool a0_2) := (blk_cell BK187.out 2).trans rfl; have hcz8_3 : w7.cell? ⟨gb187, 3, none⟩ = some (.bool a0_3) := (blk_cell BK187.out 3).trans rfl; have hcz8_4 : w7.cell? ⟨gb187, 4, none⟩ = some (.int .i64 a0_4) := (blk_cell BK187.out 4).trans rfl; have hfz8_0 := blk_frozen BK187.out 0; have hfz8_1 := blk_frozen BK187.out 1; have hfz8_2 := blk_frozen BK187.out 2; have hfz8_3 := blk_frozen BK187.out 3; have hfz8_4 := blk_frozen BK187.out 4))
    (try simp only [Act.put, List.setIfInBounds_toArray, List.set_cons_zero, List.set_cons_succ])
    go_cut [4] (fun v4 wc => ∃ (kq : Nat) (x4_3 : List ByteArray), Aside0 (montageref31_Words.j0 kq x4_3 a0_0 a0_1 a0_2 a0_3 a0_4 = some (r1, r2)) ∧ Aside0 (kq ≤ k) ∧ Aside0 (Kd.R Kd.string 9 wc w.heap.size (fun _ => True) v4 x4_3) ∧ Aside0 (wc.heap[gb187]? = some (.cells #[.int .i64 a0_0, .bool a0_1, .bool a0_2, .bool a0_3, .int .i64 a0_4] 58 (0, 0))) ∧ Aside0 (Below w.heap.size w wc))
    case first =>
      have H := HC4.out
      clear HC4
      by_cases c9 : a0_0 = 1
      · rw [if_pos c9] at H
        have c9b0 : (a0_0 == 1) = true := beq_iff_eq.mpr c9
        have c9b1 : (a0_0 != 1) = false := bne_eq_false_iff_eq.mpr c9
        clear c9
        (first | rw [c9b0] | (simp only [i64_w, i32_w]; rw [c9b0]) | skip)
        have H' := Aside0.mk H
        clear H
        go_wp2
        go_meet
        case rel => exact ⟨_, (([] : List ByteArray)), H', ⟨by first | omega | exact Nat.le_refl _⟩, ⟨by first | exact Kd.R_nil _ _ _ _ _ | exact Kd.N_nil _ _ _ _ _ | exact Kd.V_nil _ _ _ _ _ | exact Kd.Q_nil _ _ _ _ _ | exact Kd.S_nil _ _ _ _ _⟩, ⟨by (with_reducible repeat (first | refine blk_drewN ?_ _ | refine blk_drew ?_ | refine blk_alloc ?_ _)); exact BK187.out⟩, ⟨by repeat (first | (with_reducible first | exact HB.out | apply below_alloc | apply pw_below_drewN | apply below_drew1 | refine below_set ?_ GE187.out) | exact HB.out)⟩⟩
      · rw [if_neg c9] at H
        have c9b0 : (a0_0 == 1) = false := beq_eq_false_iff_ne.mpr c9
        have c9b1 : (a0_0 != 1) = true := bne_iff_ne.mpr c9
        (first | rw [c9b0] | (simp only [i64_w, i32_w]; rw [c9b0]) | skip)
        replace H := Option.bind_eq_some_iff.mp H
        obtain ⟨t189, A100, H⟩ := H
        replace H : (if 6 + t189.size ≤ 9223372036854775807 then (if ([] : List ByteArray).length < 8796093022208 then (montageref31_Words.j0 k (([] : List ByteArray) ++ [(⟨#[108, 101, 118, 101, 108, 61]⟩ : ByteArray) ++ t189]) a0_0 a0_1 a0_2 a0_3 a0_4) else (none)) else (none)) = some (r1, r2) := H
        have A10 := Aside0.mk A100
        clear A100
        by_cases c11 : 6 + t189.size ≤ 9223372036854775807
        · rw [if_pos c11] at H
          have c11b0 := eq_true c11
          have c11b1 : decide (6 + t189.size ≤ 9223372036854775807) = true := decide_eq_true c11
          try have c11b2 : (9223372036854775807 < 6 + t189.size) = False := eq_false (Nat.not_lt.2 c11)
          by_cases c12 : ([] : List ByteArray).length < 8796093022208
          · rw [if_pos c12] at H
            have LMc12 := Aside0.mk c12
            clear c12
            obtain ⟨y190, hy190⟩ : ∃ y_ : List ByteArray, y_ = (([] : List ByteArray) ++ [(⟨#[108, 101, 118, 101, 108, 61]⟩ : ByteArray) ++ t189]) := ⟨_, rfl⟩
            replace H : (montageref31_Words.j0 k y190 a0_0 a0_1 a0_2 a0_3 a0_4) = some (r1, r2) := by first | (rw [hy190]; with_reducible exact H) | (have H2_ := (Option.bind_some _ _).symm.trans H; rw [hy190]; with_reducible exact H2_) | (have H2_ := (Option.bind_some _ _).symm.trans H; with_reducible exact H2_) | with_reducible exact H | (rw [hy190]; exact H) | exact H
            have Ny190 := Aside0.mk hy190
            clear hy190
            have H' := Aside0.mk H
            clear H
            have hcz13_0 : w7.cell? ⟨gb187, 0, none⟩ = some (.int .i64 a0_0) := (blk_cell BK187.out 0).trans rfl
            have hcz13_1 : w7.cell? ⟨gb187, 1, none⟩ = some (.bool a0_1) := (blk_cell BK187.out 1).trans rfl
            have hcz13_2 : w7.cell? ⟨gb187, 2, none⟩ = some (.bool a0_2) := (blk_cell BK187.out 2).trans rfl
            have hcz13_3 : w7.cell? ⟨gb187, 3, none⟩ = some (.bool a0_3) := (blk_cell BK187.out 3).trans rfl
            have hcz13_4 : w7.cell? ⟨gb187, 4, none⟩ = some (.int .i64 a0_4) := (blk_cell BK187.out 4).trans rfl
            have hfz13_0 := blk_frozen BK187.out 0
            have hfz13_1 := blk_frozen BK187.out 1
            have hfz13_2 := blk_frozen BK187.out 2
            have hfz13_3 := blk_frozen BK187.out 3
            have hfz13_4 := blk_frozen BK187.out 4
            go_wp2_with (first | ((with_reducible refine gate_callee (f := 99) rfl ?_); refine goesL_ (some 14) rfl rfl Tryd.func99 (by kernel_rfl) rfl #[.int .i64 a0_0] rfl (by (try simp only [List.map_toArray, List.map_cons, List.map_nil]); first | done | rfl | (simp only [List.length_drop, List.length_take]; rfl)) ?_; (with_reducible refine (montageref31_digits.calls k a0_0 t189 _ A10.out).mono ?_); rintro e w14 ⟨rfl, hb⟩; refine ⟨_, rfl, ?_⟩; have n0_ := Aside0.mk (blk_below (g := gb187) (o := .cells #[.int .i64 a0_0, .bool a0_1, .bool a0_2, .bool a0_3, .int .i64 a0_4] 58 (0, 0)) (by (with_reducible repeat (first | refine blk_drewN ?_ _ | refine blk_drew ?_ | refine blk_alloc ?_ _)); exact BK187.out) hb); have n1_ := Aside0.mk (below_step (by repeat (first | (with_reducible first | exact HB.out | apply below_alloc | apply pw_below_drewN | apply below_drew1 | refine below_set ?_ GE187.out) | exact HB.out)) hb); clear BK187; clear HB; have BK187 := n0_; have HB := n1_; clear n0_ n1_; (try clear hb); (try clear hb2); (try clear hk); (try clear hi)) | ((with_reducible refine gate_builtin (b := .append) (xs := #[.tmp 11, .tmp 16]) rfl ?_); at_builtin; refine Kd.R_append Kd.string (w0 := w) w.heap.size rfl (.tmp 11) (.tmp 16) 56 9 (.string ⟨#[]⟩) 16 rfl Tryd.underlying56 info9 rfl (by decide) (by omega) (.slice none 0 0) ([] : List ByteArray) ((⟨#[108, 101, 118, 101, 108, 61]⟩ : ByteArray) ++ t189) [.string ((⟨#[108, 101, 118, 101, 108, 61]⟩ : ByteArray) ++ t189)] (fun _ => True) (fun _ => False) rfl rfl ?aP (fun _ hk => hk.elim) ?aF ?aO ?aB ?aS ?aL ?_; (case aP => exact rfl); (case aB => exact (by repeat (first | (with_reducible first | exact HB.out | apply below_alloc | apply pw_below_drewN | apply below_drew1 | refine below_set ?_ GE187.out) | exact HB.out))); (case aF => exact (fun _ _ => trivial)); (case aO => exact ((Kd.R_nil _ _ _ _ (fun _ => True)))); (case aS => exact (below_size (by repeat (first | (with_reducible first | exact HB.out | apply below_alloc | apply pw_below_drewN | apply below_drew1 | refine below_set ?_ GE187.out) | exact HB.out)))); (case aL => have := LMc12.out; omega); intro v191 w15 ho hb hg hat; rw [← Ny190.out] at ho; have n0_ := Aside0.mk (blk_grown (g := gb187) (o := .cells #[.int .i64 a0_0, .bool a0_1, .bool a0_2, .bool a0_3, .int .i64 a0_4] 58 (0, 0)) (by (with_reducible repeat (first | refine blk_drewN ?_ _ | refine blk_drew ?_ | refine blk_alloc ?_ _)); exact BK187.out) hg (by simp [Value.ownBlock])); have n1_ := Aside0.mk (hb); have n2_ := Aside0.mk (ho); clear BK187; clear HB; have BK187 := n0_; have HB := n1_; have HO192 := n2_; clear n0_ n1_ n2_; clear ho hb hg hat))
            go_meet
            case rel => exact ⟨_, (y190), H', ⟨by first | omega | exact Nat.le_refl _⟩, ⟨by (with_reducible repeat (first | apply Kd.R_alloc | apply Kd.R_drewN | apply Kd.R_drew)); exact HO192.out⟩, ⟨by (with_reducible repeat (first | refine blk_drewN ?_ _ | refine blk_drew ?_ | refine blk_alloc ?_ _)); exact BK187.out⟩, ⟨by repeat (first | (with_reducible first | exact HB.out | apply below_alloc | apply pw_below_drewN | apply below_drew1 | refine below_set ?_ GE187.out) | exact HB.out)⟩⟩
          · rw [if_neg c12] at H
            exact absurd H (by simp)
        · rw [if_neg c11] at H
          exact absurd H (by simp)
    case rest =>
      clear HC4
      try clear c1
      try clear p2
      try clear c3
      try clear c4
      try clear c9
      try clear c9b0
      try clear c9b1
      try clear c11
      try clear c11b0
      try clear c11b1
      try clear c11b2
      try clear c12
      try clear hcz13_0
      try clear hcz13_1
      try clear hcz13_2
      try clear hcz13_3
      try clear hcz13_4
      try clear hcz6_0
      try clear hcz6_1
      try clear hcz6_2
      try clear hcz6_3
      try clear hcz6_4
      try clear hcz8_0
      try clear hcz8_1
      try clear hcz8_2
      try clear hcz8_3
      try clear hcz8_4
      try clear hfz13_0
      try clear hfz13_1
      try clear hfz13_2
      try clear hfz13_3
      try clear hfz13_4
      try clear hfz6_0
      try clear hfz6_1
      try clear hfz6_2
      try clear hfz6_3
      try clear hfz6_4
      try clear hfz8_0
      try clear hfz8_1
      try clear hfz8_2
      try clear hfz8_3
      try clear hfz8_4
      obtain ⟨kq, x4_3, HA, HJ3, HO_4, BK187, HB⟩ := hcut
      cases kq with
      | zero => exact absurd HA.out (by simp [montageref31_Words.j0])
      | succ kj3 =>
        have H := HA.out
        clear HA
        simp only [montageref31_Words.j0] at H
        have HC16 := Aside0.mk H
        clear H
        have hcz17_0 : wc.cell? ⟨gb187, 0, none⟩ = some (.int .i64 a0_0) := (blk_cell BK187.out 0).trans rfl
        have hcz17_1 : wc.cell? ⟨gb187, 1, none⟩ = some (.bool a0_1) := (blk_cell BK187.out 1).trans rfl
        have hcz17_2 : wc.cell? ⟨gb187, 2, none⟩ = some (.bool a0_2) := (blk_cell BK187.out 2).trans rfl
        have hcz17_3 : wc.cell? ⟨gb187, 3, none⟩ = some (.bool a0_3) := (blk_cell BK187.out 3).trans rfl
        have hcz17_4 : wc.cell? ⟨gb187, 4, none⟩ = some (.int .i64 a0_4) := (blk_cell BK187.out 4).trans rfl
        have hfz17_0 := blk_frozen BK187.out 0
        have hfz17_1 := blk_frozen BK187.out 1
        have hfz17_2 := blk_frozen BK187.out 2
        have hfz17_3 := blk_frozen BK187.out 3
        have hfz17_4 := blk_frozen BK187.out 4
        go_upto_if 20 with (fail)
        go_cut [4] (fun v4 wc => ∃ (kq : Nat) (x4_15 : List ByteArray), Aside0 (montageref31_Words.j1 kq x4_15 a0_0 a0_1 a0_2 a0_3 a0_4 = some (r1, r2)) ∧ Aside0 (kq ≤ kj3) ∧ Aside0 (Kd.R Kd.string 9 wc w.heap.size (fun _ => True) v4 x4_15) ∧ Aside0 (wc.heap[gb187]? = some (.cells #[.int .i64 a0_0, .bool a0_1, .bool a0_2, .bool a0_3, .int .i64 a0_4] 58 (0, 0))) ∧ Aside0 (Below w.heap.size w wc))
        case first =>
          have H := HC16.out
          clear HC16
          by_cases c18 : a0_4 = 4194304
          · rw [if_pos c18] at H
            have c18b0 : (a0_4 == 4194304) = true := beq_iff_eq.mpr c18
            have c18b1 : (a0_4 != 4194304) = false := bne_eq_false_iff_eq.mpr c18
            clear c18
            (first | rw [c18b0] | (simp only [i64_w, i32_w]; rw [c18b0]) | skip)
            have H' := Aside0.mk H
            clear H
            go_wp2
            go_meet
            case rel => exact ⟨_, (x4_3), H', ⟨by have := HJ3.out; first | omega | exact Nat.le_refl _⟩, ⟨by (with_reducible repeat (first | apply Kd.R_alloc | apply Kd.R_drewN | apply Kd.R_drew)); exact HO_4.out⟩, ⟨by (with_reducible repeat (first | refine blk_drewN ?_ _ | refine blk_drew ?_ | refine blk_alloc ?_ _)); exact BK187.out⟩, ⟨by repeat (first | (with_reducible first | exact HB.out | apply below_alloc | apply pw_below_drewN | apply below_drew1 | refine below_set ?_ GE187.out) | exact HB.out)⟩⟩
          · rw [if_neg c18] at H
            have c18b0 : (a0_4 == 4194304) = false := beq_eq_false_iff_ne.mpr c18
            have c18b1 : (a0_4 != 4194304) = true := bne_iff_ne.mpr c18
            (first | rw [c18b0] | (simp only [i64_w, i32_w]; rw [c18b0]) | skip)
            replace H := Option.bind_eq_some_iff.mp H
            obtain ⟨t193, A190, H⟩ := H
            replace H : (if 5 + t193.size ≤ 9223372036854775807 then (if x4_3.length < 8796093022208 then (montageref31_Words.j1 kj3 (x4_3 ++ [(⟨#[109, 111, 115, 116, 61]⟩ : ByteArray) ++ t193]) a0_0 a0_1 a0_2 a0_3 a0_4) else (none)) else (none)) = some (r1, r2) := H
            have A19 := Aside0.mk A190
            clear A190
            by_cases c20 : 5 + t193.size ≤ 9223372036854775807
            · rw [if_pos c20] at H
              have c20b0 := eq_true c20
              have c20b1 : decide (5 + t193.size ≤ 9223372036854775807) = true := decide_eq_true c20
              try have c20b2 : (9223372036854775807 < 5 + t193.size) = False := eq_false (Nat.not_lt.2 c20)
              by_cases c21 : x4_3.length < 8796093022208
              · rw [if_pos c21] at H
                have LMc21 := Aside0.mk c21
                clear c21
                obtain ⟨y194, hy194⟩ : ∃ y_ : List ByteArray, y_ = (x4_3 ++ [(⟨#[109, 111, 115, 116, 61]⟩ : ByteArray) ++ t193]) := ⟨_, rfl⟩
                replace H : (montageref31_Words.j1 kj3 y194 a0_0 a0_1 a0_2 a0_3 a0_4) = some (r1, r2) := by first | (rw [hy194]; with_reducible exact H) | (have H2_ := (Option.bind_some _ _).symm.trans H; rw [hy194]; with_reducible exact H2_) | (have H2_ := (Option.bind_some _ _).symm.trans H; with_reducible exact H2_) | with_reducible exact H | (rw [hy194]; exact H) | exact H
                have Ny194 := Aside0.mk hy194
                clear hy194
                have H' := Aside0.mk H
                clear H
                have hcz22_0 : wc.cell? ⟨gb187, 0, none⟩ = some (.int .i64 a0_0) := (blk_cell BK187.out 0).trans rfl
                have hcz22_1 : wc.cell? ⟨gb187, 1, none⟩ = some (.bool a0_1) := (blk_cell BK187.out 1).trans rfl
                have hcz22_2 : wc.cell? ⟨gb187, 2, none⟩ = some (.bool a0_2) := (blk_cell BK187.out 2).trans rfl
                have hcz22_3 : wc.cell? ⟨gb187, 3, none⟩ = some (.bool a0_3) := (blk_cell BK187.out 3).trans rfl
                have hcz22_4 : wc.cell? ⟨gb187, 4, none⟩ = some (.int .i64 a0_4) := (blk_cell BK187.out 4).trans rfl
                have hfz22_0 := blk_frozen BK187.out 0
                have hfz22_1 := blk_frozen BK187.out 1
                have hfz22_2 := blk_frozen BK187.out 2
                have hfz22_3 := blk_frozen BK187.out 3
                have hfz22_4 := blk_frozen BK187.out 4
                go_wp2_with (first | ((with_reducible refine gate_callee (f := 99) rfl ?_); refine goesL_ (some 24) rfl rfl Tryd.func99 (by kernel_rfl) rfl #[.int .i64 a0_4] rfl (by (try simp only [List.map_toArray, List.map_cons, List.map_nil]); first | done | rfl | (simp only [List.length_drop, List.length_take]; rfl)) ?_; (with_reducible refine (montageref31_digits.calls kj3 a0_4 t193 _ A19.out).mono ?_); rintro e w23 ⟨rfl, hb⟩; refine ⟨_, rfl, ?_⟩; have n0_ := Aside0.mk (Kd.R_below (by (with_reducible repeat (first | apply Kd.R_alloc | apply Kd.R_drewN | apply Kd.R_drew)); exact HO_4.out) hb); have n1_ := Aside0.mk (blk_below (g := gb187) (o := .cells #[.int .i64 a0_0, .bool a0_1, .bool a0_2, .bool a0_3, .int .i64 a0_4] 58 (0, 0)) (by (with_reducible repeat (first | refine blk_drewN ?_ _ | refine blk_drew ?_ | refine blk_alloc ?_ _)); exact BK187.out) hb); have n2_ := Aside0.mk (below_step (by repeat (first | (with_reducible first | exact HB.out | apply below_alloc | apply pw_below_drewN | apply below_drew1 | refine below_set ?_ GE187.out) | exact HB.out)) hb); clear HO_4; clear BK187; clear HB; have HO_4 := n0_; have BK187 := n1_; have HB := n2_; clear n0_ n1_ n2_; (try clear hb); (try clear hb2); (try clear hk); (try clear hi)) | ((with_reducible refine gate_builtin (b := .append) (xs := #[.tmp 21, .tmp 26]) rfl ?_); at_builtin; refine Kd.R_append Kd.string (w0 := w) w.heap.size rfl (.tmp 21) (.tmp 26) 56 9 (.string ⟨#[]⟩) 16 rfl Tryd.underlying56 info9 rfl (by decide) (by omega) u4 x4_3 ((⟨#[109, 111, 115, 116, 61]⟩ : ByteArray) ++ t193) [.string ((⟨#[109, 111, 115, 116, 61]⟩ : ByteArray) ++ t193)] (fun _ => True) (fun _ => False) rfl rfl ?aP (fun _ hk => hk.elim) ?aF ?aO ?aB ?aS ?aL ?_; (case aP => exact rfl); (case aB => exact (by repeat (first | (with_reducible first | exact HB.out | apply below_alloc | apply pw_below_drewN | apply below_drew1 | refine below_set ?_ GE187.out) | exact HB.out))); (case aF => exact (fun _ _ => trivial)); (case aO => exact (by (with_reducible repeat (first | apply Kd.R_alloc | apply Kd.R_drewN | apply Kd.R_drew)); exact HO_4.out)); (case aS => exact (below_size (by repeat (first | (with_reducible first | exact HB.out | apply below_alloc | apply pw_below_drewN | apply below_drew1 | refine below_set ?_ GE187.out) | exact HB.out)))); (case aL => have := LMc21.out; omega); intro v195 w24 ho hb hg hat; rw [← Ny194.out] at ho; have n0_ := Aside0.mk (blk_grown (g := gb187) (o := .cells #[.int .i64 a0_0, .bool a0_1, .bool a0_2, .bool a0_3, .int .i64 a0_4] 58 (0, 0)) (by (with_reducible repeat (first | refine blk_drewN ?_ _ | refine blk_drew ?_ | refine blk_alloc ?_ _)); exact BK187.out) hg (Kd.R_ne HO_4.out BK187.out (by decide))); have n1_ := Aside0.mk (hb); have n2_ := Aside0.mk (ho); clear BK187; clear HB; clear HO_4; have BK187 := n0_; have HB := n1_; have HO196 := n2_; clear n0_ n1_ n2_; clear ho hb hg hat))
                go_meet
                case rel => exact ⟨_, (y194), H', ⟨by have := HJ3.out; first | omega | exact Nat.le_refl _⟩, ⟨by (with_reducible repeat (first | apply Kd.R_alloc | apply Kd.R_drewN | apply Kd.R_drew)); exact HO196.out⟩, ⟨by (with_reducible repeat (first | refine blk_drewN ?_ _ | refine blk_drew ?_ | refine blk_alloc ?_ _)); exact BK187.out⟩, ⟨by repeat (first | (with_reducible first | exact HB.out | apply below_alloc | apply pw_below_drewN | apply below_drew1 | refine below_set ?_ GE187.out) | exact HB.out)⟩⟩
              · rw [if_neg c21] at H
                exact absurd H (by simp)
            · rw [if_neg c20] at H
              exact absurd H (by simp)
        case rest =>
          clear HC16
          try clear c1
          try clear c2
          try clear p2
          try clear c3
          try clear c4
          try clear c9
          try clear c9b0
          try clear c9b1
          try clear c11
          try clear c11b0
          try clear c11b1
          try clear c11b2
          try clear c12
          try clear c18
          try clear c18b0
          try clear c18b1
          try clear c20
          try clear c20b0
          try clear c20b1
          try clear c20b2
          try clear c21
          try clear hcz13_0
          try clear hcz13_1
          try clear hcz13_2
          try clear hcz13_3
          try clear hcz13_4
          try clear hcz17_0
          try clear hcz17_1
          try clear hcz17_2
          try clear hcz17_3
          try clear hcz17_4
          try clear hcz22_0
          try clear hcz22_1
          try clear hcz22_2
          try clear hcz22_3
          try clear hcz22_4
          try clear hcz6_0
          try clear hcz6_1
          try clear hcz6_2
          try clear hcz6_3
          try clear hcz6_4
          try clear hcz8_0
          try clear hcz8_1
          try clear hcz8_2
          try clear hcz8_3
          try clear hcz8_4
          try clear hfz13_0
          try clear hfz13_1
          try clear hfz13_2
          try clear hfz13_3
          try clear hfz13_4
          try clear hfz17_0
          try clear hfz17_1
          try clear hfz17_2
          try clear hfz17_3
          try clear hfz17_4
          try clear hfz22_0
          try clear hfz22_1
          try clear hfz22_2
          try clear hfz22_3
          try clear hfz22_4
          try clear hfz6_0
          try clear hfz6_1
          try clear hfz6_2
          try clear hfz6_3
          try clear hfz6_4
          try clear hfz8_0
          try clear hfz8_1
          try clear hfz8_2
          try clear hfz8_3
          try clear hfz8_4
          try clear p2
          obtain ⟨kq, x4_15, HA, HJ15, HO_4, BK187, HB⟩ := hcut
          cases kq with
          | zero => exact absurd HA.out (by simp [montageref31_Words.j1])
          | succ kj15 =>
            have H := HA.out
            clear HA
            simp only [montageref31_Words.j1] at H
            have HC25 := Aside0.mk H
            clear H
            have hcz26_0 : wc.cell? ⟨gb187, 0, none⟩ = some (.int .i64 a0_0) := (blk_cell BK187.out 0).trans rfl
            have hcz26_1 : wc.cell? ⟨gb187, 1, none⟩ = some (.bool a0_1) := (blk_cell BK187.out 1).trans rfl
            have hcz26_2 : wc.cell? ⟨gb187, 2, none⟩ = some (.bool a0_2) := (blk_cell BK187.out 2).trans rfl
            have hcz26_3 : wc.cell? ⟨gb187, 3, none⟩ = some (.bool a0_3) := (blk_cell BK187.out 3).trans rfl
            have hcz26_4 : wc.cell? ⟨gb187, 4, none⟩ = some (.int .i64 a0_4) := (blk_cell BK187.out 4).trans rfl
            have hfz26_0 := blk_frozen BK187.out 0
            have hfz26_1 := blk_frozen BK187.out 1
            have hfz26_2 := blk_frozen BK187.out 2
            have hfz26_3 := blk_frozen BK187.out 3
            have hfz26_4 := blk_frozen BK187.out 4
            go_upto_if 29 with (fail)
            go_cut [4] (fun v4 wc => ∃ (kq : Nat) (x4_24 : List ByteArray), Aside0 (montageref31_Words.j2 kq x4_24 a0_0 a0_1 a0_2 a0_3 a0_4 = some (r1, r2)) ∧ Aside0 (kq ≤ kj15) ∧ Aside0 (Kd.R Kd.string 9 wc w.heap.size (fun _ => True) v4 x4_24) ∧ Aside0 (wc.heap[gb187]? = some (.cells #[.int .i64 a0_0, .bool a0_1, .bool a0_2, .bool a0_3, .int .i64 a0_4] 58 (0, 0))) ∧ Aside0 (Below w.heap.size w wc))
            case first =>
              have H := HC25.out
              clear HC25
              by_cases c27 : a0_1 = true
              · subst c27
                have H1 : (if x4_15.length < 8796093022208 then (montageref31_Words.j2 kj15 (x4_15 ++ [(⟨#[114, 101, 117, 115, 101]⟩ : ByteArray)]) a0_0 true a0_2 a0_3 a0_4) else (none)) = some (r1, r2) := by rw [if_pos rfl] at H; exact H
                clear H
                have H := H1
                clear H1
                by_cases c28 : x4_15.length < 8796093022208
                · rw [if_pos c28] at H
                  have LMc28 := Aside0.mk c28
                  clear c28
                  obtain ⟨y197, hy197⟩ : ∃ y_ : List ByteArray, y_ = (x4_15 ++ [(⟨#[114, 101, 117, 115, 101]⟩ : ByteArray)]) := ⟨_, rfl⟩
                  replace H : (montageref31_Words.j2 kj15 y197 a0_0 true a0_2 a0_3 a0_4) = some (r1, r2) := by first | (rw [hy197]; with_reducible exact H) | (have H2_ := (Option.bind_some _ _).symm.trans H; rw [hy197]; with_reducible exact H2_) | (have H2_ := (Option.bind_some _ _).symm.trans H; with_reducible exact H2_) | with_reducible exact H | (rw [hy197]; exact H) | exact H
                  have Ny197 := Aside0.mk hy197
                  clear hy197
                  have H' := Aside0.mk H
                  clear H
                  go_wp2_with (first | ((with_reducible refine gate_builtin (b := .append) (xs := #[.tmp 30, .tmp 31]) rfl ?_); at_builtin; refine Kd.R_append Kd.string (w0 := w) w.heap.size rfl (.tmp 30) (.tmp 31) 56 9 (.string ⟨#[]⟩) 16 rfl Tryd.underlying56 info9 rfl (by decide) (by omega) u4 x4_15 (⟨#[114, 101, 117, 115, 101]⟩ : ByteArray) [.string (⟨#[114, 101, 117, 115, 101]⟩ : ByteArray)] (fun _ => True) (fun _ => False) rfl rfl ?aP (fun _ hk => hk.elim) ?aF ?aO ?aB ?aS ?aL ?_; (case aP => exact rfl); (case aB => exact (by repeat (first | (with_reducible first | exact HB.out | apply below_alloc | apply pw_below_drewN | apply below_drew1 | refine below_set ?_ GE187.out) | exact HB.out))); (case aF => exact (fun _ _ => trivial)); (case aO => exact (by (with_reducible repeat (first | apply Kd.R_alloc | apply Kd.R_drewN | apply Kd.R_drew)); exact HO_4.out)); (case aS => exact (below_size (by repeat (first | (with_reducible first | exact HB.out | apply below_alloc | apply pw_below_drewN | apply below_drew1 | refine below_set ?_ GE187.out) | exact HB.out)))); (case aL => have := LMc28.out; omega); intro v198 w29 ho hb hg hat; rw [← Ny197.out] at ho; have n0_ := Aside0.mk (blk_grown (g := gb187) (o := .cells #[.int .i64 a0_0, .bool true, .bool a0_2, .bool a0_3, .int .i64 a0_4] 58 (0, 0)) (by (with_reducible repeat (first | refine blk_drewN ?_ _ | refine blk_drew ?_ | refine blk_alloc ?_ _)); exact BK187.out) hg (Kd.R_ne HO_4.out BK187.out (by decide))); have n1_ := Aside0.mk (hb); have n2_ := Aside0.mk (ho); clear BK187; clear HB; clear HO_4; have BK187 := n0_; have HB := n1_; have HO199 := n2_; clear n0_ n1_ n2_; clear ho hb hg hat))
                  go_meet
                  case rel => exact ⟨_, (y197), H', ⟨by have := HJ3.out; have := HJ15.out; first | omega | exact Nat.le_refl _⟩, ⟨by (with_reducible repeat (first | apply Kd.R_alloc | apply Kd.R_drewN | apply Kd.R_drew)); exact HO199.out⟩, ⟨by (with_reducible repeat (first | refine blk_drewN ?_ _ | refine blk_drew ?_ | refine blk_alloc ?_ _)); exact BK187.out⟩, ⟨by repeat (first | (with_reducible first | exact HB.out | apply below_alloc | apply pw_below_drewN | apply below_drew1 | refine below_set ?_ GE187.out) | exact HB.out)⟩⟩
                · rw [if_neg c28] at H
                  exact absurd H (by simp)
              · replace c27 := Bool.eq_false_iff.mpr c27
                subst c27
                have H1 : (montageref31_Words.j2 kj15 x4_15 a0_0 false a0_2 a0_3 a0_4) = some (r1, r2) := by rw [if_neg (show ¬ (false = true) by decide)] at H; exact H
                clear H
                have H := H1
                clear H1
                have H' := Aside0.mk H
                clear H
                go_wp2
                go_meet
                case rel => exact ⟨_, (x4_15), H', ⟨by have := HJ3.out; have := HJ15.out; first | omega | exact Nat.le_refl _⟩, ⟨by (with_reducible repeat (first | apply Kd.R_alloc | apply Kd.R_drewN | apply Kd.R_drew)); exact HO_4.out⟩, ⟨by (with_reducible repeat (first | refine blk_drewN ?_ _ | refine blk_drew ?_ | refine blk_alloc ?_ _)); exact BK187.out⟩, ⟨by repeat (first | (with_reducible first | exact HB.out | apply below_alloc | apply pw_below_drewN | apply below_drew1 | refine below_set ?_ GE187.out) | exact HB.out)⟩⟩
            case rest =>
              clear HC25
              try clear c1
              try clear c2
              try clear p2
              try clear c3
              try clear c4
              try clear c9
              try clear c9b0
              try clear c9b1
              try clear c11
              try clear c11b0
              try clear c11b1
              try clear c11b2
              try clear c12
              try clear c18
              try clear c18b0
              try clear c18b1
              try clear c20
              try clear c20b0
              try clear c20b1
              try clear c20b2
              try clear c21
              try clear c27
              try clear c28
              try clear hcz13_0
              try clear hcz13_1
              try clear hcz13_2
              try clear hcz13_3
              try clear hcz13_4
              try clear hcz17_0
              try clear hcz17_1
              try clear hcz17_2
              try clear hcz17_3
              try clear hcz17_4
              try clear hcz22_0
              try clear hcz22_1
              try clear hcz22_2
              try clear hcz22_3
              try clear hcz22_4
              try clear hcz26_0
              try clear hcz26_1
              try clear hcz26_2
              try clear hcz26_3
              try clear hcz26_4
              try clear hcz6_0
              try clear hcz6_1
              try clear hcz6_2
              try clear hcz6_3
              try clear hcz6_4
              try clear hcz8_0
              try clear hcz8_1
              try clear hcz8_2
              try clear hcz8_3
              try clear hcz8_4
              try clear hfz13_0
              try clear hfz13_1
              try clear hfz13_2
              try clear hfz13_3
              try clear hfz13_4
              try clear hfz17_0
              try clear hfz17_1
              try clear hfz17_2
              try clear hfz17_3
              try clear hfz17_4
              try clear hfz22_0
              try clear hfz22_1
              try clear hfz22_2
              try clear hfz22_3
              try clear hfz22_4
              try clear hfz26_0
              try clear hfz26_1
              try clear hfz26_2
              try clear hfz26_3
              try clear hfz26_4
              try clear hfz6_0
              try clear hfz6_1
              try clear hfz6_2
              try clear hfz6_3
              try clear hfz6_4
              try clear hfz8_0
              try clear hfz8_1
              try clear hfz8_2
              try clear hfz8_3
              try clear hfz8_4
              try clear p2
              obtain ⟨kq, x4_24, HA, HJ24, HO_4, BK187, HB⟩ := hcut
              cases kq with
              | zero => exact absurd HA.out (by simp [montageref31_Words.j2])
              | succ kj24 =>
                have H := HA.out
                clear HA
                simp only [montageref31_Words.j2] at H
                by_cases c30 : a0_2 = true
                · subst c30
                  have H1 : (if x4_24.length < 8796093022208 then ((some (x4_24 ++ [(⟨#[115, 104, 97, 114, 101]⟩ : ByteArray)] : List ByteArray)).bind fun y200 => (if a0_3 = true then (if y200.length < 8796093022208 then (some ((y200 ++ [(⟨#[119, 105, 100, 101]⟩ : ByteArray)]), 0)) else (none)) else (some (y200, 0)))) else (none)) = some (r1, r2) := by rw [if_pos rfl] at H; exact H
                  clear H
                  have H := H1
                  clear H1
                  by_cases c31 : x4_24.length < 8796093022208
                  · rw [if_pos c31] at H
                    have LMc31 := Aside0.mk c31
                    clear c31
                    obtain ⟨y200, hy200⟩ : ∃ y_ : List ByteArray, y_ = (x4_24 ++ [(⟨#[115, 104, 97, 114, 101]⟩ : ByteArray)]) := ⟨_, rfl⟩
                    replace H : (if a0_3 = true then (if y200.length < 8796093022208 then (some ((y200 ++ [(⟨#[119, 105, 100, 101]⟩ : ByteArray)]), 0)) else (none)) else (some (y200, 0))) = some (r1, r2) := by first | (rw [hy200]; with_reducible exact H) | (have H2_ := (Option.bind_some _ _).symm.trans H; rw [hy200]; with_reducible exact H2_) | (have H2_ := (Option.bind_some _ _).symm.trans H; with_reducible exact H2_) | with_reducible exact H | (rw [hy200]; exact H) | exact H
                    have Ny200 := Aside0.mk hy200
                    clear hy200
                    by_cases c32 : a0_3 = true
                    · subst c32
                      have H1 : (if y200.length < 8796093022208 then (some ((y200 ++ [(⟨#[119, 105, 100, 101]⟩ : ByteArray)]), 0)) else (none)) = some (r1, r2) := by rw [if_pos rfl] at H; exact H
                      clear H
                      have H := H1
                      clear H1
                      by_cases c33 : y200.length < 8796093022208
                      · rw [if_pos c33] at H
                        have LMc33 := Aside0.mk c33
                        clear c33
                        obtain ⟨y203, hy203⟩ : ∃ y_ : List ByteArray, y_ = (y200 ++ [(⟨#[119, 105, 100, 101]⟩ : ByteArray)]) := ⟨_, rfl⟩
                        replace H : (some (y203, 0)) = some (r1, r2) := by first | (rw [hy203]; with_reducible exact H) | (have H2_ := (Option.bind_some _ _).symm.trans H; rw [hy203]; with_reducible exact H2_) | (have H2_ := (Option.bind_some _ _).symm.trans H; with_reducible exact H2_) | with_reducible exact H | (rw [hy203]; exact H) | exact H
                        have Ny203 := Aside0.mk hy203
                        clear hy203
                        simp only [Option.some.injEq, Prod.mk.injEq] at H
                        obtain ⟨rfl, rfl⟩ := H
                        have hcz34_0 : wc.cell? ⟨gb187, 0, none⟩ = some (.int .i64 a0_0) := (blk_cell BK187.out 0).trans rfl
                        have hcz34_1 : wc.cell? ⟨gb187, 1, none⟩ = some (.bool a0_1) := (blk_cell BK187.out 1).trans rfl
                        have hcz34_2 : wc.cell? ⟨gb187, 2, none⟩ = some (.bool true) := (blk_cell BK187.out 2).trans rfl
                        have hcz34_3 : wc.cell? ⟨gb187, 3, none⟩ = some (.bool true) := (blk_cell BK187.out 3).trans rfl
                        have hcz34_4 : wc.cell? ⟨gb187, 4, none⟩ = some (.int .i64 a0_4) := (blk_cell BK187.out 4).trans rfl
                        have hfz34_0 := blk_frozen BK187.out 0
                        have hfz34_1 := blk_frozen BK187.out 1
                        have hfz34_2 := blk_frozen BK187.out 2
                        have hfz34_3 := blk_frozen BK187.out 3
                        have hfz34_4 := blk_frozen BK187.out 4
                        go_wp2_with (first | ((with_reducible refine gate_builtin (b := .append) (xs := #[.tmp 35, .tmp 36]) rfl ?_); at_builtin; refine Kd.R_append Kd.string (w0 := w) w.heap.size rfl (.tmp 35) (.tmp 36) 56 9 (.string ⟨#[]⟩) 16 rfl Tryd.underlying56 info9 rfl (by decide) (by omega) u4 x4_24 (⟨#[115, 104, 97, 114, 101]⟩ : ByteArray) [.string (⟨#[115, 104, 97, 114, 101]⟩ : ByteArray)] (fun _ => True) (fun _ => False) rfl rfl ?aP (fun _ hk => hk.elim) ?aF ?aO ?aB ?aS ?aL ?_; (case aP => exact rfl); (case aB => exact (by repeat (first | (with_reducible first | exact HB.out | apply below_alloc | apply pw_below_drewN | apply below_drew1 | refine below_set ?_ GE187.out) | exact HB.out))); (case aF => exact (fun _ _ => trivial)); (case aO => exact (by (with_reducible repeat (first | apply Kd.R_alloc | apply Kd.R_drewN | apply Kd.R_drew)); exact HO_4.out)); (case aS => exact (below_size (by repeat (first | (with_reducible first | exact HB.out | apply below_alloc | apply pw_below_drewN | apply below_drew1 | refine below_set ?_ GE187.out) | exact HB.out)))); (case aL => have := LMc31.out; omega); intro v201 w35 ho hb hg hat; rw [← Ny200.out] at ho; have n0_ := Aside0.mk (blk_grown (g := gb187) (o := .cells #[.int .i64 a0_0, .bool a0_1, .bool true, .bool true, .int .i64 a0_4] 58 (0, 0)) (by (with_reducible repeat (first | refine blk_drewN ?_ _ | refine blk_drew ?_ | refine blk_alloc ?_ _)); exact BK187.out) hg (Kd.R_ne HO_4.out BK187.out (by decide))); have n1_ := Aside0.mk (hb); have n2_ := Aside0.mk (ho); clear BK187; clear HB; clear HO_4; have BK187 := n0_; have HB := n1_; have HO202 := n2_; clear n0_ n1_ n2_; clear ho hb hg hat; have hcz36_0 : w35.cell? ⟨gb187, 0, none⟩ = some (.int .i64 a0_0) := (blk_cell BK187.out 0).trans rfl; have hcz36_1 : w35.cell? ⟨gb187, 1, none⟩ = some (.bool a0_1) := (blk_cell BK187.out 1).trans rfl; have hcz36_2 : w35.cell? ⟨gb187, 2, none⟩ = some (.bool true) := (blk_cell BK187.out 2).trans rfl; have hcz36_3 : w35.cell? ⟨gb187, 3, none⟩ = some (.bool true) := (blk_cell BK187.out 3).trans rfl; have hcz36_4 : w35.cell? ⟨gb187, 4, none⟩ = some (.int .i64 a0_4) := (blk_cell BK187.out 4).trans rfl; have hfz36_0 := blk_frozen BK187.out 0; have hfz36_1 := blk_frozen BK187.out 1; have hfz36_2 := blk_frozen BK187.out 2; have hfz36_3 := blk_frozen BK187.out 3; have hfz36_4 := blk_frozen BK187.out 4) | ((with_reducible refine gate_builtin (b := .append) (xs := #[.tmp 40, .tmp 41]) rfl ?_); at_builtin; refine Kd.R_append Kd.string (w0 := w) w.heap.size rfl (.tmp 40) (.tmp 41) 56 9 (.string ⟨#[]⟩) 16 rfl Tryd.underlying56 info9 rfl (by decide) (by omega) v201 y200 (⟨#[119, 105, 100, 101]⟩ : ByteArray) [.string (⟨#[119, 105, 100, 101]⟩ : ByteArray)] (fun _ => True) (fun _ => False) rfl rfl ?aP (fun _ hk => hk.elim) ?aF ?aO ?aB ?aS ?aL ?_; (case aP => exact rfl); (case aB => exact (by repeat (first | (with_reducible first | exact HB.out | apply below_alloc | apply pw_below_drewN | apply below_drew1 | refine below_set ?_ GE187.out) | exact HB.out))); (case aF => exact (fun _ _ => trivial)); (case aO => exact (by (with_reducible repeat (first | apply Kd.R_alloc | apply Kd.R_drewN | apply Kd.R_drew)); exact HO202.out)); (case aS => exact (below_size (by repeat (first | (with_reducible first | exact HB.out | apply below_alloc | apply pw_below_drewN | apply below_drew1 | refine below_set ?_ GE187.out) | exact HB.out)))); (case aL => have := LMc33.out; omega); intro v204 w37 ho hb hg hat; rw [← Ny203.out] at ho; have n0_ := Aside0.mk (blk_grown (g := gb187) (o := .cells #[.int .i64 a0_0, .bool a0_1, .bool true, .bool true, .int .i64 a0_4] 58 (0, 0)) (by (with_reducible repeat (first | refine blk_drewN ?_ _ | refine blk_drew ?_ | refine blk_alloc ?_ _)); exact BK187.out) hg (Kd.R_ne HO202.out BK187.out (by decide))); have n1_ := Aside0.mk (hb); have n2_ := Aside0.mk (ho); clear BK187; clear HB; clear HO202; have BK187 := n0_; have HB := n1_; have HO205 := n2_; clear n0_ n1_ n2_; clear ho hb hg hat))
                        go_ret2
                        exact ⟨_, by first | rfl | (simp [errW_none, errW_some] <;> rfl) | (simp [*, errW_none, errW_some] <;> rfl), by (with_reducible repeat (first | apply Kd.R_alloc | apply Kd.R_drewN | apply Kd.R_drew)); exact HO205.out, by repeat (first | (with_reducible first | exact HB.out | apply below_alloc | apply pw_below_drewN | apply below_drew1 | refine below_set ?_ GE187.out) | exact HB.out)⟩
                      · rw [if_neg c33] at H
                        exact absurd H (by simp)
                    · replace c32 := Bool.eq_false_iff.mpr c32
                      subst c32
                      have H1 : (some (y200, 0)) = some (r1, r2) := by rw [if_neg (show ¬ (false = true) by decide)] at H; exact H
                      clear H
                      have H := H1
                      clear H1
                      simp only [Option.some.injEq, Prod.mk.injEq] at H
                      obtain ⟨rfl, rfl⟩ := H
                      have hcz38_0 : wc.cell? ⟨gb187, 0, none⟩ = some (.int .i64 a0_0) := (blk_cell BK187.out 0).trans rfl
                      have hcz38_1 : wc.cell? ⟨gb187, 1, none⟩ = some (.bool a0_1) := (blk_cell BK187.out 1).trans rfl
                      have hcz38_2 : wc.cell? ⟨gb187, 2, none⟩ = some (.bool true) := (blk_cell BK187.out 2).trans rfl
                      have hcz38_3 : wc.cell? ⟨gb187, 3, none⟩ = some (.bool false) := (blk_cell BK187.out 3).trans rfl
                      have hcz38_4 : wc.cell? ⟨gb187, 4, none⟩ = some (.int .i64 a0_4) := (blk_cell BK187.out 4).trans rfl
                      have hfz38_0 := blk_frozen BK187.out 0
                      have hfz38_1 := blk_frozen BK187.out 1
                      have hfz38_2 := blk_frozen BK187.out 2
                      have hfz38_3 := blk_frozen BK187.out 3
                      have hfz38_4 := blk_frozen BK187.out 4
                      go_wp2_with (first | ((with_reducible refine gate_builtin (b := .append) (xs := #[.tmp 35, .tmp 36]) rfl ?_); at_builtin; refine Kd.R_append Kd.string (w0 := w) w.heap.size rfl (.tmp 35) (.tmp 36) 56 9 (.string ⟨#[]⟩) 16 rfl Tryd.underlying56 info9 rfl (by decide) (by omega) u4 x4_24 (⟨#[115, 104, 97, 114, 101]⟩ : ByteArray) [.string (⟨#[115, 104, 97, 114, 101]⟩ : ByteArray)] (fun _ => True) (fun _ => False) rfl rfl ?aP (fun _ hk => hk.elim) ?aF ?aO ?aB ?aS ?aL ?_; (case aP => exact rfl); (case aB => exact (by repeat (first | (with_reducible first | exact HB.out | apply below_alloc | apply pw_below_drewN | apply below_drew1 | refine below_set ?_ GE187.out) | exact HB.out))); (case aF => exact (fun _ _ => trivial)); (case aO => exact (by (with_reducible repeat (first | apply Kd.R_alloc | apply Kd.R_drewN | apply Kd.R_drew)); exact HO_4.out)); (case aS => exact (below_size (by repeat (first | (with_reducible first | exact HB.out | apply below_alloc | apply pw_below_drewN | apply below_drew1 | refine below_set ?_ GE187.out) | exact HB.out)))); (case aL => have := LMc31.out; omega); intro v201 w39 ho hb hg hat; rw [← Ny200.out] at ho; have n0_ := Aside0.mk (blk_grown (g := gb187) (o := .cells #[.int .i64 a0_0, .bool a0_1, .bool true, .bool false, .int .i64 a0_4] 58 (0, 0)) (by (with_reducible repeat (first | refine blk_drewN ?_ _ | refine blk_drew ?_ | refine blk_alloc ?_ _)); exact BK187.out) hg (Kd.R_ne HO_4.out BK187.out (by decide))); have n1_ := Aside0.mk (hb); have n2_ := Aside0.mk (ho); clear BK187; clear HB; clear HO_4; have BK187 := n0_; have HB := n1_; have HO202 := n2_; clear n0_ n1_ n2_; clear ho hb hg hat; have hcz40_0 : w39.cell? ⟨gb187, 0, none⟩ = some (.int .i64 a0_0) := (blk_cell BK187.out 0).trans rfl; have hcz40_1 : w39.cell? ⟨gb187, 1, none⟩ = some (.bool a0_1) := (blk_cell BK187.out 1).trans rfl; have hcz40_2 : w39.cell? ⟨gb187, 2, none⟩ = some (.bool true) := (blk_cell BK187.out 2).trans rfl; have hcz40_3 : w39.cell? ⟨gb187, 3, none⟩ = some (.bool false) := (blk_cell BK187.out 3).trans rfl; have hcz40_4 : w39.cell? ⟨gb187, 4, none⟩ = some (.int .i64 a0_4) := (blk_cell BK187.out 4).trans rfl; have hfz40_0 := blk_frozen BK187.out 0; have hfz40_1 := blk_frozen BK187.out 1; have hfz40_2 := blk_frozen BK187.out 2; have hfz40_3 := blk_frozen BK187.out 3; have hfz40_4 := blk_frozen BK187.out 4))
                      go_ret2
                      exact ⟨_, by first | rfl | (simp [errW_none, errW_some] <;> rfl) | (simp [*, errW_none, errW_some] <;> rfl), by (with_reducible repeat (first | apply Kd.R_alloc | apply Kd.R_drewN | apply Kd.R_drew)); exact HO202.out, by repeat (first | (with_reducible first | exact HB.out | apply below_alloc | apply pw_below_drewN | apply below_drew1 | refine below_set ?_ GE187.out) | exact HB.out)⟩
                  · rw [if_neg c31] at H
                    exact absurd H (by simp)
                · replace c30 := Bool.eq_false_iff.mpr c30
                  subst c30
                  have H1 : (if a0_3 = true then (if x4_24.length < 8796093022208 then (some ((x4_24 ++ [(⟨#[119, 105, 100, 101]⟩ : ByteArray)]), 0)) else (none)) else (some (x4_24, 0))) = some (r1, r2) := by rw [if_neg (show ¬ (false = true) by decide)] at H; exact H
                  clear H
                  have H := H1
                  clear H1
                  by_cases c41 : a0_3 = true
                  · subst c41
                    have H1 : (if x4_24.length < 8796093022208 then (some ((x4_24 ++ [(⟨#[119, 105, 100, 101]⟩ : ByteArray)]), 0)) else (none)) = some (r1, r2) := by rw [if_pos rfl] at H; exact H
                    clear H
                    have H := H1
                    clear H1
                    by_cases c42 : x4_24.length < 8796093022208
                    · rw [if_pos c42] at H
                      have LMc42 := Aside0.mk c42
                      clear c42
                      obtain ⟨y206, hy206⟩ : ∃ y_ : List ByteArray, y_ = (x4_24 ++ [(⟨#[119, 105, 100, 101]⟩ : ByteArray)]) := ⟨_, rfl⟩
                      replace H : (some (y206, 0)) = some (r1, r2) := by first | (rw [hy206]; with_reducible exact H) | (have H2_ := (Option.bind_some _ _).symm.trans H; rw [hy206]; with_reducible exact H2_) | (have H2_ := (Option.bind_some _ _).symm.trans H; with_reducible exact H2_) | with_reducible exact H | (rw [hy206]; exact H) | exact H
                      have Ny206 := Aside0.mk hy206
                      clear hy206
                      simp only [Option.some.injEq, Prod.mk.injEq] at H
                      obtain ⟨rfl, rfl⟩ := H
                      have hcz43_0 : wc.cell? ⟨gb187, 0, none⟩ = some (.int .i64 a0_0) := (blk_cell BK187.out 0).trans rfl
                      have hcz43_1 : wc.cell? ⟨gb187, 1, none⟩ = some (.bool a0_1) := (blk_cell BK187.out 1).trans rfl
                      have hcz43_2 : wc.cell? ⟨gb187, 2, none⟩ = some (.bool false) := (blk_cell BK187.out 2).trans rfl
                      have hcz43_3 : wc.cell? ⟨gb187, 3, none⟩ = some (.bool true) := (blk_cell BK187.out 3).trans rfl
                      have hcz43_4 : wc.cell? ⟨gb187, 4, none⟩ = some (.int .i64 a0_4) := (blk_cell BK187.out 4).trans rfl
                      have hfz43_0 := blk_frozen BK187.out 0
                      have hfz43_1 := blk_frozen BK187.out 1
                      have hfz43_2 := blk_frozen BK187.out 2
                      have hfz43_3 := blk_frozen BK187.out 3
                      have hfz43_4 := blk_frozen BK187.out 4
                      go_wp2_with (first | ((with_reducible refine gate_builtin (b := .append) (xs := #[.tmp 40, .tmp 41]) rfl ?_); at_builtin; refine Kd.R_append Kd.string (w0 := w) w.heap.size rfl (.tmp 40) (.tmp 41) 56 9 (.string ⟨#[]⟩) 16 rfl Tryd.underlying56 info9 rfl (by decide) (by omega) u4 x4_24 (⟨#[119, 105, 100, 101]⟩ : ByteArray) [.string (⟨#[119, 105, 100, 101]⟩ : ByteArray)] (fun _ => True) (fun _ => False) rfl rfl ?aP (fun _ hk => hk.elim) ?aF ?aO ?aB ?aS ?aL ?_; (case aP => exact rfl); (case aB => exact (by repeat (first | (with_reducible first | exact HB.out | apply below_alloc | apply pw_below_drewN | apply below_drew1 | refine below_set ?_ GE187.out) | exact HB.out))); (case aF => exact (fun _ _ => trivial)); (case aO => exact (by (with_reducible repeat (first | apply Kd.R_alloc | apply Kd.R_drewN | apply Kd.R_drew)); exact HO_4.out)); (case aS => exact (below_size (by repeat (first | (with_reducible first | exact HB.out | apply below_alloc | apply pw_below_drewN | apply below_drew1 | refine below_set ?_ GE187.out) | exact HB.out)))); (case aL => have := LMc42.out; omega); intro v207 w44 ho hb hg hat; rw [← Ny206.out] at ho; have n0_ := Aside0.mk (blk_grown (g := gb187) (o := .cells #[.int .i64 a0_0, .bool a0_1, .bool false, .bool true, .int .i64 a0_4] 58 (0, 0)) (by (with_reducible repeat (first | refine blk_drewN ?_ _ | refine blk_drew ?_ | refine blk_alloc ?_ _)); exact BK187.out) hg (Kd.R_ne HO_4.out BK187.out (by decide))); have n1_ := Aside0.mk (hb); have n2_ := Aside0.mk (ho); clear BK187; clear HB; clear HO_4; have BK187 := n0_; have HB := n1_; have HO208 := n2_; clear n0_ n1_ n2_; clear ho hb hg hat))
                      go_ret2
                      exact ⟨_, by first | rfl | (simp [errW_none, errW_some] <;> rfl) | (simp [*, errW_none, errW_some] <;> rfl), by (with_reducible repeat (first | apply Kd.R_alloc | apply Kd.R_drewN | apply Kd.R_drew)); exact HO208.out, by repeat (first | (with_reducible first | exact HB.out | apply below_alloc | apply pw_below_drewN | apply below_drew1 | refine below_set ?_ GE187.out) | exact HB.out)⟩
                    · rw [if_neg c42] at H
                      exact absurd H (by simp)
                  · replace c41 := Bool.eq_false_iff.mpr c41
                    subst c41
                    have H1 : (some (x4_24, 0)) = some (r1, r2) := by rw [if_neg (show ¬ (false = true) by decide)] at H; exact H
                    clear H
                    have H := H1
                    clear H1
                    simp only [Option.some.injEq, Prod.mk.injEq] at H
                    obtain ⟨rfl, rfl⟩ := H
                    have hcz45_0 : wc.cell? ⟨gb187, 0, none⟩ = some (.int .i64 a0_0) := (blk_cell BK187.out 0).trans rfl
                    have hcz45_1 : wc.cell? ⟨gb187, 1, none⟩ = some (.bool a0_1) := (blk_cell BK187.out 1).trans rfl
                    have hcz45_2 : wc.cell? ⟨gb187, 2, none⟩ = some (.bool false) := (blk_cell BK187.out 2).trans rfl
                    have hcz45_3 : wc.cell? ⟨gb187, 3, none⟩ = some (.bool false) := (blk_cell BK187.out 3).trans rfl
                    have hcz45_4 : wc.cell? ⟨gb187, 4, none⟩ = some (.int .i64 a0_4) := (blk_cell BK187.out 4).trans rfl
                    have hfz45_0 := blk_frozen BK187.out 0
                    have hfz45_1 := blk_frozen BK187.out 1
                    have hfz45_2 := blk_frozen BK187.out 2
                    have hfz45_3 := blk_frozen BK187.out 3
                    have hfz45_4 := blk_frozen BK187.out 4
                    go_wp2
                    go_ret2
                    exact ⟨_, by first | rfl | (simp [errW_none, errW_some] <;> rfl) | (simp [*, errW_none, errW_some] <;> rfl), by (with_reducible repeat (first | apply Kd.R_alloc | apply Kd.R_drewN | apply Kd.R_drew)); exact HO_4.out, by repeat (first | (with_reducible first | exact HB.out | apply below_alloc | apply pw_below_drewN | apply below_drew1 | refine below_set ?_ GE187.out) | exact HB.out)⟩
  · replace c3 := Bool.eq_false_iff.mpr c3
    subst c3
    have H1 : (some (([] : List ByteArray), 1)) = some (r1, r2) := by rw [if_neg (show ¬ (false = true) by decide)] at H; exact H
    clear H
    have H := H1
    clear H1
    simp only [Option.some.injEq, Prod.mk.injEq] at H
    obtain ⟨rfl, rfl⟩ := H
    go_enter Tryd.func48, Tryd.ntmps48
    go_wp2_with (first | ((with_reducible refine gate_dst (N := 1) rfl ?_); refine box_event ?hg (N := 1) ?hd (cs := #[.int .i64 a0_0, .bool a0_1, .bool a0_2, .bool a0_3, .int .i64 a0_4]) (t := 58) ?hr ?_; (case hd => rfl); (case hg => rfl); (case hr => first | (go_simp; done) | (go_simp; rfl)); intro gb187 hg w46 hbox hb; have n0_ := Aside0.mk (below_step (by repeat (first | (with_reducible first | exact HB.out | apply below_alloc | apply pw_below_drewN | apply below_drew1) | exact HB.out)) hb); have n1_ := Aside0.mk (hbox); have n2_ := Aside0.mk ((by rw [hg]; exact (below_size (by repeat (first | (with_reducible first | exact HB.out | apply below_alloc | apply pw_below_drewN | apply below_drew1) | exact HB.out))) : w.heap.size ≤ gb187)); have n3_ := Aside0.mk ((by rw [hg]; exact (below_size (by repeat (first | (with_reducible first | exact HB.out | apply below_alloc | apply pw_below_drewN | apply below_drew1) | exact HB.out))) : w.heap.size ≤ gb187)); clear HB; have HB := n0_; have BK187 := n1_; have GW187 := n2_; have GE187 := n3_; clear n0_ n1_ n2_ n3_; clear hb hbox hg; have hcz47_0 : w46.cell? ⟨gb187, 0, none⟩ = some (.int .i64 a0_0) := (blk_cell BK187.out 0).trans rfl; have hcz47_1 : w46.cell? ⟨gb187, 1, none⟩ = some (.bool a0_1) := (blk_cell BK187.out 1).trans rfl; have hcz47_2 : w46.cell? ⟨gb187, 2, none⟩ = some (.bool a0_2) := (blk_cell BK187.out 2).trans rfl; have hcz47_3 : w46.cell? ⟨gb187, 3, none⟩ = some (.bool a0_3) := (blk_cell BK187.out 3).trans rfl; have hcz47_4 : w46.cell? ⟨gb187, 4, none⟩ = some (.int .i64 a0_4) := (blk_cell BK187.out 4).trans rfl; have hfz47_0 := blk_frozen BK187.out 0; have hfz47_1 := blk_frozen BK187.out 1; have hfz47_2 := blk_frozen BK187.out 2; have hfz47_3 := blk_frozen BK187.out 3; have hfz47_4 := blk_frozen BK187.out 4) | ((with_reducible refine gate_callee (f := 98) rfl ?_); refine goesL_ (some 6) rfl rfl Tryd.func98 (by kernel_rfl) rfl #[.agg #[.int .i64 a0_0, .bool a0_1, .bool a0_2, .bool a0_3, .int .i64 a0_4]] rfl (by (try simp only [List.map_toArray, List.map_cons, List.map_nil]); first | done | rfl | (simp only [List.length_drop, List.length_take]; rfl)) ?_; (with_reducible refine (montageref30_May.calls a0_0 a0_1 a0_2 a0_3 a0_4 false _ A2.out).mono ?_); rintro e w48 ⟨rfl, hb⟩; refine ⟨_, rfl, ?_⟩; have n0_ := Aside0.mk (blk_below (g := gb187) (o := .cells #[.int .i64 a0_0, .bool a0_1, .bool a0_2, .bool a0_3, .int .i64 a0_4] 58 (0, 0)) (by (with_reducible repeat (first | refine blk_drewN ?_ _ | refine blk_drew ?_ | refine blk_alloc ?_ _)); exact BK187.out) hb); have n1_ := Aside0.mk (below_step (by repeat (first | (with_reducible first | exact HB.out | apply below_alloc | apply pw_below_drewN | apply below_drew1 | refine below_set ?_ GE187.out) | exact HB.out)) hb); clear BK187; clear HB; have BK187 := n0_; have HB := n1_; clear n0_ n1_; (try clear hb); (try clear hb2); (try clear hk); (try clear hi)))
    go_ret2
    exact ⟨_, by first | rfl | (simp [errW_none, errW_some] <;> rfl) | (simp [*, errW_none, errW_some] <;> rfl), by first | exact Kd.R_nil _ _ _ _ _ | exact Kd.N_nil _ _ _ _ _ | exact Kd.V_nil _ _ _ _ _ | exact Kd.Q_nil _ _ _ _ _ | exact Kd.S_nil _ _ _ _ _, by repeat (first | (with_reducible first | exact HB.out | apply below_alloc | apply pw_below_drewN | apply below_drew1 | refine below_set ?_ GE187.out) | exact HB.out)⟩

/-! ### montageref23_Texts: function 49 -/
def montageref23_Texts.l0 : Nat → List ByteArray → List ByteArray → Int → Option (Bool)
  | 0, _, _, _ => none
  | k + 1, x0, x1, x5 => if x5 < (x0.length : Int) then (if 0 ≤ x5 then (if x5 < (x1.length : Int) then (if (rdOf ByteArray.empty x0 x5).toList = (rdOf ByteArray.empty x1 x5).toList then (montageref23_Texts.l0 k x0 x1 (wrap64 (x5 + 1))) else (some false)) else (none)) else (none)) else (some true)
def montageref23_Texts.f (k : Nat) (l0 : List ByteArray) (l1 : List ByteArray) : Option (Bool) := if (l0.length : Int) = (l1.length : Int) then (montageref23_Texts.l0 k l0 l1 0) else (some false)
theorem montageref23_Texts.mono_l : ∀ k, (∀ y0 y1 y2, LeO (montageref23_Texts.l0 k y0 y1 y2) (montageref23_Texts.l0 (k + 1) y0 y1 y2))
  | 0 => fun _ _ _ r h => by simp [montageref23_Texts.l0] at h
  | k + 1 => by
    have ih0 := montageref23_Texts.mono_l k
    · intro y0 y1 y2
      unfold montageref23_Texts.l0
      repeat' first
      | (with_reducible exact ih0 _ _ _)
      | (with_reducible exact LeO.refl _)
      | (with_reducible exact LeO.none _)
      | (with_reducible refine LeO.ite ?_ ?_)
      | (with_reducible refine LeO.bind ?_ (fun _ => ?_))
      | exact ih0 _ _ _
      | exact LeO.none _
      | refine LeO.ite ?_ ?_
      | refine LeO.bind ?_ (fun _ => ?_)
theorem montageref23_Texts.mono : ∀ a0 a1 k, LeO (montageref23_Texts.f k a0 a1) (montageref23_Texts.f (k + 1) a0 a1) := by
  intro a0 a1 k
  have ih0 := montageref23_Texts.mono_l k
  unfold montageref23_Texts.f
  repeat' first
      | (with_reducible exact ih0 _ _ _)
      | (with_reducible exact LeO.refl _)
      | (with_reducible exact LeO.none _)
      | (with_reducible refine LeO.ite ?_ ?_)
      | (with_reducible refine LeO.bind ?_ (fun _ => ?_))
      | exact ih0 _ _ _
      | exact LeO.none _
      | refine LeO.ite ?_ ?_
      | refine LeO.bind ?_ (fun _ => ?_)
set_option maxHeartbeats 8000000 in
set_option maxRecDepth 100000 in
theorem montageref23_Texts.calls (k : Nat) (A0 : Option Addr) (c0 : Nat) (l0 : List ByteArray) (A1 : Option Addr) (c1 : Nat) (l1 : List ByteArray) (r : Bool) (w : World) (hr0 : Kd.C Kd.string w A0 l0.length l0) (hc0 : l0.length ≤ c0) (hr1 : Kd.C Kd.string w A1 l1.length l1) (hc1 : l1.length ≤ c1) (h : montageref23_Texts.f k l0 l1 = some r) :
    Calls Tryd.prog 49 #[.slice A0 l0.length c0, .slice A1 l1.length c1] w fun e w' => e = .returned (.bool r) ∧ Drawn0 w w' := by
  have HR0 := Aside0.mk hr0
  have HC0 := Aside0.mk hc0
  clear hr0 hc0
  have HR1 := Aside0.mk hr1
  have HC1 := Aside0.mk hc1
  clear hr1 hc1
  have H : (if (l0.length : Int) = (l1.length : Int) then (montageref23_Texts.l0 k l0 l1 0) else (some false)) = some r := h
  clear h
  by_cases c3 : (l0.length : Int) = (l1.length : Int)
  · rw [if_pos c3] at H
    have c3b0 : ((l0.length : Int) == (l1.length : Int)) = true := beq_iff_eq.mpr c3
    have c3b1 : ((l0.length : Int) != (l1.length : Int)) = false := bne_eq_false_iff_eq.mpr c3
    have c3b2 : (l0.length == l1.length) = true := by first | simpa using c3 | (simp at c3 ⊢; omega)
    clear c3
    have H' := Aside0.mk H
    clear H
    go_enter Tryd.func49, Tryd.ntmps49
    go_wp2
    repeat (go_quiet (fail); try go_wp2)
    go_loopg [5] k (fun kq v5 w' => ∃ (x5_1 : Int), v5 = .int .i64 x5_1 ∧ Aside0 (montageref23_Texts.l0 kq l0 l1 x5_1 = some r) ∧ Aside0 (kq ≤ k) ∧ Drawn0 w w')
    case atStart => exact ⟨(0), (by first | rfl | (simp; done) | (simp [*]; done)), H', ⟨Nat.le_refl _⟩, by repeat (first | exact Drawn0.refl _ | apply Drawn0.step)⟩
    case round =>
      clear H'
      try clear c1
      try clear p2
      try clear c3
      try clear c3b0
      try clear c3b1
      try clear c3b2
      obtain ⟨x5_1, rfl, HA, HK1, ⟨m1, rfl⟩⟩ := hrel
      cases gk with
      | zero => exact absurd HA.out (by simp [montageref23_Texts.l0])
      | succ k1 =>
        have H := HA.out
        clear HA
        simp only [montageref23_Texts.l0] at H
        by_cases c4 : x5_1 < (l0.length : Int)
        · rw [if_pos c4] at H
          have c4b0 : decide (x5_1 < (l0.length : Int)) = true := decide_eq_true c4
          clear c4
          by_cases c5 : 0 ≤ x5_1
          · rw [if_pos c5] at H
            have c5b0 : decide (0 ≤ x5_1) = true := decide_eq_true c5
            clear c5
            by_cases c6 : x5_1 < (l1.length : Int)
            · rw [if_pos c6] at H
              have c6b0 : decide (x5_1 < (l1.length : Int)) = true := decide_eq_true c6
              clear c6
              by_cases c7 : (rdOf ByteArray.empty l0 x5_1).toList = (rdOf ByteArray.empty l1 x5_1).toList
              · rw [if_pos c7] at H
                have c7b0 : ((rdOf ByteArray.empty l0 x5_1).toList == (rdOf ByteArray.empty l1 x5_1).toList) = true := beq_iff_eq.mpr c7
                have c7b1 : ((rdOf ByteArray.empty l0 x5_1).toList != (rdOf ByteArray.empty l1 x5_1).toList) = false := bne_eq_false_iff_eq.mpr c7
                clear c7
                have H' := Aside0.mk H
                clear H
                have p209 : 0 ≤ (x5_1 : Int) := of_decide_eq_true (by first | (with_reducible assumption) | assumption)
                have q209 : x5_1 < (l0.length : Int) := of_decide_eq_true (by first | (with_reducible assumption) | assumption)
                obtain ⟨ad209, e209, hx209_0⟩ := Kd.at_string HR0.out x5_1 p209 q209
                cases e209
                replace p209 := eq_true p209
                replace q209 := eq_true q209
                have p210 : 0 ≤ (x5_1 : Int) := of_decide_eq_true (by first | (with_reducible assumption) | assumption)
                have q210 : x5_1 < (l1.length : Int) := of_decide_eq_true (by first | (with_reducible assumption) | assumption)
                obtain ⟨ad210, e210, hx210_0⟩ := Kd.at_string HR1.out x5_1 p210 q210
                cases e210
                replace p210 := eq_true p210
                replace q210 := eq_true q210
                go_wp2
                repeat (go_quiet (fail); try go_wp2)
                go_roundg k1
                case measure => have := HK1.out; omega
                case rel => exact ⟨(wrap64 (x5_1 + 1)), (by first | rfl | (simp; done) | (simp [*]; done)), H', ⟨by have := HK1.out; omega⟩, by repeat (first | exact Drawn0.refl _ | apply Drawn0.step)⟩
              · rw [if_neg c7] at H
                have c7b0 : ((rdOf ByteArray.empty l0 x5_1).toList == (rdOf ByteArray.empty l1 x5_1).toList) = false := beq_eq_false_iff_ne.mpr c7
                have c7b1 : ((rdOf ByteArray.empty l0 x5_1).toList != (rdOf ByteArray.empty l1 x5_1).toList) = true := bne_iff_ne.mpr c7
                obtain rfl := Option.some.inj H
                simp only [Option.some.injEq, Prod.mk.injEq] at H
                obtain ⟨rfl⟩ := H
                have p209 : 0 ≤ (x5_1 : Int) := of_decide_eq_true (by first | (with_reducible assumption) | assumption)
                have q209 : x5_1 < (l0.length : Int) := of_decide_eq_true (by first | (with_reducible assumption) | assumption)
                obtain ⟨ad209, e209, hx209_0⟩ := Kd.at_string HR0.out x5_1 p209 q209
                cases e209
                replace p209 := eq_true p209
                replace q209 := eq_true q209
                have p210 : 0 ≤ (x5_1 : Int) := of_decide_eq_true (by first | (with_reducible assumption) | assumption)
                have q210 : x5_1 < (l1.length : Int) := of_decide_eq_true (by first | (with_reducible assumption) | assumption)
                obtain ⟨ad210, e210, hx210_0⟩ := Kd.at_string HR1.out x5_1 p210 q210
                cases e210
                replace p210 := eq_true p210
                replace q210 := eq_true q210
                go_wp2
                repeat (go_quiet (fail); try go_wp2)
                go_ret
                exact ⟨by first | rfl | (simp; done) | (simp [*]; done), by repeat (first | exact Drawn0.refl _ | apply Drawn0.step)⟩
            · rw [if_neg c6] at H
              exact absurd H (by simp)
          · rw [if_neg c5] at H
            exact absurd H (by simp)
        · rw [if_neg c4] at H
          have c4b0 : decide (x5_1 < (l0.length : Int)) = false := decide_eq_false c4
          clear c4
          obtain rfl := Option.some.inj H
          simp only [Option.some.injEq, Prod.mk.injEq] at H
          obtain ⟨rfl⟩ := H
          go_wp2
          repeat (go_quiet (fail); try go_wp2)
          go_ret
          exact ⟨by first | rfl | (simp; done) | (simp [*]; done), by repeat (first | exact Drawn0.refl _ | apply Drawn0.step)⟩
  · rw [if_neg c3] at H
    have c3b0 : ((l0.length : Int) == (l1.length : Int)) = false := beq_eq_false_iff_ne.mpr c3
    have c3b1 : ((l0.length : Int) != (l1.length : Int)) = true := bne_iff_ne.mpr c3
    have c3b2 : (l0.length == l1.length) = false := by first | simpa using c3 | (simp at c3 ⊢; omega)
    obtain rfl := Option.some.inj H
    simp only [Option.some.injEq, Prod.mk.injEq] at H
    obtain ⟨rfl⟩ := H
    go_enter Tryd.func49, Tryd.ntmps49
    go_wp2
    repeat (go_quiet (fail); try go_wp2)
    go_ret
    exact ⟨by first | rfl | (simp; done) | (simp [*]; done), by repeat (first | exact Drawn0.refl _ | apply Drawn0.step)⟩

end Go.Proofs.YtdaofffedfccmaaDoor.XOptionAny
