-- Written by this session's own program wip/xprint.py: a changed copy of the kit's print.
import Derived.Test.YtdaofffedfccmaaDoorXClockDatesx0
import Derived.Test.YtdaofffedfccmaaDoorXClockDatesx4
namespace Go.Proofs.YtdaofffedfccmaaDoor.XClockDates
open Go.RowKit Go.Proofs.YtdaofffedfccmaaDoorW.PrintWords Go.Proofs.YtdaofffedfccmaaDoorW.PrintLast Go.Proofs.YtdaofffedfccmaaDoorW.PrintMore
attribute [local go_sem] max2_int min2_int max_two min_two max_three min_three max_four min_four   -- for this text's walks alone
set_option linter.unusedVariables false
set_option linter.unusedSimpArgs false

/-! ### montageref41_Seconds: function 36 -/
mutual
def montageref41_Seconds.l0 : Nat → Int → Int → Int → Int → Int → Int → Int → Int → Option (Int)
  | 0, _, _, _, _, _, _, _, _ => none
  | k + 1, x3, x4, x158000, x158001, x158002, x158003, x158004, x158005 => if x4 ≤ x158000 then (montageref41_Seconds.l1 k x3 x4 1 x158000 x158001 x158002 x158003 x158004 x158005) else (some (wrap64 ((wrap64 ((wrap64 ((wrap64 (86400 * x3)) + (wrap64 (3600 * x158003)))) + (wrap64 (60 * x158004)))) + x158005)))
def montageref41_Seconds.l1 : Nat → Int → Int → Int → Int → Int → Int → Int → Int → Int → Option (Int)
  | 0, _, _, _, _, _, _, _, _, _ => none
  | k + 1, x3, x4, x5, x158000, x158001, x158002, x158003, x158004, x158005 => if x5 ≤ 12 then (if x4 < x158000 then ((montageref41_days.f k x4 x5).bind fun t158 => (montageref41_Seconds.l1 k (wrap64 (x3 + t158)) x4 (wrap64 (x5 + 1)) x158000 x158001 x158002 x158003 x158004 x158005)) else (if x5 < x158001 then ((montageref41_days.f k x4 x5).bind fun t159 => (montageref41_Seconds.l1 k (wrap64 (x3 + t159)) x4 (wrap64 (x5 + 1)) x158000 x158001 x158002 x158003 x158004 x158005)) else (montageref41_Seconds.l1 k x3 x4 (wrap64 (x5 + 1)) x158000 x158001 x158002 x158003 x158004 x158005))) else (montageref41_Seconds.l0 k x3 (wrap64 (x4 + 1)) x158000 x158001 x158002 x158003 x158004 x158005)
end
def montageref41_Seconds.f (k : Nat) (a0_0 : Int) (a0_1 : Int) (a0_2 : Int) (a0_3 : Int) (a0_4 : Int) (a0_5 : Int) : Option (Int) := montageref41_Seconds.l0 k (wrap64 (a0_2 - 1)) 1980 a0_0 a0_1 a0_2 a0_3 a0_4 a0_5
theorem montageref41_Seconds.mono_l : ∀ k, (∀ y0 y1 y2 y3 y4 y5 y6 y7, LeO (montageref41_Seconds.l0 k y0 y1 y2 y3 y4 y5 y6 y7) (montageref41_Seconds.l0 (k + 1) y0 y1 y2 y3 y4 y5 y6 y7)) ∧ (∀ y0 y1 y2 y3 y4 y5 y6 y7 y8, LeO (montageref41_Seconds.l1 k y0 y1 y2 y3 y4 y5 y6 y7 y8) (montageref41_Seconds.l1 (k + 1) y0 y1 y2 y3 y4 y5 y6 y7 y8))
  | 0 => ⟨fun _ _ _ _ _ _ _ _ r h => by simp [montageref41_Seconds.l0] at h, fun _ _ _ _ _ _ _ _ _ r h => by simp [montageref41_Seconds.l1] at h⟩
  | k + 1 => by
    obtain ⟨ih0, ih1⟩ := montageref41_Seconds.mono_l k
    refine ⟨?_, ?_⟩
    · intro y0 y1 y2 y3 y4 y5 y6 y7
      unfold montageref41_Seconds.l0
      repeat' first
      | (with_reducible exact ih0 _ _ _ _ _ _ _ _)
      | (with_reducible exact ih1 _ _ _ _ _ _ _ _ _)
      | (with_reducible exact montageref41_days.mono _ _ _)
      | (with_reducible exact LeO.refl _)
      | (with_reducible exact LeO.none _)
      | (with_reducible refine LeO.ite ?_ ?_)
      | (with_reducible refine LeO.bind ?_ (fun _ => ?_))
      | exact ih0 _ _ _ _ _ _ _ _
      | exact ih1 _ _ _ _ _ _ _ _ _
      | exact montageref41_days.mono _ _ _
      | exact LeO.none _
      | refine LeO.ite ?_ ?_
      | refine LeO.bind ?_ (fun _ => ?_)
    · intro y0 y1 y2 y3 y4 y5 y6 y7 y8
      unfold montageref41_Seconds.l1
      repeat' first
      | (with_reducible exact ih0 _ _ _ _ _ _ _ _)
      | (with_reducible exact ih1 _ _ _ _ _ _ _ _ _)
      | (with_reducible exact montageref41_days.mono _ _ _)
      | (with_reducible exact LeO.refl _)
      | (with_reducible exact LeO.none _)
      | (with_reducible refine LeO.ite ?_ ?_)
      | (with_reducible refine LeO.bind ?_ (fun _ => ?_))
      | exact ih0 _ _ _ _ _ _ _ _
      | exact ih1 _ _ _ _ _ _ _ _ _
      | exact montageref41_days.mono _ _ _
      | exact LeO.none _
      | refine LeO.ite ?_ ?_
      | refine LeO.bind ?_ (fun _ => ?_)
theorem montageref41_Seconds.mono : ∀ a0 a1 a2 a3 a4 a5 k, LeO (montageref41_Seconds.f k a0 a1 a2 a3 a4 a5) (montageref41_Seconds.f (k + 1) a0 a1 a2 a3 a4 a5) := by
  intro a0 a1 a2 a3 a4 a5 k
  obtain ⟨ih0, ih1⟩ := montageref41_Seconds.mono_l k
  unfold montageref41_Seconds.f
  repeat' first
      | (with_reducible exact ih0 _ _ _ _ _ _ _ _)
      | (with_reducible exact ih1 _ _ _ _ _ _ _ _ _)
      | (with_reducible exact montageref41_days.mono _ _ _)
      | (with_reducible exact LeO.refl _)
      | (with_reducible exact LeO.none _)
      | (with_reducible refine LeO.ite ?_ ?_)
      | (with_reducible refine LeO.bind ?_ (fun _ => ?_))
      | exact ih0 _ _ _ _ _ _ _ _
      | exact ih1 _ _ _ _ _ _ _ _ _
      | exact montageref41_days.mono _ _ _
      | exact LeO.none _
      | refine LeO.ite ?_ ?_
      | refine LeO.bind ?_ (fun _ => ?_)
set_option maxHeartbeats 8000000 in
set_option maxRecDepth 100000 in
theorem montageref41_Seconds.calls (k : Nat) (a0_0 : Int) (a0_1 : Int) (a0_2 : Int) (a0_3 : Int) (a0_4 : Int) (a0_5 : Int) (r : Int) (w : World) (h : montageref41_Seconds.f k a0_0 a0_1 a0_2 a0_3 a0_4 a0_5 = some r) :
    Calls Tryd.prog 36 #[.agg #[.int .i64 a0_0, .int .i64 a0_1, .int .i64 a0_2, .int .i64 a0_3, .int .i64 a0_4, .int .i64 a0_5]] w fun e w' => e = .returned (.int .i64 r) ∧ Below w.heap.size w w' := by
  have hu38 := Tryd.underlying38
  have HB := Aside0.mk (Below.refl w.heap.size w)
  have H : (montageref41_Seconds.l0 k (wrap64 (a0_2 - 1)) 1980 a0_0 a0_1 a0_2 a0_3 a0_4 a0_5) = some r := h
  clear h
  have H' := Aside0.mk H
  clear H
  go_enter Tryd.func36, Tryd.ntmps36
  go_wp2_with (first | ((with_reducible refine gate_dst (N := 1) rfl ?_); refine box_event ?hg (N := 1) ?hd (cs := #[.int .i64 a0_0, .int .i64 a0_1, .int .i64 a0_2, .int .i64 a0_3, .int .i64 a0_4, .int .i64 a0_5]) (t := 38) ?hr ?_; (case hd => rfl); (case hg => rfl); (case hr => first | (go_simp; done) | (go_simp; rfl)); intro gb157 hg w2 hbox hb; have n0_ := Aside0.mk (below_step (by repeat (first | (with_reducible first | exact HB.out | apply below_alloc | apply pw_below_drewN | apply below_drew1) | exact HB.out)) hb); have n1_ := Aside0.mk (hbox); have n2_ := Aside0.mk ((by rw [hg]; exact (below_size (by repeat (first | (with_reducible first | exact HB.out | apply below_alloc | apply pw_below_drewN | apply below_drew1) | exact HB.out))) : w.heap.size ≤ gb157)); have n3_ := Aside0.mk ((by rw [hg]; exact (below_size (by repeat (first | (with_reducible first | exact HB.out | apply below_alloc | apply pw_below_drewN | apply below_drew1) | exact HB.out))) : w.heap.size ≤ gb157)); clear HB; have HB := n0_; have BK157 := n1_; have GW157 := n2_; have GE157 := n3_; clear n0_ n1_ n2_ n3_; clear hb hbox hg; have hcz3_0 : w2.cell? ⟨gb157, 0, none⟩ = some (.int .i64 a0_0) := (blk_cell BK157.out 0).trans rfl; have hcz3_1 : w2.cell? ⟨gb157, 1, none⟩ = some (.int .i64 a0_1) := (blk_cell BK157.out 1).trans rfl; have hcz3_2 : w2.cell? ⟨gb157, 2, none⟩ = some (.int .i64 a0_2) := (blk_cell BK157.out 2).trans rfl; have hcz3_3 : w2.cell? ⟨gb157, 3, none⟩ = some (.int .i64 a0_3) := (blk_cell BK157.out 3).trans rfl; have hcz3_4 : w2.cell? ⟨gb157, 4, none⟩ = some (.int .i64 a0_4) := (blk_cell BK157.out 4).trans rfl; have hcz3_5 : w2.cell? ⟨gb157, 5, none⟩ = some (.int .i64 a0_5) := (blk_cell BK157.out 5).trans rfl; have hfz3_0 := blk_frozen BK157.out 0; have hfz3_1 := blk_frozen BK157.out 1; have hfz3_2 := blk_frozen BK157.out 2; have hfz3_3 := blk_frozen BK157.out 3; have hfz3_4 := blk_frozen BK157.out 4; have hfz3_5 := blk_frozen BK157.out 5))
  go_loopg [3, 4] k (fun kq v3 v4 w' => ∃ (x3_1 : Int) (x4_1 : Int), v3 = .int .i64 x3_1 ∧ v4 = .int .i64 x4_1 ∧ Aside0 (montageref41_Seconds.l0 kq x3_1 x4_1 a0_0 a0_1 a0_2 a0_3 a0_4 a0_5 = some r) ∧ Aside0 (kq ≤ k) ∧ Aside0 (w'.heap[gb157]? = some (.cells #[.int .i64 a0_0, .int .i64 a0_1, .int .i64 a0_2, .int .i64 a0_3, .int .i64 a0_4, .int .i64 a0_5] 38 (0, 0))) ∧ Aside0 (Below w.heap.size w w'))
  case atStart => exact ⟨(wrap64 (a0_2 - 1)), (1980), (by first | rfl | (simp; done) | (simp [*]; done)), (by first | rfl | (simp; done) | (simp [*]; done)), H', ⟨Nat.le_refl _⟩, ⟨by (with_reducible repeat (first | refine blk_drewN ?_ _ | refine blk_drew ?_ | refine blk_alloc ?_ _)); exact BK157.out⟩, ⟨by repeat (first | (with_reducible first | exact HB.out | apply below_alloc | apply pw_below_drewN | apply below_drew1 | refine below_set ?_ GE157.out) | exact HB.out)⟩⟩
  case round =>
    clear H'
    try clear p2
    try clear c3
    try clear hcz3_0
    try clear hcz3_1
    try clear hcz3_2
    try clear hcz3_3
    try clear hcz3_4
    try clear hcz3_5
    try clear hfz3_0
    try clear hfz3_1
    try clear hfz3_2
    try clear hfz3_3
    try clear hfz3_4
    try clear hfz3_5
    obtain ⟨x3_1, x4_1, rfl, rfl, HA, HK1, BK157, HB⟩ := hrel
    cases gk with
    | zero => exact absurd HA.out (by simp [montageref41_Seconds.l0])
    | succ k1 =>
      have H := HA.out
      clear HA
      simp only [montageref41_Seconds.l0] at H
      by_cases c4 : x4_1 ≤ a0_0
      · rw [if_pos c4] at H
        have c4b0 : decide (x4_1 ≤ a0_0) = true := decide_eq_true c4
        clear c4
        have H' := Aside0.mk H
        clear H
        have hcz5_0 : wr.cell? ⟨gb157, 0, none⟩ = some (.int .i64 a0_0) := (blk_cell BK157.out 0).trans rfl
        have hcz5_1 : wr.cell? ⟨gb157, 1, none⟩ = some (.int .i64 a0_1) := (blk_cell BK157.out 1).trans rfl
        have hcz5_2 : wr.cell? ⟨gb157, 2, none⟩ = some (.int .i64 a0_2) := (blk_cell BK157.out 2).trans rfl
        have hcz5_3 : wr.cell? ⟨gb157, 3, none⟩ = some (.int .i64 a0_3) := (blk_cell BK157.out 3).trans rfl
        have hcz5_4 : wr.cell? ⟨gb157, 4, none⟩ = some (.int .i64 a0_4) := (blk_cell BK157.out 4).trans rfl
        have hcz5_5 : wr.cell? ⟨gb157, 5, none⟩ = some (.int .i64 a0_5) := (blk_cell BK157.out 5).trans rfl
        have hfz5_0 := blk_frozen BK157.out 0
        have hfz5_1 := blk_frozen BK157.out 1
        have hfz5_2 := blk_frozen BK157.out 2
        have hfz5_3 := blk_frozen BK157.out 3
        have hfz5_4 := blk_frozen BK157.out 4
        have hfz5_5 := blk_frozen BK157.out 5
        go_wp2
        go_loopg [3, 5] k1 (fun kq v3 v5 w' => ∃ (x3_2 : Int) (x5_2 : Int), v3 = .int .i64 x3_2 ∧ v5 = .int .i64 x5_2 ∧ Aside0 (montageref41_Seconds.l1 kq x3_2 x4_1 x5_2 a0_0 a0_1 a0_2 a0_3 a0_4 a0_5 = some r) ∧ Aside0 (kq ≤ k1) ∧ Aside0 (w'.heap[gb157]? = some (.cells #[.int .i64 a0_0, .int .i64 a0_1, .int .i64 a0_2, .int .i64 a0_3, .int .i64 a0_4, .int .i64 a0_5] 38 (0, 0))) ∧ Aside0 (Below w.heap.size w w'))
        case atStart => exact ⟨(x3_1), (1), (by first | rfl | (simp; done) | (simp [*]; done)), (by first | rfl | (simp; done) | (simp [*]; done)), H', ⟨Nat.le_refl _⟩, ⟨by (with_reducible repeat (first | refine blk_drewN ?_ _ | refine blk_drew ?_ | refine blk_alloc ?_ _)); exact BK157.out⟩, ⟨by repeat (first | (with_reducible first | exact HB.out | apply below_alloc | apply pw_below_drewN | apply below_drew1 | refine below_set ?_ GE157.out) | exact HB.out)⟩⟩
        case round =>
          clear H'
          try clear p2
          try clear c3
          try clear c4
          try clear c4b0
          try clear hcz3_0
          try clear hcz3_1
          try clear hcz3_2
          try clear hcz3_3
          try clear hcz3_4
          try clear hcz3_5
          try clear hcz5_0
          try clear hcz5_1
          try clear hcz5_2
          try clear hcz5_3
          try clear hcz5_4
          try clear hcz5_5
          try clear hfz3_0
          try clear hfz3_1
          try clear hfz3_2
          try clear hfz3_3
          try clear hfz3_4
          try clear hfz3_5
          try clear hfz5_0
          try clear hfz5_1
          try clear hfz5_2
          try clear hfz5_3
          try clear hfz5_4
          try clear hfz5_5
          try clear p2
          obtain ⟨x3_2, x5_2, rfl, rfl, HA, HK2, BK157, HB⟩ := hrel
          cases gk with
          | zero => exact absurd HA.out (by simp [montageref41_Seconds.l1])
          | succ k2 =>
            have H := HA.out
            clear HA
            simp only [montageref41_Seconds.l1] at H
            by_cases c6 : x5_2 ≤ 12
            · rw [if_pos c6] at H
              have c6b0 : decide (x5_2 ≤ 12) = true := decide_eq_true c6
              clear c6
              by_cases c7 : x4_1 < a0_0
              · rw [if_pos c7] at H
                have c7b0 : decide (x4_1 < a0_0) = true := decide_eq_true c7
                clear c7
                replace H := Option.bind_eq_some_iff.mp H
                obtain ⟨t158, A80, H⟩ := H
                replace H : (montageref41_Seconds.l1 k2 (wrap64 (x3_2 + t158)) x4_1 (wrap64 (x5_2 + 1)) a0_0 a0_1 a0_2 a0_3 a0_4 a0_5) = some r := H
                have A8 := Aside0.mk A80
                clear A80
                have H' := Aside0.mk H
                clear H
                have hcz9_0 : wr.cell? ⟨gb157, 0, none⟩ = some (.int .i64 a0_0) := (blk_cell BK157.out 0).trans rfl
                have hcz9_1 : wr.cell? ⟨gb157, 1, none⟩ = some (.int .i64 a0_1) := (blk_cell BK157.out 1).trans rfl
                have hcz9_2 : wr.cell? ⟨gb157, 2, none⟩ = some (.int .i64 a0_2) := (blk_cell BK157.out 2).trans rfl
                have hcz9_3 : wr.cell? ⟨gb157, 3, none⟩ = some (.int .i64 a0_3) := (blk_cell BK157.out 3).trans rfl
                have hcz9_4 : wr.cell? ⟨gb157, 4, none⟩ = some (.int .i64 a0_4) := (blk_cell BK157.out 4).trans rfl
                have hcz9_5 : wr.cell? ⟨gb157, 5, none⟩ = some (.int .i64 a0_5) := (blk_cell BK157.out 5).trans rfl
                have hfz9_0 := blk_frozen BK157.out 0
                have hfz9_1 := blk_frozen BK157.out 1
                have hfz9_2 := blk_frozen BK157.out 2
                have hfz9_3 := blk_frozen BK157.out 3
                have hfz9_4 := blk_frozen BK157.out 4
                have hfz9_5 := blk_frozen BK157.out 5
                go_wp2_with (first | ((with_reducible refine gate_callee (f := 81) rfl ?_); refine goesL_ (some 32) rfl rfl Tryd.func81 (by kernel_rfl) rfl #[.int .i64 x4_1, .int .i64 x5_2] rfl (by (try simp only [List.map_toArray, List.map_cons, List.map_nil]); first | done | rfl | (simp only [List.length_drop, List.length_take]; rfl)) ?_; (with_reducible refine (montageref41_days.calls k2 x4_1 x5_2 t158 _ A8.out).mono ?_); rintro e w' ⟨rfl, ⟨nd, rfl⟩⟩; refine ⟨_, rfl, ?_⟩))
                go_roundg k2
                case measure => have := HK1.out; have := HK2.out; omega
                case rel => exact ⟨(wrap64 (x3_2 + t158)), (wrap64 (x5_2 + 1)), (by first | rfl | (simp; done) | (simp [*]; done)), (by first | rfl | (simp; done) | (simp [*]; done)), H', ⟨by have := HK1.out; have := HK2.out; omega⟩, ⟨by (with_reducible repeat (first | refine blk_drewN ?_ _ | refine blk_drew ?_ | refine blk_alloc ?_ _)); exact BK157.out⟩, ⟨by repeat (first | (with_reducible first | exact HB.out | apply below_alloc | apply pw_below_drewN | apply below_drew1 | refine below_set ?_ GE157.out) | exact HB.out)⟩⟩
              · rw [if_neg c7] at H
                have c7b0 : decide (x4_1 < a0_0) = false := decide_eq_false c7
                clear c7
                by_cases c10 : x5_2 < a0_1
                · rw [if_pos c10] at H
                  have c10b0 : decide (x5_2 < a0_1) = true := decide_eq_true c10
                  clear c10
                  replace H := Option.bind_eq_some_iff.mp H
                  obtain ⟨t159, A110, H⟩ := H
                  replace H : (montageref41_Seconds.l1 k2 (wrap64 (x3_2 + t159)) x4_1 (wrap64 (x5_2 + 1)) a0_0 a0_1 a0_2 a0_3 a0_4 a0_5) = some r := H
                  have A11 := Aside0.mk A110
                  clear A110
                  have H' := Aside0.mk H
                  clear H
                  have hcz12_0 : wr.cell? ⟨gb157, 0, none⟩ = some (.int .i64 a0_0) := (blk_cell BK157.out 0).trans rfl
                  have hcz12_1 : wr.cell? ⟨gb157, 1, none⟩ = some (.int .i64 a0_1) := (blk_cell BK157.out 1).trans rfl
                  have hcz12_2 : wr.cell? ⟨gb157, 2, none⟩ = some (.int .i64 a0_2) := (blk_cell BK157.out 2).trans rfl
                  have hcz12_3 : wr.cell? ⟨gb157, 3, none⟩ = some (.int .i64 a0_3) := (blk_cell BK157.out 3).trans rfl
                  have hcz12_4 : wr.cell? ⟨gb157, 4, none⟩ = some (.int .i64 a0_4) := (blk_cell BK157.out 4).trans rfl
                  have hcz12_5 : wr.cell? ⟨gb157, 5, none⟩ = some (.int .i64 a0_5) := (blk_cell BK157.out 5).trans rfl
                  have hfz12_0 := blk_frozen BK157.out 0
                  have hfz12_1 := blk_frozen BK157.out 1
                  have hfz12_2 := blk_frozen BK157.out 2
                  have hfz12_3 := blk_frozen BK157.out 3
                  have hfz12_4 := blk_frozen BK157.out 4
                  have hfz12_5 := blk_frozen BK157.out 5
                  go_wp2_with (first | ((with_reducible refine gate_callee (f := 81) rfl ?_); refine goesL_ (some 32) rfl rfl Tryd.func81 (by kernel_rfl) rfl #[.int .i64 x4_1, .int .i64 x5_2] rfl (by (try simp only [List.map_toArray, List.map_cons, List.map_nil]); first | done | rfl | (simp only [List.length_drop, List.length_take]; rfl)) ?_; (with_reducible refine (montageref41_days.calls k2 x4_1 x5_2 t159 _ A11.out).mono ?_); rintro e w' ⟨rfl, ⟨nd, rfl⟩⟩; refine ⟨_, rfl, ?_⟩))
                  go_roundg k2
                  case measure => have := HK1.out; have := HK2.out; omega
                  case rel => exact ⟨(wrap64 (x3_2 + t159)), (wrap64 (x5_2 + 1)), (by first | rfl | (simp; done) | (simp [*]; done)), (by first | rfl | (simp; done) | (simp [*]; done)), H', ⟨by have := HK1.out; have := HK2.out; omega⟩, ⟨by (with_reducible repeat (first | refine blk_drewN ?_ _ | refine blk_drew ?_ | refine blk_alloc ?_ _)); exact BK157.out⟩, ⟨by repeat (first | (with_reducible first | exact HB.out | apply below_alloc | apply pw_below_drewN | apply below_drew1 | refine below_set ?_ GE157.out) | exact HB.out)⟩⟩
                · rw [if_neg c10] at H
                  have c10b0 : decide (x5_2 < a0_1) = false := decide_eq_false c10
                  clear c10
                  have H' := Aside0.mk H
                  clear H
                  have hcz13_0 : wr.cell? ⟨gb157, 0, none⟩ = some (.int .i64 a0_0) := (blk_cell BK157.out 0).trans rfl
                  have hcz13_1 : wr.cell? ⟨gb157, 1, none⟩ = some (.int .i64 a0_1) := (blk_cell BK157.out 1).trans rfl
                  have hcz13_2 : wr.cell? ⟨gb157, 2, none⟩ = some (.int .i64 a0_2) := (blk_cell BK157.out 2).trans rfl
                  have hcz13_3 : wr.cell? ⟨gb157, 3, none⟩ = some (.int .i64 a0_3) := (blk_cell BK157.out 3).trans rfl
                  have hcz13_4 : wr.cell? ⟨gb157, 4, none⟩ = some (.int .i64 a0_4) := (blk_cell BK157.out 4).trans rfl
                  have hcz13_5 : wr.cell? ⟨gb157, 5, none⟩ = some (.int .i64 a0_5) := (blk_cell BK157.out 5).trans rfl
                  have hfz13_0 := blk_frozen BK157.out 0
                  have hfz13_1 := blk_frozen BK157.out 1
                  have hfz13_2 := blk_frozen BK157.out 2
                  have hfz13_3 := blk_frozen BK157.out 3
                  have hfz13_4 := blk_frozen BK157.out 4
                  have hfz13_5 := blk_frozen BK157.out 5
                  go_wp2
                  go_roundg k2
                  case measure => have := HK1.out; have := HK2.out; omega
                  case rel => exact ⟨(x3_2), (wrap64 (x5_2 + 1)), (by first | rfl | (simp; done) | (simp [*]; done)), (by first | rfl | (simp; done) | (simp [*]; done)), H', ⟨by have := HK1.out; have := HK2.out; omega⟩, ⟨by (with_reducible repeat (first | refine blk_drewN ?_ _ | refine blk_drew ?_ | refine blk_alloc ?_ _)); exact BK157.out⟩, ⟨by repeat (first | (with_reducible first | exact HB.out | apply below_alloc | apply pw_below_drewN | apply below_drew1 | refine below_set ?_ GE157.out) | exact HB.out)⟩⟩
            · rw [if_neg c6] at H
              have c6b0 : decide (x5_2 ≤ 12) = false := decide_eq_false c6
              clear c6
              have H' := Aside0.mk H
              clear H
              go_wp2
              go_roundg k2
              case measure => have := HK1.out; have := HK2.out; omega
              case rel => exact ⟨(x3_2), (wrap64 (x4_1 + 1)), (by first | rfl | (simp; done) | (simp [*]; done)), (by first | rfl | (simp; done) | (simp [*]; done)), H', ⟨by have := HK1.out; have := HK2.out; omega⟩, ⟨by (with_reducible repeat (first | refine blk_drewN ?_ _ | refine blk_drew ?_ | refine blk_alloc ?_ _)); exact BK157.out⟩, ⟨by repeat (first | (with_reducible first | exact HB.out | apply below_alloc | apply pw_below_drewN | apply below_drew1 | refine below_set ?_ GE157.out) | exact HB.out)⟩⟩
      · rw [if_neg c4] at H
        have c4b0 : decide (x4_1 ≤ a0_0) = false := decide_eq_false c4
        clear c4
        obtain rfl := Option.some.inj H
        simp only [Option.some.injEq, Prod.mk.injEq] at H
        obtain ⟨rfl⟩ := H
        have hcz14_0 : wr.cell? ⟨gb157, 0, none⟩ = some (.int .i64 a0_0) := (blk_cell BK157.out 0).trans rfl
        have hcz14_1 : wr.cell? ⟨gb157, 1, none⟩ = some (.int .i64 a0_1) := (blk_cell BK157.out 1).trans rfl
        have hcz14_2 : wr.cell? ⟨gb157, 2, none⟩ = some (.int .i64 a0_2) := (blk_cell BK157.out 2).trans rfl
        have hcz14_3 : wr.cell? ⟨gb157, 3, none⟩ = some (.int .i64 a0_3) := (blk_cell BK157.out 3).trans rfl
        have hcz14_4 : wr.cell? ⟨gb157, 4, none⟩ = some (.int .i64 a0_4) := (blk_cell BK157.out 4).trans rfl
        have hcz14_5 : wr.cell? ⟨gb157, 5, none⟩ = some (.int .i64 a0_5) := (blk_cell BK157.out 5).trans rfl
        have hfz14_0 := blk_frozen BK157.out 0
        have hfz14_1 := blk_frozen BK157.out 1
        have hfz14_2 := blk_frozen BK157.out 2
        have hfz14_3 := blk_frozen BK157.out 3
        have hfz14_4 := blk_frozen BK157.out 4
        have hfz14_5 := blk_frozen BK157.out 5
        go_wp2
        go_ret
        exact ⟨by first | rfl | (simp [errW_none, errW_some] <;> rfl) | (simp [*, errW_none, errW_some] <;> rfl), by repeat (first | (with_reducible first | exact HB.out | apply below_alloc | apply pw_below_drewN | apply below_drew1 | refine below_set ?_ GE157.out) | exact HB.out)⟩

/-! ### montageref41_digits: function 82 -/
def montageref41_digits.l0 : Nat → Int → Int → ByteArray → Int → Option (ByteArray)
  | 0, _, _, _, _ => none
  | k + 1, x0, x1, x5, x6 => if x6 < x1 then ((some (([(wrap64 (48 + (Int.tmod x0 10))) % 256] : List Int) : List Int)).bind fun y160 => (if (strOfNums y160).size + x5.size ≤ 9223372036854775807 then (montageref41_digits.l0 k (wrap64 (Int.tdiv x0 10)) x1 ((strOfNums y160) ++ x5) (wrap64 (x6 + 1))) else (none))) else (some x5)
def montageref41_digits.f (k : Nat) (a0 : Int) (a1 : Int) : Option (ByteArray) := montageref41_digits.l0 k a0 a1 (⟨#[]⟩ : ByteArray) 0
theorem montageref41_digits.mono_l : ∀ k, (∀ y0 y1 y2 y3, LeO (montageref41_digits.l0 k y0 y1 y2 y3) (montageref41_digits.l0 (k + 1) y0 y1 y2 y3))
  | 0 => fun _ _ _ _ r h => by simp [montageref41_digits.l0] at h
  | k + 1 => by
    have ih0 := montageref41_digits.mono_l k
    · intro y0 y1 y2 y3
      unfold montageref41_digits.l0
      repeat' first
      | (with_reducible exact ih0 _ _ _ _)
      | (with_reducible exact LeO.refl _)
      | (with_reducible exact LeO.none _)
      | (with_reducible refine LeO.ite ?_ ?_)
      | (with_reducible refine LeO.bind ?_ (fun _ => ?_))
      | exact ih0 _ _ _ _
      | exact LeO.none _
      | refine LeO.ite ?_ ?_
      | refine LeO.bind ?_ (fun _ => ?_)
theorem montageref41_digits.mono : ∀ a0 a1 k, LeO (montageref41_digits.f k a0 a1) (montageref41_digits.f (k + 1) a0 a1) := by
  intro a0 a1 k
  have ih0 := montageref41_digits.mono_l k
  unfold montageref41_digits.f
  repeat' first
      | (with_reducible exact ih0 _ _ _ _)
      | (with_reducible exact LeO.refl _)
      | (with_reducible exact LeO.none _)
      | (with_reducible refine LeO.ite ?_ ?_)
      | (with_reducible refine LeO.bind ?_ (fun _ => ?_))
      | exact ih0 _ _ _ _
      | exact LeO.none _
      | refine LeO.ite ?_ ?_
      | refine LeO.bind ?_ (fun _ => ?_)
set_option maxHeartbeats 8000000 in
set_option maxRecDepth 100000 in
theorem montageref41_digits.calls (k : Nat) (a0 : Int) (a1 : Int) (r : ByteArray) (w : World) (h : montageref41_digits.f k a0 a1 = some r) :
    Calls Tryd.prog 82 #[.int .i64 a0, .int .i64 a1] w fun e w' => e = .returned (.string r) ∧ Below w.heap.size w w' := by
  have HB := Aside0.mk (Below.refl w.heap.size w)
  have H : (montageref41_digits.l0 k a0 a1 (⟨#[]⟩ : ByteArray) 0) = some r := h
  clear h
  have H' := Aside0.mk H
  clear H
  go_enter Tryd.func82, Tryd.ntmps82
  go_wp2
  go_loopg [0, 5, 6] k (fun kq v0 v5 v6 w' => ∃ (x0_1 : Int) (x5_1 : ByteArray) (x6_1 : Int), v0 = .int .i64 x0_1 ∧ v5 = .string x5_1 ∧ v6 = .int .i64 x6_1 ∧ Aside0 (montageref41_digits.l0 kq x0_1 a1 x5_1 x6_1 = some r) ∧ Aside0 (kq ≤ k) ∧ Aside0 (Below w.heap.size w w'))
  case atStart => exact ⟨(a0), ((⟨#[]⟩ : ByteArray)), (0), (by first | rfl | (simp; done) | (simp [*]; done)), (by first | rfl | (simp; done) | (simp [*]; done)), (by first | rfl | (simp; done) | (simp [*]; done)), H', ⟨Nat.le_refl _⟩, ⟨by repeat (first | (with_reducible first | exact HB.out | apply below_alloc | apply pw_below_drewN | apply below_drew1) | exact HB.out)⟩⟩
  case round =>
    clear H'
    try clear p2
    obtain ⟨x0_1, x5_1, x6_1, rfl, rfl, rfl, HA, HK1, HB⟩ := hrel
    cases gk with
    | zero => exact absurd HA.out (by simp [montageref41_digits.l0])
    | succ k1 =>
      have H := HA.out
      clear HA
      simp only [montageref41_digits.l0] at H
      by_cases c3 : x6_1 < a1
      · rw [if_pos c3] at H
        have c3b0 : decide (x6_1 < a1) = true := decide_eq_true c3
        clear c3
        obtain ⟨y160, hy160⟩ : ∃ y_ : List Int, y_ = (([(wrap64 (48 + (Int.tmod x0_1 10))) % 256] : List Int)) := ⟨_, rfl⟩
        replace H : (if (strOfNums y160).size + x5_1.size ≤ 9223372036854775807 then (montageref41_digits.l0 k1 (wrap64 (Int.tdiv x0_1 10)) a1 ((strOfNums y160) ++ x5_1) (wrap64 (x6_1 + 1))) else (none)) = some r := by first | (rw [hy160]; with_reducible exact H) | (have H2_ := (Option.bind_some _ _).symm.trans H; rw [hy160]; with_reducible exact H2_) | (have H2_ := (Option.bind_some _ _).symm.trans H; with_reducible exact H2_) | with_reducible exact H | (rw [hy160]; exact H) | exact H
        have Ny160 := Aside0.mk hy160
        clear hy160
        by_cases c4 : (strOfNums y160).size + x5_1.size ≤ 9223372036854775807
        · rw [if_pos c4] at H
          have c4b0 := eq_true c4
          have c4b1 : decide ((strOfNums y160).size + x5_1.size ≤ 9223372036854775807) = true := decide_eq_true c4
          try have c4b2 : (9223372036854775807 < (strOfNums y160).size + x5_1.size) = False := eq_false (Nat.not_lt.2 c4)
          have H' := Aside0.mk H
          clear H
          go_wp2_with (first | ((with_reducible refine gate_dst (N := 16) rfl ?_); refine Kd.R_lit (Kd.int .u8) _ 5 ?hg (N := 16) ?hd (xs := ([(wrap64 (48 + (Int.tmod x0_1 10))) % 256] : List Int)) (inner := [.int .u8 ((wrap64 (48 + (Int.tmod x0_1 10))) % 256)]) (ok := fun _ => True) (okp := fun _ => True) ?hr ?hp (fun _ hk => hk) trivial (Below.refl _ _) (Nat.le_refl _) (by simp) ?_; (case hd => rfl); (case hg => rfl); (case hr => first | (go_simp; done) | (go_simp; rfl)); (case hp => exact (Reps.one (show Kd.M (Kd.int .u8) _ _ _ ((wrap64 (48 + (Int.tmod x0_1 10))) % 256) [.int .u8 ((wrap64 (48 + (Int.tmod x0_1 10))) % 256)] from rfl) (Reps.none _ _))); intro v161 w5 ho6 hb hg_ hnew_; clear hg_ hnew_; (first | rw [← Ny160.out] at ho6 | (simp only [Int.reduceToNat] at ho6; rw [← Ny160.out] at ho6)); have n0_ := Aside0.mk (Kd.R_lower ho6 (below_size (by repeat (first | (with_reducible first | exact HB.out | apply below_alloc | apply pw_below_drewN | apply below_drew1) | exact HB.out)))); have n1_ := Aside0.mk (below_step (by repeat (first | (with_reducible first | exact HB.out | apply below_alloc | apply pw_below_drewN | apply below_drew1) | exact HB.out)) hb); clear HB; have HO162 := n0_; have HB := n1_; clear n0_ n1_; clear hb ho6; have hcv7 := own_string (P := Tryd.prog) Tryd.underlying84 Tryd.underlying5 Tryd.underlying9 (Kd.own_of_R HO162.out)))
          go_roundg k1
          case measure => have := HK1.out; omega
          case rel => exact ⟨(wrap64 (Int.tdiv x0_1 10)), ((strOfNums y160) ++ x5_1), (wrap64 (x6_1 + 1)), (by first | rfl | (simp; done) | (simp [*]; done)), (by first | rfl | (simp; done) | (simp [*]; done)), (by first | rfl | (simp; done) | (simp [*]; done)), H', ⟨by have := HK1.out; omega⟩, ⟨by repeat (first | (with_reducible first | exact HB.out | apply below_alloc | apply pw_below_drewN | apply below_drew1) | exact HB.out)⟩⟩
        · rw [if_neg c4] at H
          exact absurd H (by simp)
      · rw [if_neg c3] at H
        have c3b0 : decide (x6_1 < a1) = false := decide_eq_false c3
        clear c3
        obtain rfl := Option.some.inj H
        simp only [Option.some.injEq, Prod.mk.injEq] at H
        obtain ⟨rfl⟩ := H
        go_wp2
        go_ret
        exact ⟨by first | rfl | (simp [errW_none, errW_some] <;> rfl) | (simp [*, errW_none, errW_some] <;> rfl), by repeat (first | (with_reducible first | exact HB.out | apply below_alloc | apply pw_below_drewN | apply below_drew1) | exact HB.out)⟩

/-! ### montageref41_Text: function 37 -/
def montageref41_Text.f (k : Nat) (a0_0 : Int) (a0_1 : Int) (a0_2 : Int) (a0_3 : Int) (a0_4 : Int) (a0_5 : Int) : Option (ByteArray) := (montageref41_digits.f k a0_0 4).bind fun t164 => (if t164.size + 1 ≤ 9223372036854775807 then ((montageref41_digits.f k a0_1 2).bind fun t165 => (if (t164 ++ (⟨#[45]⟩ : ByteArray)).size + t165.size ≤ 9223372036854775807 then (if ((t164 ++ (⟨#[45]⟩ : ByteArray)) ++ t165).size + 1 ≤ 9223372036854775807 then ((montageref41_digits.f k a0_2 2).bind fun t166 => (if (((t164 ++ (⟨#[45]⟩ : ByteArray)) ++ t165) ++ (⟨#[45]⟩ : ByteArray)).size + t166.size ≤ 9223372036854775807 then (if ((((t164 ++ (⟨#[45]⟩ : ByteArray)) ++ t165) ++ (⟨#[45]⟩ : ByteArray)) ++ t166).size + 1 ≤ 9223372036854775807 then ((montageref41_digits.f k a0_3 2).bind fun t167 => (if (((((t164 ++ (⟨#[45]⟩ : ByteArray)) ++ t165) ++ (⟨#[45]⟩ : ByteArray)) ++ t166) ++ (⟨#[32]⟩ : ByteArray)).size + t167.size ≤ 9223372036854775807 then (if ((((((t164 ++ (⟨#[45]⟩ : ByteArray)) ++ t165) ++ (⟨#[45]⟩ : ByteArray)) ++ t166) ++ (⟨#[32]⟩ : ByteArray)) ++ t167).size + 1 ≤ 9223372036854775807 then ((montageref41_digits.f k a0_4 2).bind fun t168 => (if (((((((t164 ++ (⟨#[45]⟩ : ByteArray)) ++ t165) ++ (⟨#[45]⟩ : ByteArray)) ++ t166) ++ (⟨#[32]⟩ : ByteArray)) ++ t167) ++ (⟨#[58]⟩ : ByteArray)).size + t168.size ≤ 9223372036854775807 then (if ((((((((t164 ++ (⟨#[45]⟩ : ByteArray)) ++ t165) ++ (⟨#[45]⟩ : ByteArray)) ++ t166) ++ (⟨#[32]⟩ : ByteArray)) ++ t167) ++ (⟨#[58]⟩ : ByteArray)) ++ t168).size + 1 ≤ 9223372036854775807 then ((montageref41_digits.f k a0_5 2).bind fun t169 => (if (((((((((t164 ++ (⟨#[45]⟩ : ByteArray)) ++ t165) ++ (⟨#[45]⟩ : ByteArray)) ++ t166) ++ (⟨#[32]⟩ : ByteArray)) ++ t167) ++ (⟨#[58]⟩ : ByteArray)) ++ t168) ++ (⟨#[58]⟩ : ByteArray)).size + t169.size ≤ 9223372036854775807 then (some ((((((((((t164 ++ (⟨#[45]⟩ : ByteArray)) ++ t165) ++ (⟨#[45]⟩ : ByteArray)) ++ t166) ++ (⟨#[32]⟩ : ByteArray)) ++ t167) ++ (⟨#[58]⟩ : ByteArray)) ++ t168) ++ (⟨#[58]⟩ : ByteArray)) ++ t169)) else (none))) else (none)) else (none))) else (none)) else (none))) else (none)) else (none))) else (none)) else (none))) else (none))
theorem montageref41_Text.mono : ∀ a0 a1 a2 a3 a4 a5 k, LeO (montageref41_Text.f k a0 a1 a2 a3 a4 a5) (montageref41_Text.f (k + 1) a0 a1 a2 a3 a4 a5) := by
  intro a0 a1 a2 a3 a4 a5 k
  unfold montageref41_Text.f
  repeat' first
      | (with_reducible exact montageref41_digits.mono _ _ _)
      | (with_reducible exact LeO.refl _)
      | (with_reducible exact LeO.none _)
      | (with_reducible refine LeO.ite ?_ ?_)
      | (with_reducible refine LeO.bind ?_ (fun _ => ?_))
      | exact montageref41_digits.mono _ _ _
      | exact LeO.none _
      | refine LeO.ite ?_ ?_
      | refine LeO.bind ?_ (fun _ => ?_)
def montageref41_Text.T1 : Bool × List (List Nat × List Nat) := (true, [([], []), ([0], [0]), ([1], [1]), ([2], [2]), ([], []), ([4], [4]), ([5, 2], [5]), ([3, 6], [3, 6]), ([7], [7]), ([], []), ([9], [9]), ([10, 6], [10]), ([8, 11], [8, 11]), ([12], [12]), ([], []), ([14], [14]), ([15, 11], [15]), ([13, 16], [13, 16]), ([17], [17]), ([], []), ([19], [19]), ([20, 16], [20]), ([18, 21], [18, 21]), ([22], [22]), ([], []), ([24], [24]), ([25, 21], [25]), ([23, 26], [23, 26]), ([27, 26, 0, 1, 2, 3, 4, 5, 6, 7, 8, 9, 10, 11, 12, 13, 14, 15, 16, 17, 18, 19, 20, 21, 22, 23, 24, 25, 26, 27], [27])])
def montageref41_Text.B1 : List Nat := [0, 1, 3, 7, 0, 16, 55, 127, 255, 0, 512, 1655, 4095, 8191, 0, 16384, 52855, 131071, 262143, 0, 524288, 1691255, 4194303, 8388607, 0, 16777216, 54120055, 134217727, 268435455]
theorem montageref41_Text.tab1 : rtab .any (opsOf Tryd.f37 1) = montageref41_Text.T1 := by kernel_rfl
theorem montageref41_Text.bits1 : waitsOk montageref41_Text.T1.2 montageref41_Text.B1 = true := by kernel_rfl
set_option maxHeartbeats 8000000 in
set_option maxRecDepth 100000 in
theorem montageref41_Text.calls (k : Nat) (a0_0 : Int) (a0_1 : Int) (a0_2 : Int) (a0_3 : Int) (a0_4 : Int) (a0_5 : Int) (r : ByteArray) (w : World) (h : montageref41_Text.f k a0_0 a0_1 a0_2 a0_3 a0_4 a0_5 = some r) :
    Calls Tryd.prog 37 #[.agg #[.int .i64 a0_0, .int .i64 a0_1, .int .i64 a0_2, .int .i64 a0_3, .int .i64 a0_4, .int .i64 a0_5]] w fun e w' => e = .returned (.string r) ∧ Below w.heap.size w w' := by
  have hu38 := Tryd.underlying38
  have HB := Aside0.mk (Below.refl w.heap.size w)
  have H : ((montageref41_digits.f k a0_0 4).bind fun t164 => (if t164.size + 1 ≤ 9223372036854775807 then ((montageref41_digits.f k a0_1 2).bind fun t165 => (if (t164 ++ (⟨#[45]⟩ : ByteArray)).size + t165.size ≤ 9223372036854775807 then (if ((t164 ++ (⟨#[45]⟩ : ByteArray)) ++ t165).size + 1 ≤ 9223372036854775807 then ((montageref41_digits.f k a0_2 2).bind fun t166 => (if (((t164 ++ (⟨#[45]⟩ : ByteArray)) ++ t165) ++ (⟨#[45]⟩ : ByteArray)).size + t166.size ≤ 9223372036854775807 then (if ((((t164 ++ (⟨#[45]⟩ : ByteArray)) ++ t165) ++ (⟨#[45]⟩ : ByteArray)) ++ t166).size + 1 ≤ 9223372036854775807 then ((montageref41_digits.f k a0_3 2).bind fun t167 => (if (((((t164 ++ (⟨#[45]⟩ : ByteArray)) ++ t165) ++ (⟨#[45]⟩ : ByteArray)) ++ t166) ++ (⟨#[32]⟩ : ByteArray)).size + t167.size ≤ 9223372036854775807 then (if ((((((t164 ++ (⟨#[45]⟩ : ByteArray)) ++ t165) ++ (⟨#[45]⟩ : ByteArray)) ++ t166) ++ (⟨#[32]⟩ : ByteArray)) ++ t167).size + 1 ≤ 9223372036854775807 then ((montageref41_digits.f k a0_4 2).bind fun t168 => (if (((((((t164 ++ (⟨#[45]⟩ : ByteArray)) ++ t165) ++ (⟨#[45]⟩ : ByteArray)) ++ t166) ++ (⟨#[32]⟩ : ByteArray)) ++ t167) ++ (⟨#[58]⟩ : ByteArray)).size + t168.size ≤ 9223372036854775807 then (if ((((((((t164 ++ (⟨#[45]⟩ : ByteArray)) ++ t165) ++ (⟨#[45]⟩ : ByteArray)) ++ t166) ++ (⟨#[32]⟩ : ByteArray)) ++ t167) ++ (⟨#[58]⟩ : ByteArray)) ++ t168).size + 1 ≤ 9223372036854775807 then ((montageref41_digits.f k a0_5 2).bind fun t169 => (if (((((((((t164 ++ (⟨#[45]⟩ : ByteArray)) ++ t165) ++ (⟨#[45]⟩ : ByteArray)) ++ t166) ++ (⟨#[32]⟩ : ByteArray)) ++ t167) ++ (⟨#[58]⟩ : ByteArray)) ++ t168) ++ (⟨#[58]⟩ : ByteArray)).size + t169.size ≤ 9223372036854775807 then (some ((((((((((t164 ++ (⟨#[45]⟩ : ByteArray)) ++ t165) ++ (⟨#[45]⟩ : ByteArray)) ++ t166) ++ (⟨#[32]⟩ : ByteArray)) ++ t167) ++ (⟨#[58]⟩ : ByteArray)) ++ t168) ++ (⟨#[58]⟩ : ByteArray)) ++ t169)) else (none))) else (none)) else (none))) else (none)) else (none))) else (none)) else (none))) else (none)) else (none))) else (none))) = some r := h
  clear h
  replace H := Option.bind_eq_some_iff.mp H
  obtain ⟨t164, A20, H⟩ := H
  replace H : (if t164.size + 1 ≤ 9223372036854775807 then ((montageref41_digits.f k a0_1 2).bind fun t165 => (if (t164 ++ (⟨#[45]⟩ : ByteArray)).size + t165.size ≤ 9223372036854775807 then (if ((t164 ++ (⟨#[45]⟩ : ByteArray)) ++ t165).size + 1 ≤ 9223372036854775807 then ((montageref41_digits.f k a0_2 2).bind fun t166 => (if (((t164 ++ (⟨#[45]⟩ : ByteArray)) ++ t165) ++ (⟨#[45]⟩ : ByteArray)).size + t166.size ≤ 9223372036854775807 then (if ((((t164 ++ (⟨#[45]⟩ : ByteArray)) ++ t165) ++ (⟨#[45]⟩ : ByteArray)) ++ t166).size + 1 ≤ 9223372036854775807 then ((montageref41_digits.f k a0_3 2).bind fun t167 => (if (((((t164 ++ (⟨#[45]⟩ : ByteArray)) ++ t165) ++ (⟨#[45]⟩ : ByteArray)) ++ t166) ++ (⟨#[32]⟩ : ByteArray)).size + t167.size ≤ 9223372036854775807 then (if ((((((t164 ++ (⟨#[45]⟩ : ByteArray)) ++ t165) ++ (⟨#[45]⟩ : ByteArray)) ++ t166) ++ (⟨#[32]⟩ : ByteArray)) ++ t167).size + 1 ≤ 9223372036854775807 then ((montageref41_digits.f k a0_4 2).bind fun t168 => (if (((((((t164 ++ (⟨#[45]⟩ : ByteArray)) ++ t165) ++ (⟨#[45]⟩ : ByteArray)) ++ t166) ++ (⟨#[32]⟩ : ByteArray)) ++ t167) ++ (⟨#[58]⟩ : ByteArray)).size + t168.size ≤ 9223372036854775807 then (if ((((((((t164 ++ (⟨#[45]⟩ : ByteArray)) ++ t165) ++ (⟨#[45]⟩ : ByteArray)) ++ t166) ++ (⟨#[32]⟩ : ByteArray)) ++ t167) ++ (⟨#[58]⟩ : ByteArray)) ++ t168).size + 1 ≤ 9223372036854775807 then ((montageref41_digits.f k a0_5 2).bind fun t169 => (if (((((((((t164 ++ (⟨#[45]⟩ : ByteArray)) ++ t165) ++ (⟨#[45]⟩ : ByteArray)) ++ t166) ++ (⟨#[32]⟩ : ByteArray)) ++ t167) ++ (⟨#[58]⟩ : ByteArray)) ++ t168) ++ (⟨#[58]⟩ : ByteArray)).size + t169.size ≤ 9223372036854775807 then (some ((((((((((t164 ++ (⟨#[45]⟩ : ByteArray)) ++ t165) ++ (⟨#[45]⟩ : ByteArray)) ++ t166) ++ (⟨#[32]⟩ : ByteArray)) ++ t167) ++ (⟨#[58]⟩ : ByteArray)) ++ t168) ++ (⟨#[58]⟩ : ByteArray)) ++ t169)) else (none))) else (none)) else (none))) else (none)) else (none))) else (none)) else (none))) else (none)) else (none))) else (none)) = some r := H
  have A2 := Aside0.mk A20
  clear A20
  by_cases c3 : t164.size + 1 ≤ 9223372036854775807
  · rw [if_pos c3] at H
    have c3b0 := eq_true c3
    have c3b1 : decide (t164.size + 1 ≤ 9223372036854775807) = true := decide_eq_true c3
    try have c3b2 : (9223372036854775807 < t164.size + 1) = False := eq_false (Nat.not_lt.2 c3)
    replace H := Option.bind_eq_some_iff.mp H
    obtain ⟨t165, A40, H⟩ := H
    replace H : (if (t164 ++ (⟨#[45]⟩ : ByteArray)).size + t165.size ≤ 9223372036854775807 then (if ((t164 ++ (⟨#[45]⟩ : ByteArray)) ++ t165).size + 1 ≤ 9223372036854775807 then ((montageref41_digits.f k a0_2 2).bind fun t166 => (if (((t164 ++ (⟨#[45]⟩ : ByteArray)) ++ t165) ++ (⟨#[45]⟩ : ByteArray)).size + t166.size ≤ 9223372036854775807 then (if ((((t164 ++ (⟨#[45]⟩ : ByteArray)) ++ t165) ++ (⟨#[45]⟩ : ByteArray)) ++ t166).size + 1 ≤ 9223372036854775807 then ((montageref41_digits.f k a0_3 2).bind fun t167 => (if (((((t164 ++ (⟨#[45]⟩ : ByteArray)) ++ t165) ++ (⟨#[45]⟩ : ByteArray)) ++ t166) ++ (⟨#[32]⟩ : ByteArray)).size + t167.size ≤ 9223372036854775807 then (if ((((((t164 ++ (⟨#[45]⟩ : ByteArray)) ++ t165) ++ (⟨#[45]⟩ : ByteArray)) ++ t166) ++ (⟨#[32]⟩ : ByteArray)) ++ t167).size + 1 ≤ 9223372036854775807 then ((montageref41_digits.f k a0_4 2).bind fun t168 => (if (((((((t164 ++ (⟨#[45]⟩ : ByteArray)) ++ t165) ++ (⟨#[45]⟩ : ByteArray)) ++ t166) ++ (⟨#[32]⟩ : ByteArray)) ++ t167) ++ (⟨#[58]⟩ : ByteArray)).size + t168.size ≤ 9223372036854775807 then (if ((((((((t164 ++ (⟨#[45]⟩ : ByteArray)) ++ t165) ++ (⟨#[45]⟩ : ByteArray)) ++ t166) ++ (⟨#[32]⟩ : ByteArray)) ++ t167) ++ (⟨#[58]⟩ : ByteArray)) ++ t168).size + 1 ≤ 9223372036854775807 then ((montageref41_digits.f k a0_5 2).bind fun t169 => (if (((((((((t164 ++ (⟨#[45]⟩ : ByteArray)) ++ t165) ++ (⟨#[45]⟩ : ByteArray)) ++ t166) ++ (⟨#[32]⟩ : ByteArray)) ++ t167) ++ (⟨#[58]⟩ : ByteArray)) ++ t168) ++ (⟨#[58]⟩ : ByteArray)).size + t169.size ≤ 9223372036854775807 then (some ((((((((((t164 ++ (⟨#[45]⟩ : ByteArray)) ++ t165) ++ (⟨#[45]⟩ : ByteArray)) ++ t166) ++ (⟨#[32]⟩ : ByteArray)) ++ t167) ++ (⟨#[58]⟩ : ByteArray)) ++ t168) ++ (⟨#[58]⟩ : ByteArray)) ++ t169)) else (none))) else (none)) else (none))) else (none)) else (none))) else (none)) else (none))) else (none)) else (none)) = some r := H
    have A4 := Aside0.mk A40
    clear A40
    by_cases c5 : (t164 ++ (⟨#[45]⟩ : ByteArray)).size + t165.size ≤ 9223372036854775807
    · rw [if_pos c5] at H
      have c5b0 := eq_true c5
      have c5b1 : decide ((t164 ++ (⟨#[45]⟩ : ByteArray)).size + t165.size ≤ 9223372036854775807) = true := decide_eq_true c5
      try have c5b2 : (9223372036854775807 < (t164 ++ (⟨#[45]⟩ : ByteArray)).size + t165.size) = False := eq_false (Nat.not_lt.2 c5)
      (try (have c5b3 := c5b2; simp only [ByteArray.size_append', show (⟨#[45]⟩ : ByteArray).size = 1 from rfl] at c5b3))
      by_cases c6 : ((t164 ++ (⟨#[45]⟩ : ByteArray)) ++ t165).size + 1 ≤ 9223372036854775807
      · rw [if_pos c6] at H
        have c6b0 := eq_true c6
        have c6b1 : decide (((t164 ++ (⟨#[45]⟩ : ByteArray)) ++ t165).size + 1 ≤ 9223372036854775807) = true := decide_eq_true c6
        try have c6b2 : (9223372036854775807 < ((t164 ++ (⟨#[45]⟩ : ByteArray)) ++ t165).size + 1) = False := eq_false (Nat.not_lt.2 c6)
        (try (have c6b3 := c6b2; simp only [ByteArray.size_append', show (⟨#[45]⟩ : ByteArray).size = 1 from rfl] at c6b3))
        replace H := Option.bind_eq_some_iff.mp H
        obtain ⟨t166, A70, H⟩ := H
        replace H : (if (((t164 ++ (⟨#[45]⟩ : ByteArray)) ++ t165) ++ (⟨#[45]⟩ : ByteArray)).size + t166.size ≤ 9223372036854775807 then (if ((((t164 ++ (⟨#[45]⟩ : ByteArray)) ++ t165) ++ (⟨#[45]⟩ : ByteArray)) ++ t166).size + 1 ≤ 9223372036854775807 then ((montageref41_digits.f k a0_3 2).bind fun t167 => (if (((((t164 ++ (⟨#[45]⟩ : ByteArray)) ++ t165) ++ (⟨#[45]⟩ : ByteArray)) ++ t166) ++ (⟨#[32]⟩ : ByteArray)).size + t167.size ≤ 9223372036854775807 then (if ((((((t164 ++ (⟨#[45]⟩ : ByteArray)) ++ t165) ++ (⟨#[45]⟩ : ByteArray)) ++ t166) ++ (⟨#[32]⟩ : ByteArray)) ++ t167).size + 1 ≤ 9223372036854775807 then ((montageref41_digits.f k a0_4 2).bind fun t168 => (if (((((((t164 ++ (⟨#[45]⟩ : ByteArray)) ++ t165) ++ (⟨#[45]⟩ : ByteArray)) ++ t166) ++ (⟨#[32]⟩ : ByteArray)) ++ t167) ++ (⟨#[58]⟩ : ByteArray)).size + t168.size ≤ 9223372036854775807 then (if ((((((((t164 ++ (⟨#[45]⟩ : ByteArray)) ++ t165) ++ (⟨#[45]⟩ : ByteArray)) ++ t166) ++ (⟨#[32]⟩ : ByteArray)) ++ t167) ++ (⟨#[58]⟩ : ByteArray)) ++ t168).size + 1 ≤ 9223372036854775807 then ((montageref41_digits.f k a0_5 2).bind fun t169 => (if (((((((((t164 ++ (⟨#[45]⟩ : ByteArray)) ++ t165) ++ (⟨#[45]⟩ : ByteArray)) ++ t166) ++ (⟨#[32]⟩ : ByteArray)) ++ t167) ++ (⟨#[58]⟩ : ByteArray)) ++ t168) ++ (⟨#[58]⟩ : ByteArray)).size + t169.size ≤ 9223372036854775807 then (some ((((((((((t164 ++ (⟨#[45]⟩ : ByteArray)) ++ t165) ++ (⟨#[45]⟩ : ByteArray)) ++ t166) ++ (⟨#[32]⟩ : ByteArray)) ++ t167) ++ (⟨#[58]⟩ : ByteArray)) ++ t168) ++ (⟨#[58]⟩ : ByteArray)) ++ t169)) else (none))) else (none)) else (none))) else (none)) else (none))) else (none)) else (none)) = some r := H
        have A7 := Aside0.mk A70
        clear A70
        by_cases c8 : (((t164 ++ (⟨#[45]⟩ : ByteArray)) ++ t165) ++ (⟨#[45]⟩ : ByteArray)).size + t166.size ≤ 9223372036854775807
        · rw [if_pos c8] at H
          have c8b0 := eq_true c8
          have c8b1 : decide ((((t164 ++ (⟨#[45]⟩ : ByteArray)) ++ t165) ++ (⟨#[45]⟩ : ByteArray)).size + t166.size ≤ 9223372036854775807) = true := decide_eq_true c8
          try have c8b2 : (9223372036854775807 < (((t164 ++ (⟨#[45]⟩ : ByteArray)) ++ t165) ++ (⟨#[45]⟩ : ByteArray)).size + t166.size) = False := eq_false (Nat.not_lt.2 c8)
          (try (have c8b3 := c8b2; simp only [ByteArray.size_append', show (⟨#[45]⟩ : ByteArray).size = 1 from rfl] at c8b3))
          by_cases c9 : ((((t164 ++ (⟨#[45]⟩ : ByteArray)) ++ t165) ++ (⟨#[45]⟩ : ByteArray)) ++ t166).size + 1 ≤ 9223372036854775807
          · rw [if_pos c9] at H
            have c9b0 := eq_true c9
            have c9b1 : decide (((((t164 ++ (⟨#[45]⟩ : ByteArray)) ++ t165) ++ (⟨#[45]⟩ : ByteArray)) ++ t166).size + 1 ≤ 9223372036854775807) = true := decide_eq_true c9
            try have c9b2 : (9223372036854775807 < ((((t164 ++ (⟨#[45]⟩ : ByteArray)) ++ t165) ++ (⟨#[45]⟩ : ByteArray)) ++ t166).size + 1) = False := eq_false (Nat.not_lt.2 c9)
            (try (have c9b3 := c9b2; simp only [ByteArray.size_append', show (⟨#[45]⟩ : ByteArray).size = 1 from rfl] at c9b3))
            replace H := Option.bind_eq_some_iff.mp H
            obtain ⟨t167, A100, H⟩ := H
            replace H : (if (((((t164 ++ (⟨#[45]⟩ : ByteArray)) ++ t165) ++ (⟨#[45]⟩ : ByteArray)) ++ t166) ++ (⟨#[32]⟩ : ByteArray)).size + t167.size ≤ 9223372036854775807 then (if ((((((t164 ++ (⟨#[45]⟩ : ByteArray)) ++ t165) ++ (⟨#[45]⟩ : ByteArray)) ++ t166) ++ (⟨#[32]⟩ : ByteArray)) ++ t167).size + 1 ≤ 9223372036854775807 then ((montageref41_digits.f k a0_4 2).bind fun t168 => (if (((((((t164 ++ (⟨#[45]⟩ : ByteArray)) ++ t165) ++ (⟨#[45]⟩ : ByteArray)) ++ t166) ++ (⟨#[32]⟩ : ByteArray)) ++ t167) ++ (⟨#[58]⟩ : ByteArray)).size + t168.size ≤ 9223372036854775807 then (if ((((((((t164 ++ (⟨#[45]⟩ : ByteArray)) ++ t165) ++ (⟨#[45]⟩ : ByteArray)) ++ t166) ++ (⟨#[32]⟩ : ByteArray)) ++ t167) ++ (⟨#[58]⟩ : ByteArray)) ++ t168).size + 1 ≤ 9223372036854775807 then ((montageref41_digits.f k a0_5 2).bind fun t169 => (if (((((((((t164 ++ (⟨#[45]⟩ : ByteArray)) ++ t165) ++ (⟨#[45]⟩ : ByteArray)) ++ t166) ++ (⟨#[32]⟩ : ByteArray)) ++ t167) ++ (⟨#[58]⟩ : ByteArray)) ++ t168) ++ (⟨#[58]⟩ : ByteArray)).size + t169.size ≤ 9223372036854775807 then (some ((((((((((t164 ++ (⟨#[45]⟩ : ByteArray)) ++ t165) ++ (⟨#[45]⟩ : ByteArray)) ++ t166) ++ (⟨#[32]⟩ : ByteArray)) ++ t167) ++ (⟨#[58]⟩ : ByteArray)) ++ t168) ++ (⟨#[58]⟩ : ByteArray)) ++ t169)) else (none))) else (none)) else (none))) else (none)) else (none)) = some r := H
            have A10 := Aside0.mk A100
            clear A100
            by_cases c11 : (((((t164 ++ (⟨#[45]⟩ : ByteArray)) ++ t165) ++ (⟨#[45]⟩ : ByteArray)) ++ t166) ++ (⟨#[32]⟩ : ByteArray)).size + t167.size ≤ 9223372036854775807
            · rw [if_pos c11] at H
              have c11b0 := eq_true c11
              have c11b1 : decide ((((((t164 ++ (⟨#[45]⟩ : ByteArray)) ++ t165) ++ (⟨#[45]⟩ : ByteArray)) ++ t166) ++ (⟨#[32]⟩ : ByteArray)).size + t167.size ≤ 9223372036854775807) = true := decide_eq_true c11
              try have c11b2 : (9223372036854775807 < (((((t164 ++ (⟨#[45]⟩ : ByteArray)) ++ t165) ++ (⟨#[45]⟩ : ByteArray)) ++ t166) ++ (⟨#[32]⟩ : ByteArray)).size + t167.size) = False := eq_false (Nat.not_lt.2 c11)
              (try (have c11b3 := c11b2; simp only [ByteArray.size_append', show (⟨#[32]⟩ : ByteArray).size = 1 from rfl, show (⟨#[45]⟩ : ByteArray).size = 1 from rfl] at c11b3))
              by_cases c12 : ((((((t164 ++ (⟨#[45]⟩ : ByteArray)) ++ t165) ++ (⟨#[45]⟩ : ByteArray)) ++ t166) ++ (⟨#[32]⟩ : ByteArray)) ++ t167).size + 1 ≤ 9223372036854775807
              · rw [if_pos c12] at H
                have c12b0 := eq_true c12
                have c12b1 : decide (((((((t164 ++ (⟨#[45]⟩ : ByteArray)) ++ t165) ++ (⟨#[45]⟩ : ByteArray)) ++ t166) ++ (⟨#[32]⟩ : ByteArray)) ++ t167).size + 1 ≤ 9223372036854775807) = true := decide_eq_true c12
                try have c12b2 : (9223372036854775807 < ((((((t164 ++ (⟨#[45]⟩ : ByteArray)) ++ t165) ++ (⟨#[45]⟩ : ByteArray)) ++ t166) ++ (⟨#[32]⟩ : ByteArray)) ++ t167).size + 1) = False := eq_false (Nat.not_lt.2 c12)
                (try (have c12b3 := c12b2; simp only [ByteArray.size_append', show (⟨#[32]⟩ : ByteArray).size = 1 from rfl, show (⟨#[45]⟩ : ByteArray).size = 1 from rfl] at c12b3))
                replace H := Option.bind_eq_some_iff.mp H
                obtain ⟨t168, A130, H⟩ := H
                replace H : (if (((((((t164 ++ (⟨#[45]⟩ : ByteArray)) ++ t165) ++ (⟨#[45]⟩ : ByteArray)) ++ t166) ++ (⟨#[32]⟩ : ByteArray)) ++ t167) ++ (⟨#[58]⟩ : ByteArray)).size + t168.size ≤ 9223372036854775807 then (if ((((((((t164 ++ (⟨#[45]⟩ : ByteArray)) ++ t165) ++ (⟨#[45]⟩ : ByteArray)) ++ t166) ++ (⟨#[32]⟩ : ByteArray)) ++ t167) ++ (⟨#[58]⟩ : ByteArray)) ++ t168).size + 1 ≤ 9223372036854775807 then ((montageref41_digits.f k a0_5 2).bind fun t169 => (if (((((((((t164 ++ (⟨#[45]⟩ : ByteArray)) ++ t165) ++ (⟨#[45]⟩ : ByteArray)) ++ t166) ++ (⟨#[32]⟩ : ByteArray)) ++ t167) ++ (⟨#[58]⟩ : ByteArray)) ++ t168) ++ (⟨#[58]⟩ : ByteArray)).size + t169.size ≤ 9223372036854775807 then (some ((((((((((t164 ++ (⟨#[45]⟩ : ByteArray)) ++ t165) ++ (⟨#[45]⟩ : ByteArray)) ++ t166) ++ (⟨#[32]⟩ : ByteArray)) ++ t167) ++ (⟨#[58]⟩ : ByteArray)) ++ t168) ++ (⟨#[58]⟩ : ByteArray)) ++ t169)) else (none))) else (none)) else (none)) = some r := H
                have A13 := Aside0.mk A130
                clear A130
                by_cases c14 : (((((((t164 ++ (⟨#[45]⟩ : ByteArray)) ++ t165) ++ (⟨#[45]⟩ : ByteArray)) ++ t166) ++ (⟨#[32]⟩ : ByteArray)) ++ t167) ++ (⟨#[58]⟩ : ByteArray)).size + t168.size ≤ 9223372036854775807
                · rw [if_pos c14] at H
                  have c14b0 := eq_true c14
                  have c14b1 : decide ((((((((t164 ++ (⟨#[45]⟩ : ByteArray)) ++ t165) ++ (⟨#[45]⟩ : ByteArray)) ++ t166) ++ (⟨#[32]⟩ : ByteArray)) ++ t167) ++ (⟨#[58]⟩ : ByteArray)).size + t168.size ≤ 9223372036854775807) = true := decide_eq_true c14
                  try have c14b2 : (9223372036854775807 < (((((((t164 ++ (⟨#[45]⟩ : ByteArray)) ++ t165) ++ (⟨#[45]⟩ : ByteArray)) ++ t166) ++ (⟨#[32]⟩ : ByteArray)) ++ t167) ++ (⟨#[58]⟩ : ByteArray)).size + t168.size) = False := eq_false (Nat.not_lt.2 c14)
                  (try (have c14b3 := c14b2; simp only [ByteArray.size_append', show (⟨#[32]⟩ : ByteArray).size = 1 from rfl, show (⟨#[45]⟩ : ByteArray).size = 1 from rfl, show (⟨#[58]⟩ : ByteArray).size = 1 from rfl] at c14b3))
                  by_cases c15 : ((((((((t164 ++ (⟨#[45]⟩ : ByteArray)) ++ t165) ++ (⟨#[45]⟩ : ByteArray)) ++ t166) ++ (⟨#[32]⟩ : ByteArray)) ++ t167) ++ (⟨#[58]⟩ : ByteArray)) ++ t168).size + 1 ≤ 9223372036854775807
                  · rw [if_pos c15] at H
                    have c15b0 := eq_true c15
                    have c15b1 : decide (((((((((t164 ++ (⟨#[45]⟩ : ByteArray)) ++ t165) ++ (⟨#[45]⟩ : ByteArray)) ++ t166) ++ (⟨#[32]⟩ : ByteArray)) ++ t167) ++ (⟨#[58]⟩ : ByteArray)) ++ t168).size + 1 ≤ 9223372036854775807) = true := decide_eq_true c15
                    try have c15b2 : (9223372036854775807 < ((((((((t164 ++ (⟨#[45]⟩ : ByteArray)) ++ t165) ++ (⟨#[45]⟩ : ByteArray)) ++ t166) ++ (⟨#[32]⟩ : ByteArray)) ++ t167) ++ (⟨#[58]⟩ : ByteArray)) ++ t168).size + 1) = False := eq_false (Nat.not_lt.2 c15)
                    (try (have c15b3 := c15b2; simp only [ByteArray.size_append', show (⟨#[32]⟩ : ByteArray).size = 1 from rfl, show (⟨#[45]⟩ : ByteArray).size = 1 from rfl, show (⟨#[58]⟩ : ByteArray).size = 1 from rfl] at c15b3))
                    replace H := Option.bind_eq_some_iff.mp H
                    obtain ⟨t169, A160, H⟩ := H
                    replace H : (if (((((((((t164 ++ (⟨#[45]⟩ : ByteArray)) ++ t165) ++ (⟨#[45]⟩ : ByteArray)) ++ t166) ++ (⟨#[32]⟩ : ByteArray)) ++ t167) ++ (⟨#[58]⟩ : ByteArray)) ++ t168) ++ (⟨#[58]⟩ : ByteArray)).size + t169.size ≤ 9223372036854775807 then (some ((((((((((t164 ++ (⟨#[45]⟩ : ByteArray)) ++ t165) ++ (⟨#[45]⟩ : ByteArray)) ++ t166) ++ (⟨#[32]⟩ : ByteArray)) ++ t167) ++ (⟨#[58]⟩ : ByteArray)) ++ t168) ++ (⟨#[58]⟩ : ByteArray)) ++ t169)) else (none)) = some r := H
                    have A16 := Aside0.mk A160
                    clear A160
                    by_cases c17 : (((((((((t164 ++ (⟨#[45]⟩ : ByteArray)) ++ t165) ++ (⟨#[45]⟩ : ByteArray)) ++ t166) ++ (⟨#[32]⟩ : ByteArray)) ++ t167) ++ (⟨#[58]⟩ : ByteArray)) ++ t168) ++ (⟨#[58]⟩ : ByteArray)).size + t169.size ≤ 9223372036854775807
                    · rw [if_pos c17] at H
                      have c17b0 := eq_true c17
                      have c17b1 : decide ((((((((((t164 ++ (⟨#[45]⟩ : ByteArray)) ++ t165) ++ (⟨#[45]⟩ : ByteArray)) ++ t166) ++ (⟨#[32]⟩ : ByteArray)) ++ t167) ++ (⟨#[58]⟩ : ByteArray)) ++ t168) ++ (⟨#[58]⟩ : ByteArray)).size + t169.size ≤ 9223372036854775807) = true := decide_eq_true c17
                      try have c17b2 : (9223372036854775807 < (((((((((t164 ++ (⟨#[45]⟩ : ByteArray)) ++ t165) ++ (⟨#[45]⟩ : ByteArray)) ++ t166) ++ (⟨#[32]⟩ : ByteArray)) ++ t167) ++ (⟨#[58]⟩ : ByteArray)) ++ t168) ++ (⟨#[58]⟩ : ByteArray)).size + t169.size) = False := eq_false (Nat.not_lt.2 c17)
                      (try (have c17b3 := c17b2; simp only [ByteArray.size_append', show (⟨#[32]⟩ : ByteArray).size = 1 from rfl, show (⟨#[45]⟩ : ByteArray).size = 1 from rfl, show (⟨#[58]⟩ : ByteArray).size = 1 from rfl] at c17b3))
                      obtain rfl := Option.some.inj H
                      simp only [Option.some.injEq, Prod.mk.injEq] at H
                      obtain ⟨rfl⟩ := H
                      go_enter Tryd.func37, Tryd.ntmps37
                      try go_wp2_with (first | ((with_reducible refine gate_dst (N := 1) rfl ?_); refine box_event ?hg (N := 1) ?hd (cs := #[.int .i64 a0_0, .int .i64 a0_1, .int .i64 a0_2, .int .i64 a0_3, .int .i64 a0_4, .int .i64 a0_5]) (t := 38) ?hr ?_; (case hd => rfl); (case hg => rfl); (case hr => first | (go_simp; done) | (go_simp; rfl)); intro gb163 hg w18 hbox hb; have n0_ := Aside0.mk (below_step (by repeat (first | (with_reducible first | exact HB.out | apply below_alloc | apply pw_below_drewN | apply below_drew1) | exact HB.out)) hb); have n1_ := Aside0.mk (hbox); have n2_ := Aside0.mk ((by rw [hg]; exact (below_size (by repeat (first | (with_reducible first | exact HB.out | apply below_alloc | apply pw_below_drewN | apply below_drew1) | exact HB.out))) : w.heap.size ≤ gb163)); have n3_ := Aside0.mk ((by rw [hg]; exact (below_size (by repeat (first | (with_reducible first | exact HB.out | apply below_alloc | apply pw_below_drewN | apply below_drew1) | exact HB.out))) : w.heap.size ≤ gb163)); clear HB; have HB := n0_; have BK163 := n1_; have GW163 := n2_; have GE163 := n3_; clear n0_ n1_ n2_ n3_; clear hb hbox hg))
                      have n0_ := Aside0.mk (blk_drew BK163.out)
                      have n1_ := Aside0.mk (below_drew1 HB.out)
                      clear BK163
                      clear HB
                      have BK163 := n0_
                      have HB := n1_
                      clear n0_ n1_
                      refine start_ (n := 29) (S := fun w' => w'.cell? ⟨gb163, 0, none⟩ = some (.int .i64 a0_0) ∧ w'.cell? ⟨gb163, 1, none⟩ = some (.int .i64 a0_1) ∧ w'.cell? ⟨gb163, 2, none⟩ = some (.int .i64 a0_2) ∧ w'.cell? ⟨gb163, 3, none⟩ = some (.int .i64 a0_3) ∧ w'.cell? ⟨gb163, 4, none⟩ = some (.int .i64 a0_4) ∧ w'.cell? ⟨gb163, 5, none⟩ = some (.int .i64 a0_5)) (ds := []) #[false, false, false, false, false, false, false, false, false, false, false, false, false, false, false, false, false, false, false, false, false, false, false, false, false, false, false, false, false] (by kernel_rfl) rfl rfl ⟨(blk_cell BK163.out 0).trans rfl, (blk_cell BK163.out 1).trans rfl, (blk_cell BK163.out 2).trans rfl, (blk_cell BK163.out 3).trans rfl, (blk_cell BK163.out 4).trans rfl, (blk_cell BK163.out 5).trans rfl⟩ (fun hHeld => ?_); refine with_tabW montageref41_Text.tab1 montageref41_Text.bits1 (fun HT_ HW_ => ?_)
                      generalize w18.drew = w19 at BK163 HB hHeld ⊢
                      refine pure_ (i := 0) (N := some 3) (v := ?_) (a' := ?_) #[true, false, false, false, false, false, false, false, false, false, false, false, false, false, false, false, false, false, false, false, false, false, false, false, false, false, false, false, false] rfl rfl (any_of HT_.out (by kernel_rfl)) (fun _ _ _ h => h) (Or.inl ⟨by rfl, ?_⟩) ?_ ?_
                      rotate_left
                      · intro w'
                        go_simp
                        with_reducible rfl
                      rotate_left
                      · simp only [Act.put, List.setIfInBounds_toArray, List.set_cons_zero, List.set_cons_succ, i64_w, i32_w]
                        rfl
                      refine pure_ (i := 4) (N := some 7) (v := ?_) (a' := ?_) #[true, false, false, false, true, false, false, false, false, false, false, false, false, false, false, false, false, false, false, false, false, false, false, false, false, false, false, false, false] rfl rfl (any_of HT_.out (by kernel_rfl)) (fun _ _ _ h => h) (Or.inl ⟨by rfl, ?_⟩) ?_ ?_
                      rotate_left
                      · intro w'
                        go_simp
                        with_reducible rfl
                      rotate_left
                      · simp only [Act.put, List.setIfInBounds_toArray, List.set_cons_zero, List.set_cons_succ, i64_w, i32_w]
                        rfl
                      refine pure_ (i := 9) (N := some 12) (v := ?_) (a' := ?_) #[true, false, false, false, true, false, false, false, false, true, false, false, false, false, false, false, false, false, false, false, false, false, false, false, false, false, false, false, false] rfl rfl (any_of HT_.out (by kernel_rfl)) (fun _ _ _ h => h) (Or.inl ⟨by rfl, ?_⟩) ?_ ?_
                      rotate_left
                      · intro w'
                        go_simp
                        with_reducible rfl
                      rotate_left
                      · simp only [Act.put, List.setIfInBounds_toArray, List.set_cons_zero, List.set_cons_succ, i64_w, i32_w]
                        rfl
                      refine pure_ (i := 14) (N := some 17) (v := ?_) (a' := ?_) #[true, false, false, false, true, false, false, false, false, true, false, false, false, false, true, false, false, false, false, false, false, false, false, false, false, false, false, false, false] rfl rfl (any_of HT_.out (by kernel_rfl)) (fun _ _ _ h => h) (Or.inl ⟨by rfl, ?_⟩) ?_ ?_
                      rotate_left
                      · intro w'
                        go_simp
                        with_reducible rfl
                      rotate_left
                      · simp only [Act.put, List.setIfInBounds_toArray, List.set_cons_zero, List.set_cons_succ, i64_w, i32_w]
                        rfl
                      refine pure_ (i := 19) (N := some 22) (v := ?_) (a' := ?_) #[true, false, false, false, true, false, false, false, false, true, false, false, false, false, true, false, false, false, false, true, false, false, false, false, false, false, false, false, false] rfl rfl (any_of HT_.out (by kernel_rfl)) (fun _ _ _ h => h) (Or.inl ⟨by rfl, ?_⟩) ?_ ?_
                      rotate_left
                      · intro w'
                        go_simp
                        with_reducible rfl
                      rotate_left
                      · simp only [Act.put, List.setIfInBounds_toArray, List.set_cons_zero, List.set_cons_succ, i64_w, i32_w]
                        rfl
                      refine pure_ (i := 24) (N := some 27) (v := ?_) (a' := ?_) #[true, false, false, false, true, false, false, false, false, true, false, false, false, false, true, false, false, false, false, true, false, false, false, false, true, false, false, false, false] rfl rfl (any_of HT_.out (by kernel_rfl)) (fun _ _ _ h => h) (Or.inl ⟨by rfl, ?_⟩) ?_ ?_
                      rotate_left
                      · intro w'
                        go_simp
                        with_reducible rfl
                      rotate_left
                      · simp only [Act.put, List.setIfInBounds_toArray, List.set_cons_zero, List.set_cons_succ, i64_w, i32_w]
                        rfl
                      refine take_ (i := 1) (N := some 4) (v := ?_) (a' := ?_) #[true, true, false, false, true, false, false, false, false, true, false, false, false, false, true, false, false, false, false, true, false, false, false, false, true, false, false, false, false] rfl rfl (take_ofW HT_.out HW_.out (by kernel_rfl)) (fun _ _ _ h => h) (Or.inl ⟨by rfl, ?_⟩) hHeld ?_ ?_
                      rotate_left
                      · rintro w' ⟨s0, s1, s2, s3, s4, s5⟩
                        go_simp
                        with_reducible rfl
                      rotate_left
                      · simp only [Act.put, List.setIfInBounds_toArray, List.set_cons_zero, List.set_cons_succ, i64_w, i32_w]
                        rfl
                      refine take_ (i := 5) (N := some 8) (v := ?_) (a' := ?_) #[true, true, false, false, true, true, false, false, false, true, false, false, false, false, true, false, false, false, false, true, false, false, false, false, true, false, false, false, false] rfl rfl (take_ofW HT_.out HW_.out (by kernel_rfl)) (fun _ _ _ h => h) (Or.inl ⟨by rfl, ?_⟩) hHeld ?_ ?_
                      rotate_left
                      · rintro w' ⟨s0, s1, s2, s3, s4, s5⟩
                        go_simp
                        with_reducible rfl
                      rotate_left
                      · simp only [Act.put, List.setIfInBounds_toArray, List.set_cons_zero, List.set_cons_succ, i64_w, i32_w]
                        rfl
                      refine take_ (i := 10) (N := some 13) (v := ?_) (a' := ?_) #[true, true, false, false, true, true, false, false, false, true, true, false, false, false, true, false, false, false, false, true, false, false, false, false, true, false, false, false, false] rfl rfl (take_ofW HT_.out HW_.out (by kernel_rfl)) (fun _ _ _ h => h) (Or.inl ⟨by rfl, ?_⟩) hHeld ?_ ?_
                      rotate_left
                      · rintro w' ⟨s0, s1, s2, s3, s4, s5⟩
                        go_simp
                        with_reducible rfl
                      rotate_left
                      · simp only [Act.put, List.setIfInBounds_toArray, List.set_cons_zero, List.set_cons_succ, i64_w, i32_w]
                        rfl
                      refine take_ (i := 15) (N := some 18) (v := ?_) (a' := ?_) #[true, true, false, false, true, true, false, false, false, true, true, false, false, false, true, true, false, false, false, true, false, false, false, false, true, false, false, false, false] rfl rfl (take_ofW HT_.out HW_.out (by kernel_rfl)) (fun _ _ _ h => h) (Or.inl ⟨by rfl, ?_⟩) hHeld ?_ ?_
                      rotate_left
                      · rintro w' ⟨s0, s1, s2, s3, s4, s5⟩
                        go_simp
                        with_reducible rfl
                      rotate_left
                      · simp only [Act.put, List.setIfInBounds_toArray, List.set_cons_zero, List.set_cons_succ, i64_w, i32_w]
                        rfl
                      refine take_ (i := 20) (N := some 23) (v := ?_) (a' := ?_) #[true, true, false, false, true, true, false, false, false, true, true, false, false, false, true, true, false, false, false, true, true, false, false, false, true, false, false, false, false] rfl rfl (take_ofW HT_.out HW_.out (by kernel_rfl)) (fun _ _ _ h => h) (Or.inl ⟨by rfl, ?_⟩) hHeld ?_ ?_
                      rotate_left
                      · rintro w' ⟨s0, s1, s2, s3, s4, s5⟩
                        go_simp
                        with_reducible rfl
                      rotate_left
                      · simp only [Act.put, List.setIfInBounds_toArray, List.set_cons_zero, List.set_cons_succ, i64_w, i32_w]
                        rfl
                      refine take_ (i := 25) (N := some 28) (v := ?_) (a' := ?_) #[true, true, false, false, true, true, false, false, false, true, true, false, false, false, true, true, false, false, false, true, true, false, false, false, true, true, false, false, false] rfl rfl (take_ofW HT_.out HW_.out (by kernel_rfl)) (fun _ _ _ h => h) (Or.inl ⟨by rfl, ?_⟩) hHeld ?_ ?_
                      rotate_left
                      · rintro w' ⟨s0, s1, s2, s3, s4, s5⟩
                        go_simp
                        with_reducible rfl
                      rotate_left
                      · simp only [Act.put, List.setIfInBounds_toArray, List.set_cons_zero, List.set_cons_succ, i64_w, i32_w]
                        rfl
                      refine one_ (i := 2) (N := some 5) #[true, true, true, false, true, true, false, false, false, true, true, false, false, false, true, true, false, false, false, true, true, false, false, false, true, true, false, false, false] rfl rfl (one_of HT_.out (by kernel_rfl)) (by decide) (fun K hK => ?_)
                      refine goes_ Tryd.func82 (by kernel_rfl) rfl #[.int .i64 a0_0, .int .i64 4] (by rfl) rfl rfl (by (try simp only [List.map_toArray, List.map_cons, List.map_nil]); first | done | rfl | (simp only [List.length_drop, List.length_take]; rfl)) ?_
                      with_reducible refine (montageref41_digits.calls k a0_0 4 t164 _ A2.out).mono ?_
                      rintro e w20 ⟨rfl, hb⟩
                      refine ⟨_, rfl, ?_⟩
                      have n0_ := Aside0.mk (blk_below (g := gb163) (o := .cells #[.int .i64 a0_0, .int .i64 a0_1, .int .i64 a0_2, .int .i64 a0_3, .int .i64 a0_4, .int .i64 a0_5] 38 (0, 0)) (by (with_reducible repeat (first | refine blk_drewN ?_ _ | refine blk_drew ?_ | refine blk_alloc ?_ _)); exact BK163.out) hb)
                      have n1_ := Aside0.mk (below_step (by repeat (first | (with_reducible first | exact HB.out | apply below_alloc | apply pw_below_drewN | apply below_drew1 | refine below_set ?_ GE163.out) | exact HB.out)) hb)
                      clear BK163
                      clear HB
                      have BK163 := n0_
                      have HB := n1_
                      clear n0_ n1_
                      (try clear hb)
                      (try clear hb2)
                      (try clear hk)
                      (try clear hi)
                      refine hK.out _ _ ⟨(blk_cell BK163.out 0).trans rfl, (blk_cell BK163.out 1).trans rfl, (blk_cell BK163.out 2).trans rfl, (blk_cell BK163.out 3).trans rfl, (blk_cell BK163.out 4).trans rfl, (blk_cell BK163.out 5).trans rfl⟩ (fun hHeld => ?_)
                      clear hK K
                      refine norm_ (a' := ?_) ?_ ?_
                      rotate_left
                      · show Act.put _ (some 5) _ = _
                        simp only [Act.put, List.setIfInBounds_toArray, List.set_cons_zero, List.set_cons_succ, i64_w, i32_w]
                        rfl
                      refine pure_ (i := 3) (N := some 6) (v := ?_) (a' := ?_) #[true, true, true, true, true, true, false, false, false, true, true, false, false, false, true, true, false, false, false, true, true, false, false, false, true, true, false, false, false] rfl rfl (any_of HT_.out (by kernel_rfl)) (fun _ _ _ h => h) (Or.inl ⟨by rfl, ?_⟩) ?_ ?_
                      rotate_left
                      · intro w'
                        go_simp
                        with_reducible rfl
                      rotate_left
                      · simp only [Act.put, List.setIfInBounds_toArray, List.set_cons_zero, List.set_cons_succ, i64_w, i32_w]
                        rfl
                      refine one_ (i := 6) (N := some 9) #[true, true, true, true, true, true, true, false, false, true, true, false, false, false, true, true, false, false, false, true, true, false, false, false, true, true, false, false, false] rfl rfl (one_of HT_.out (by kernel_rfl)) (by decide) (fun K hK => ?_)
                      refine goes_ Tryd.func82 (by kernel_rfl) rfl #[.int .i64 a0_1, .int .i64 2] (by rfl) rfl rfl (by (try simp only [List.map_toArray, List.map_cons, List.map_nil]); first | done | rfl | (simp only [List.length_drop, List.length_take]; rfl)) ?_
                      with_reducible refine (montageref41_digits.calls k a0_1 2 t165 _ A4.out).mono ?_
                      rintro e w21 ⟨rfl, hb⟩
                      refine ⟨_, rfl, ?_⟩
                      have n0_ := Aside0.mk (blk_below (g := gb163) (o := .cells #[.int .i64 a0_0, .int .i64 a0_1, .int .i64 a0_2, .int .i64 a0_3, .int .i64 a0_4, .int .i64 a0_5] 38 (0, 0)) (by (with_reducible repeat (first | refine blk_drewN ?_ _ | refine blk_drew ?_ | refine blk_alloc ?_ _)); exact BK163.out) hb)
                      have n1_ := Aside0.mk (below_step (by repeat (first | (with_reducible first | exact HB.out | apply below_alloc | apply pw_below_drewN | apply below_drew1 | refine below_set ?_ GE163.out) | exact HB.out)) hb)
                      clear BK163
                      clear HB
                      have BK163 := n0_
                      have HB := n1_
                      clear n0_ n1_
                      (try clear hb)
                      (try clear hb2)
                      (try clear hk)
                      (try clear hi)
                      refine hK.out _ _ ⟨(blk_cell BK163.out 0).trans rfl, (blk_cell BK163.out 1).trans rfl, (blk_cell BK163.out 2).trans rfl, (blk_cell BK163.out 3).trans rfl, (blk_cell BK163.out 4).trans rfl, (blk_cell BK163.out 5).trans rfl⟩ (fun hHeld => ?_)
                      clear hK K
                      refine norm_ (a' := ?_) ?_ ?_
                      rotate_left
                      · show Act.put _ (some 9) _ = _
                        simp only [Act.put, List.setIfInBounds_toArray, List.set_cons_zero, List.set_cons_succ, i64_w, i32_w]
                        rfl
                      refine pure_ (i := 7) (N := some 10) (v := ?_) (a' := ?_) #[true, true, true, true, true, true, true, true, false, true, true, false, false, false, true, true, false, false, false, true, true, false, false, false, true, true, false, false, false] rfl rfl (any_of HT_.out (by kernel_rfl)) (fun _ _ _ h => h) (Or.inl ⟨by rfl, ?_⟩) ?_ ?_
                      rotate_left
                      · intro w'
                        go_simp
                        with_reducible rfl
                      rotate_left
                      · simp only [Act.put, List.setIfInBounds_toArray, List.set_cons_zero, List.set_cons_succ, i64_w, i32_w]
                        rfl
                      refine pure_ (i := 8) (N := some 11) (v := ?_) (a' := ?_) #[true, true, true, true, true, true, true, true, true, true, true, false, false, false, true, true, false, false, false, true, true, false, false, false, true, true, false, false, false] rfl rfl (any_of HT_.out (by kernel_rfl)) (fun _ _ _ h => h) (Or.inl ⟨by rfl, ?_⟩) ?_ ?_
                      rotate_left
                      · intro w'
                        go_simp
                        with_reducible rfl
                      rotate_left
                      · simp only [Act.put, List.setIfInBounds_toArray, List.set_cons_zero, List.set_cons_succ, i64_w, i32_w]
                        rfl
                      refine one_ (i := 11) (N := some 14) #[true, true, true, true, true, true, true, true, true, true, true, true, false, false, true, true, false, false, false, true, true, false, false, false, true, true, false, false, false] rfl rfl (one_of HT_.out (by kernel_rfl)) (by decide) (fun K hK => ?_)
                      refine goes_ Tryd.func82 (by kernel_rfl) rfl #[.int .i64 a0_2, .int .i64 2] (by rfl) rfl rfl (by (try simp only [List.map_toArray, List.map_cons, List.map_nil]); first | done | rfl | (simp only [List.length_drop, List.length_take]; rfl)) ?_
                      with_reducible refine (montageref41_digits.calls k a0_2 2 t166 _ A7.out).mono ?_
                      rintro e w22 ⟨rfl, hb⟩
                      refine ⟨_, rfl, ?_⟩
                      have n0_ := Aside0.mk (blk_below (g := gb163) (o := .cells #[.int .i64 a0_0, .int .i64 a0_1, .int .i64 a0_2, .int .i64 a0_3, .int .i64 a0_4, .int .i64 a0_5] 38 (0, 0)) (by (with_reducible repeat (first | refine blk_drewN ?_ _ | refine blk_drew ?_ | refine blk_alloc ?_ _)); exact BK163.out) hb)
                      have n1_ := Aside0.mk (below_step (by repeat (first | (with_reducible first | exact HB.out | apply below_alloc | apply pw_below_drewN | apply below_drew1 | refine below_set ?_ GE163.out) | exact HB.out)) hb)
                      clear BK163
                      clear HB
                      have BK163 := n0_
                      have HB := n1_
                      clear n0_ n1_
                      (try clear hb)
                      (try clear hb2)
                      (try clear hk)
                      (try clear hi)
                      refine hK.out _ _ ⟨(blk_cell BK163.out 0).trans rfl, (blk_cell BK163.out 1).trans rfl, (blk_cell BK163.out 2).trans rfl, (blk_cell BK163.out 3).trans rfl, (blk_cell BK163.out 4).trans rfl, (blk_cell BK163.out 5).trans rfl⟩ (fun hHeld => ?_)
                      clear hK K
                      refine norm_ (a' := ?_) ?_ ?_
                      rotate_left
                      · show Act.put _ (some 14) _ = _
                        simp only [Act.put, List.setIfInBounds_toArray, List.set_cons_zero, List.set_cons_succ, i64_w, i32_w]
                        rfl
                      refine pure_ (i := 12) (N := some 15) (v := ?_) (a' := ?_) #[true, true, true, true, true, true, true, true, true, true, true, true, true, false, true, true, false, false, false, true, true, false, false, false, true, true, false, false, false] rfl rfl (any_of HT_.out (by kernel_rfl)) (fun _ _ _ h => h) (Or.inl ⟨by rfl, ?_⟩) ?_ ?_
                      rotate_left
                      · intro w'
                        go_simp
                        with_reducible rfl
                      rotate_left
                      · simp only [Act.put, List.setIfInBounds_toArray, List.set_cons_zero, List.set_cons_succ, i64_w, i32_w]
                        rfl
                      refine pure_ (i := 13) (N := some 16) (v := ?_) (a' := ?_) #[true, true, true, true, true, true, true, true, true, true, true, true, true, true, true, true, false, false, false, true, true, false, false, false, true, true, false, false, false] rfl rfl (any_of HT_.out (by kernel_rfl)) (fun _ _ _ h => h) (Or.inl ⟨by rfl, ?_⟩) ?_ ?_
                      rotate_left
                      · intro w'
                        go_simp
                        with_reducible rfl
                      rotate_left
                      · simp only [Act.put, List.setIfInBounds_toArray, List.set_cons_zero, List.set_cons_succ, i64_w, i32_w]
                        rfl
                      refine one_ (i := 16) (N := some 19) #[true, true, true, true, true, true, true, true, true, true, true, true, true, true, true, true, true, false, false, true, true, false, false, false, true, true, false, false, false] rfl rfl (one_of HT_.out (by kernel_rfl)) (by decide) (fun K hK => ?_)
                      refine goes_ Tryd.func82 (by kernel_rfl) rfl #[.int .i64 a0_3, .int .i64 2] (by rfl) rfl rfl (by (try simp only [List.map_toArray, List.map_cons, List.map_nil]); first | done | rfl | (simp only [List.length_drop, List.length_take]; rfl)) ?_
                      with_reducible refine (montageref41_digits.calls k a0_3 2 t167 _ A10.out).mono ?_
                      rintro e w23 ⟨rfl, hb⟩
                      refine ⟨_, rfl, ?_⟩
                      have n0_ := Aside0.mk (blk_below (g := gb163) (o := .cells #[.int .i64 a0_0, .int .i64 a0_1, .int .i64 a0_2, .int .i64 a0_3, .int .i64 a0_4, .int .i64 a0_5] 38 (0, 0)) (by (with_reducible repeat (first | refine blk_drewN ?_ _ | refine blk_drew ?_ | refine blk_alloc ?_ _)); exact BK163.out) hb)
                      have n1_ := Aside0.mk (below_step (by repeat (first | (with_reducible first | exact HB.out | apply below_alloc | apply pw_below_drewN | apply below_drew1 | refine below_set ?_ GE163.out) | exact HB.out)) hb)
                      clear BK163
                      clear HB
                      have BK163 := n0_
                      have HB := n1_
                      clear n0_ n1_
                      (try clear hb)
                      (try clear hb2)
                      (try clear hk)
                      (try clear hi)
                      refine hK.out _ _ ⟨(blk_cell BK163.out 0).trans rfl, (blk_cell BK163.out 1).trans rfl, (blk_cell BK163.out 2).trans rfl, (blk_cell BK163.out 3).trans rfl, (blk_cell BK163.out 4).trans rfl, (blk_cell BK163.out 5).trans rfl⟩ (fun hHeld => ?_)
                      clear hK K
                      refine norm_ (a' := ?_) ?_ ?_
                      rotate_left
                      · show Act.put _ (some 19) _ = _
                        simp only [Act.put, List.setIfInBounds_toArray, List.set_cons_zero, List.set_cons_succ, i64_w, i32_w]
                        rfl
                      refine pure_ (i := 17) (N := some 20) (v := ?_) (a' := ?_) #[true, true, true, true, true, true, true, true, true, true, true, true, true, true, true, true, true, true, false, true, true, false, false, false, true, true, false, false, false] rfl rfl (any_of HT_.out (by kernel_rfl)) (fun _ _ _ h => h) (Or.inl ⟨by rfl, ?_⟩) ?_ ?_
                      rotate_left
                      · intro w'
                        go_simp
                        with_reducible rfl
                      rotate_left
                      · simp only [Act.put, List.setIfInBounds_toArray, List.set_cons_zero, List.set_cons_succ, i64_w, i32_w]
                        rfl
                      refine pure_ (i := 18) (N := some 21) (v := ?_) (a' := ?_) #[true, true, true, true, true, true, true, true, true, true, true, true, true, true, true, true, true, true, true, true, true, false, false, false, true, true, false, false, false] rfl rfl (any_of HT_.out (by kernel_rfl)) (fun _ _ _ h => h) (Or.inl ⟨by rfl, ?_⟩) ?_ ?_
                      rotate_left
                      · intro w'
                        go_simp
                        with_reducible rfl
                      rotate_left
                      · simp only [Act.put, List.setIfInBounds_toArray, List.set_cons_zero, List.set_cons_succ, i64_w, i32_w]
                        rfl
                      refine one_ (i := 21) (N := some 24) #[true, true, true, true, true, true, true, true, true, true, true, true, true, true, true, true, true, true, true, true, true, true, false, false, true, true, false, false, false] rfl rfl (one_of HT_.out (by kernel_rfl)) (by decide) (fun K hK => ?_)
                      refine goes_ Tryd.func82 (by kernel_rfl) rfl #[.int .i64 a0_4, .int .i64 2] (by rfl) rfl rfl (by (try simp only [List.map_toArray, List.map_cons, List.map_nil]); first | done | rfl | (simp only [List.length_drop, List.length_take]; rfl)) ?_
                      with_reducible refine (montageref41_digits.calls k a0_4 2 t168 _ A13.out).mono ?_
                      rintro e w24 ⟨rfl, hb⟩
                      refine ⟨_, rfl, ?_⟩
                      have n0_ := Aside0.mk (blk_below (g := gb163) (o := .cells #[.int .i64 a0_0, .int .i64 a0_1, .int .i64 a0_2, .int .i64 a0_3, .int .i64 a0_4, .int .i64 a0_5] 38 (0, 0)) (by (with_reducible repeat (first | refine blk_drewN ?_ _ | refine blk_drew ?_ | refine blk_alloc ?_ _)); exact BK163.out) hb)
                      have n1_ := Aside0.mk (below_step (by repeat (first | (with_reducible first | exact HB.out | apply below_alloc | apply pw_below_drewN | apply below_drew1 | refine below_set ?_ GE163.out) | exact HB.out)) hb)
                      clear BK163
                      clear HB
                      have BK163 := n0_
                      have HB := n1_
                      clear n0_ n1_
                      (try clear hb)
                      (try clear hb2)
                      (try clear hk)
                      (try clear hi)
                      refine hK.out _ _ ⟨(blk_cell BK163.out 0).trans rfl, (blk_cell BK163.out 1).trans rfl, (blk_cell BK163.out 2).trans rfl, (blk_cell BK163.out 3).trans rfl, (blk_cell BK163.out 4).trans rfl, (blk_cell BK163.out 5).trans rfl⟩ (fun hHeld => ?_)
                      clear hK K
                      refine norm_ (a' := ?_) ?_ ?_
                      rotate_left
                      · show Act.put _ (some 24) _ = _
                        simp only [Act.put, List.setIfInBounds_toArray, List.set_cons_zero, List.set_cons_succ, i64_w, i32_w]
                        rfl
                      refine pure_ (i := 22) (N := some 25) (v := ?_) (a' := ?_) #[true, true, true, true, true, true, true, true, true, true, true, true, true, true, true, true, true, true, true, true, true, true, true, false, true, true, false, false, false] rfl rfl (any_of HT_.out (by kernel_rfl)) (fun _ _ _ h => h) (Or.inl ⟨by rfl, ?_⟩) ?_ ?_
                      rotate_left
                      · intro w'
                        go_simp
                        with_reducible rfl
                      rotate_left
                      · simp only [Act.put, List.setIfInBounds_toArray, List.set_cons_zero, List.set_cons_succ, i64_w, i32_w]
                        rfl
                      refine pure_ (i := 23) (N := some 26) (v := ?_) (a' := ?_) #[true, true, true, true, true, true, true, true, true, true, true, true, true, true, true, true, true, true, true, true, true, true, true, true, true, true, false, false, false] rfl rfl (any_of HT_.out (by kernel_rfl)) (fun _ _ _ h => h) (Or.inl ⟨by rfl, ?_⟩) ?_ ?_
                      rotate_left
                      · intro w'
                        go_simp
                        with_reducible rfl
                      rotate_left
                      · simp only [Act.put, List.setIfInBounds_toArray, List.set_cons_zero, List.set_cons_succ, i64_w, i32_w]
                        rfl
                      refine one_ (i := 26) (N := some 29) #[true, true, true, true, true, true, true, true, true, true, true, true, true, true, true, true, true, true, true, true, true, true, true, true, true, true, true, false, false] rfl rfl (one_of HT_.out (by kernel_rfl)) (by decide) (fun K hK => ?_)
                      refine goes_ Tryd.func82 (by kernel_rfl) rfl #[.int .i64 a0_5, .int .i64 2] (by rfl) rfl rfl (by (try simp only [List.map_toArray, List.map_cons, List.map_nil]); first | done | rfl | (simp only [List.length_drop, List.length_take]; rfl)) ?_
                      with_reducible refine (montageref41_digits.calls k a0_5 2 t169 _ A16.out).mono ?_
                      rintro e w25 ⟨rfl, hb⟩
                      refine ⟨_, rfl, ?_⟩
                      have n0_ := Aside0.mk (blk_below (g := gb163) (o := .cells #[.int .i64 a0_0, .int .i64 a0_1, .int .i64 a0_2, .int .i64 a0_3, .int .i64 a0_4, .int .i64 a0_5] 38 (0, 0)) (by (with_reducible repeat (first | refine blk_drewN ?_ _ | refine blk_drew ?_ | refine blk_alloc ?_ _)); exact BK163.out) hb)
                      have n1_ := Aside0.mk (below_step (by repeat (first | (with_reducible first | exact HB.out | apply below_alloc | apply pw_below_drewN | apply below_drew1 | refine below_set ?_ GE163.out) | exact HB.out)) hb)
                      clear BK163
                      clear HB
                      have BK163 := n0_
                      have HB := n1_
                      clear n0_ n1_
                      (try clear hb)
                      (try clear hb2)
                      (try clear hk)
                      (try clear hi)
                      refine hK.out _ _ ⟨(blk_cell BK163.out 0).trans rfl, (blk_cell BK163.out 1).trans rfl, (blk_cell BK163.out 2).trans rfl, (blk_cell BK163.out 3).trans rfl, (blk_cell BK163.out 4).trans rfl, (blk_cell BK163.out 5).trans rfl⟩ (fun hHeld => ?_)
                      clear hK K
                      refine norm_ (a' := ?_) ?_ ?_
                      rotate_left
                      · show Act.put _ (some 29) _ = _
                        simp only [Act.put, List.setIfInBounds_toArray, List.set_cons_zero, List.set_cons_succ, i64_w, i32_w]
                        rfl
                      refine pure_ (i := 27) (N := some 30) (v := ?_) (a' := ?_) #[true, true, true, true, true, true, true, true, true, true, true, true, true, true, true, true, true, true, true, true, true, true, true, true, true, true, true, true, false] rfl rfl (any_of HT_.out (by kernel_rfl)) (fun _ _ _ h => h) (Or.inl ⟨by rfl, ?_⟩) ?_ ?_
                      rotate_left
                      · intro w'
                        go_simp
                        with_reducible rfl
                      rotate_left
                      · simp only [Act.put, List.setIfInBounds_toArray, List.set_cons_zero, List.set_cons_succ, i64_w, i32_w]
                        rfl
                      refine pure_ (i := 28) (N := some 2) (v := ?_) (a' := ?_) #[true, true, true, true, true, true, true, true, true, true, true, true, true, true, true, true, true, true, true, true, true, true, true, true, true, true, true, true, true] rfl rfl (any_of HT_.out (by kernel_rfl)) (fun _ _ _ h => h) (Or.inl ⟨by rfl, ?_⟩) ?_ ?_
                      rotate_left
                      · intro w'
                        go_simp
                        with_reducible rfl
                      rotate_left
                      · simp only [Act.put, List.setIfInBounds_toArray, List.set_cons_zero, List.set_cons_succ, i64_w, i32_w]
                        rfl
                      refine done_ (done_of HT_.out (by kernel_rfl)) ?_
                      try go_wp2
                      go_ret
                      exact ⟨by first | rfl | (simp [errW_none, errW_some] <;> rfl) | (simp [*, errW_none, errW_some] <;> rfl), by repeat (first | (with_reducible first | exact HB.out | apply below_alloc | apply pw_below_drewN | apply below_drew1 | refine below_set ?_ GE163.out) | exact HB.out)⟩
                    · rw [if_neg c17] at H
                      exact absurd H (by simp)
                  · rw [if_neg c15] at H
                    exact absurd H (by simp)
                · rw [if_neg c14] at H
                  exact absurd H (by simp)
              · rw [if_neg c12] at H
                exact absurd H (by simp)
            · rw [if_neg c11] at H
              exact absurd H (by simp)
          · rw [if_neg c9] at H
            exact absurd H (by simp)
        · rw [if_neg c8] at H
          exact absurd H (by simp)
      · rw [if_neg c6] at H
        exact absurd H (by simp)
    · rw [if_neg c5] at H
      exact absurd H (by simp)
  · rw [if_neg c3] at H
    exact absurd H (by simp)

end Go.Proofs.YtdaofffedfccmaaDoor.XClockDates
