-- Written by this session's own program wip/xprint.py: a changed copy of the kit's print.
import Derived.Test.YtdaofffedfccmaaDoorXClockDatesx0
import Derived.Test.YtdaofffedfccmaaDoorXClockDatesx2
import Derived.Test.YtdaofffedfccmaaDoorXClockDatesx3
import Derived.Test.YtdaofffedfccmaaDoorXClockDatesx4
import Derived.Test.YtdaofffedfccmaaDoorXClockDatesx5
namespace Go.Proofs.YtdaofffedfccmaaDoor.XClockDates
open Go.RowKit Go.Proofs.YtdaofffedfccmaaDoorW.PrintWords Go.Proofs.YtdaofffedfccmaaDoorW.PrintLast Go.Proofs.YtdaofffedfccmaaDoorW.PrintMore
attribute [local go_sem] max2_int min2_int max_two min_two max_three min_three max_four min_four   -- for this text's walks alone
set_option linter.unusedVariables false
set_option linter.unusedSimpArgs false

/-! ### clock_day: function 85 -/
mutual
def clock_day.l0 : Nat → Int → Int → Option (Int × Int × Int × Int × Int × Int)
  | 0, _, _ => none
  | k + 1, x0, x3 => (clock_ahead.f (wrap64 (x3 + 1))).bind fun t186 => (if t186 ≤ x0 then (clock_day.l0 k x0 (wrap64 (x3 + 1))) else ((clock_ahead.f x3).bind fun t187 => (clock_day.l1 k (wrap64 (x0 - t187)) x3 1)))
def clock_day.l1 : Nat → Int → Int → Int → Option (Int × Int × Int × Int × Int × Int)
  | 0, _, _, _ => none
  | k + 1, x0, x3, x4 => (clock_days.f k x3 x4).bind fun t188 => (if x0 ≥ t188 then ((clock_days.f k x3 x4).bind fun t189 => (clock_day.l1 k (wrap64 (x0 - t189)) x3 (wrap64 (x4 + 1)))) else (some (x3, x4, wrap64 (x0 + 1), 0, 0, 0)))
end
def clock_day.f (k : Nat) (a0 : Int) : Option (Int × Int × Int × Int × Int × Int) := clock_day.l0 k a0 (wrap64 (1980 + (wrap64 (Int.tdiv a0 366))))
theorem clock_day.mono_l : ∀ k, (∀ y0 y1, LeO (clock_day.l0 k y0 y1) (clock_day.l0 (k + 1) y0 y1)) ∧ (∀ y0 y1 y2, LeO (clock_day.l1 k y0 y1 y2) (clock_day.l1 (k + 1) y0 y1 y2))
  | 0 => ⟨fun _ _ r h => by simp [clock_day.l0] at h, fun _ _ _ r h => by simp [clock_day.l1] at h⟩
  | k + 1 => by
    obtain ⟨ih0, ih1⟩ := clock_day.mono_l k
    refine ⟨?_, ?_⟩
    · intro y0 y1
      unfold clock_day.l0
      repeat' first
      | (with_reducible exact ih0 _ _)
      | (with_reducible exact ih1 _ _ _)
      | (with_reducible exact clock_days.mono _ _ _)
      | (with_reducible exact LeO.refl _)
      | (with_reducible exact LeO.none _)
      | (with_reducible refine LeO.ite ?_ ?_)
      | (with_reducible refine LeO.bind ?_ (fun _ => ?_))
      | exact ih0 _ _
      | exact ih1 _ _ _
      | exact clock_days.mono _ _ _
      | exact LeO.none _
      | refine LeO.ite ?_ ?_
      | refine LeO.bind ?_ (fun _ => ?_)
    · intro y0 y1 y2
      unfold clock_day.l1
      repeat' first
      | (with_reducible exact ih0 _ _)
      | (with_reducible exact ih1 _ _ _)
      | (with_reducible exact clock_days.mono _ _ _)
      | (with_reducible exact LeO.refl _)
      | (with_reducible exact LeO.none _)
      | (with_reducible refine LeO.ite ?_ ?_)
      | (with_reducible refine LeO.bind ?_ (fun _ => ?_))
      | exact ih0 _ _
      | exact ih1 _ _ _
      | exact clock_days.mono _ _ _
      | exact LeO.none _
      | refine LeO.ite ?_ ?_
      | refine LeO.bind ?_ (fun _ => ?_)
theorem clock_day.mono : ∀ a0 k, LeO (clock_day.f k a0) (clock_day.f (k + 1) a0) := by
  intro a0 k
  obtain ⟨ih0, ih1⟩ := clock_day.mono_l k
  unfold clock_day.f
  repeat' first
      | (with_reducible exact ih0 _ _)
      | (with_reducible exact ih1 _ _ _)
      | (with_reducible exact clock_days.mono _ _ _)
      | (with_reducible exact LeO.refl _)
      | (with_reducible exact LeO.none _)
      | (with_reducible refine LeO.ite ?_ ?_)
      | (with_reducible refine LeO.bind ?_ (fun _ => ?_))
      | exact ih0 _ _
      | exact ih1 _ _ _
      | exact clock_days.mono _ _ _
      | exact LeO.none _
      | refine LeO.ite ?_ ?_
      | refine LeO.bind ?_ (fun _ => ?_)
set_option maxHeartbeats 8000000 in
set_option maxRecDepth 100000 in
theorem clock_day.calls (k : Nat) (a0 : Int) (r1 : Int) (r2 : Int) (r3 : Int) (r4 : Int) (r5 : Int) (r6 : Int) (w : World) (h : clock_day.f k a0 = some (r1, r2, r3, r4, r5, r6)) :
    Calls Tryd.prog 85 #[.int .i64 a0] w fun e w' => e = .returned (.agg #[.int .i64 r1, .int .i64 r2, .int .i64 r3, .int .i64 r4, .int .i64 r5, .int .i64 r6]) ∧ Below w.heap.size w w' := by
  have hu38 := Tryd.underlying38
  have HB := Aside0.mk (Below.refl w.heap.size w)
  have H : (clock_day.l0 k a0 (wrap64 (1980 + (wrap64 (Int.tdiv a0 366))))) = some (r1, r2, r3, r4, r5, r6) := h
  clear h
  have H' := Aside0.mk H
  clear H
  go_enter Tryd.func85, Tryd.ntmps85
  go_wp2_with (first | ((with_reducible refine gate_dst (N := 2) rfl ?_); refine box_event ?hg (N := 2) ?hd (cs := #[.int .i64 0, .int .i64 0, .int .i64 0, .int .i64 0, .int .i64 0, .int .i64 0]) (t := 38) ?hr ?_; (case hd => rfl); (case hg => rfl); (case hr => first | (go_simp; done) | (go_simp; rfl)); intro gb185 hg w2 hbox hb; have n0_ := Aside0.mk (below_step (by repeat (first | (with_reducible first | exact HB.out | apply below_alloc | apply pw_below_drewN | apply below_drew1) | exact HB.out)) hb); have n1_ := Aside0.mk (hbox); have n2_ := Aside0.mk ((by rw [hg]; exact (below_size (by repeat (first | (with_reducible first | exact HB.out | apply below_alloc | apply pw_below_drewN | apply below_drew1) | exact HB.out))) : w.heap.size ≤ gb185)); have n3_ := Aside0.mk ((by rw [hg]; exact (below_size (by repeat (first | (with_reducible first | exact HB.out | apply below_alloc | apply pw_below_drewN | apply below_drew1) | exact HB.out))) : w.heap.size ≤ gb185)); clear HB; have HB := n0_; have BK185 := n1_; have GW185 := n2_; have GE185 := n3_; clear n0_ n1_ n2_ n3_; clear hb hbox hg))
  go_loopg [3] k (fun kq v3 w' => ∃ (x3_1 : Int), v3 = .int .i64 x3_1 ∧ Aside0 (clock_day.l0 kq a0 x3_1 = some (r1, r2, r3, r4, r5, r6)) ∧ Aside0 (kq ≤ k) ∧ Aside0 (w'.heap[gb185]? = some (.cells #[.int .i64 0, .int .i64 0, .int .i64 0, .int .i64 0, .int .i64 0, .int .i64 0] 38 (0, 0))) ∧ Aside0 (Below w.heap.size w w'))
  case atStart => exact ⟨(wrap64 (1980 + (wrap64 (Int.tdiv a0 366)))), (by first | rfl | (simp; done) | (simp [*]; done)), H', ⟨Nat.le_refl _⟩, ⟨by (with_reducible repeat (first | refine blk_drewN ?_ _ | refine blk_drew ?_ | refine blk_alloc ?_ _)); exact BK185.out⟩, ⟨by repeat (first | (with_reducible first | exact HB.out | apply below_alloc | apply pw_below_drewN | apply below_drew1 | refine below_set ?_ GE185.out) | exact HB.out)⟩⟩
  case round =>
    clear H'
    try clear p2
    obtain ⟨x3_1, rfl, HA, HK1, BK185, HB⟩ := hrel
    cases gk with
    | zero => exact absurd HA.out (by simp [clock_day.l0])
    | succ k1 =>
      have H := HA.out
      clear HA
      simp only [clock_day.l0] at H
      replace H := Option.bind_eq_some_iff.mp H
      obtain ⟨t186, A30, H⟩ := H
      replace H : (if t186 ≤ a0 then (clock_day.l0 k1 a0 (wrap64 (x3_1 + 1))) else ((clock_ahead.f x3_1).bind fun t187 => (clock_day.l1 k1 (wrap64 (a0 - t187)) x3_1 1))) = some (r1, r2, r3, r4, r5, r6) := H
      have A3 := Aside0.mk A30
      clear A30
      by_cases c4 : t186 ≤ a0
      · rw [if_pos c4] at H
        have c4b0 : decide (t186 ≤ a0) = true := decide_eq_true c4
        clear c4
        have H' := Aside0.mk H
        clear H
        go_wp2_with (first | ((with_reducible refine gate_callee (f := 78) rfl ?_); refine goesL_ (some 10) rfl rfl Tryd.func78 (by kernel_rfl) rfl #[.int .i64 (wrap64 (x3_1 + 1))] rfl (by (try simp only [List.map_toArray, List.map_cons, List.map_nil]); first | done | rfl | (simp only [List.length_drop, List.length_take]; rfl)) ?_; (with_reducible refine (clock_ahead.calls (wrap64 (x3_1 + 1)) t186 _ A3.out).mono ?_); rintro e w' ⟨rfl, ⟨nd, rfl⟩⟩; refine ⟨_, rfl, ?_⟩))
        go_roundg k1
        case measure => have := HK1.out; omega
        case rel => exact ⟨(wrap64 (x3_1 + 1)), (by first | rfl | (simp; done) | (simp [*]; done)), H', ⟨by have := HK1.out; omega⟩, ⟨by (with_reducible repeat (first | refine blk_drewN ?_ _ | refine blk_drew ?_ | refine blk_alloc ?_ _)); exact BK185.out⟩, ⟨by repeat (first | (with_reducible first | exact HB.out | apply below_alloc | apply pw_below_drewN | apply below_drew1 | refine below_set ?_ GE185.out) | exact HB.out)⟩⟩
      · rw [if_neg c4] at H
        have c4b0 : decide (t186 ≤ a0) = false := decide_eq_false c4
        clear c4
        replace H := Option.bind_eq_some_iff.mp H
        obtain ⟨t187, A50, H⟩ := H
        replace H : (clock_day.l1 k1 (wrap64 (a0 - t187)) x3_1 1) = some (r1, r2, r3, r4, r5, r6) := H
        have A5 := Aside0.mk A50
        clear A50
        have H' := Aside0.mk H
        clear H
        go_wp2_with (first | ((with_reducible refine gate_callee (f := 78) rfl ?_); refine goesL_ (some 10) rfl rfl Tryd.func78 (by kernel_rfl) rfl #[.int .i64 (wrap64 (x3_1 + 1))] rfl (by (try simp only [List.map_toArray, List.map_cons, List.map_nil]); first | done | rfl | (simp only [List.length_drop, List.length_take]; rfl)) ?_; (with_reducible refine (clock_ahead.calls (wrap64 (x3_1 + 1)) t186 _ A3.out).mono ?_); rintro e w' ⟨rfl, ⟨nd, rfl⟩⟩; refine ⟨_, rfl, ?_⟩) | ((with_reducible refine gate_callee (f := 78) rfl ?_); refine goesL_ (some 17) rfl rfl Tryd.func78 (by kernel_rfl) rfl #[.int .i64 x3_1] rfl (by (try simp only [List.map_toArray, List.map_cons, List.map_nil]); first | done | rfl | (simp only [List.length_drop, List.length_take]; rfl)) ?_; (with_reducible refine (clock_ahead.calls x3_1 t187 _ A5.out).mono ?_); rintro e w' ⟨rfl, ⟨nd, rfl⟩⟩; refine ⟨_, rfl, ?_⟩))
        go_loopg [0, 4] k1 (fun kq v0 v4 w' => ∃ (x0_2 : Int) (x4_2 : Int), v0 = .int .i64 x0_2 ∧ v4 = .int .i64 x4_2 ∧ Aside0 (clock_day.l1 kq x0_2 x3_1 x4_2 = some (r1, r2, r3, r4, r5, r6)) ∧ Aside0 (kq ≤ k1) ∧ Aside0 (w'.heap[gb185]? = some (.cells #[.int .i64 0, .int .i64 0, .int .i64 0, .int .i64 0, .int .i64 0, .int .i64 0] 38 (0, 0))) ∧ Aside0 (Below w.heap.size w w'))
        case atStart => exact ⟨(wrap64 (a0 - t187)), (1), (by first | rfl | (simp; done) | (simp [*]; done)), (by first | rfl | (simp; done) | (simp [*]; done)), H', ⟨Nat.le_refl _⟩, ⟨by (with_reducible repeat (first | refine blk_drewN ?_ _ | refine blk_drew ?_ | refine blk_alloc ?_ _)); exact BK185.out⟩, ⟨by repeat (first | (with_reducible first | exact HB.out | apply below_alloc | apply pw_below_drewN | apply below_drew1 | refine below_set ?_ GE185.out) | exact HB.out)⟩⟩
        case round =>
          clear H'
          try clear p2
          try clear c4
          try clear c4b0
          try clear p2
          obtain ⟨x0_2, x4_2, rfl, rfl, HA, HK2, BK185, HB⟩ := hrel
          cases gk with
          | zero => exact absurd HA.out (by simp [clock_day.l1])
          | succ k2 =>
            have H := HA.out
            clear HA
            simp only [clock_day.l1] at H
            replace H := Option.bind_eq_some_iff.mp H
            obtain ⟨t188, A60, H⟩ := H
            replace H : (if x0_2 ≥ t188 then ((clock_days.f k2 x3_1 x4_2).bind fun t189 => (clock_day.l1 k2 (wrap64 (x0_2 - t189)) x3_1 (wrap64 (x4_2 + 1)))) else (some (x3_1, x4_2, wrap64 (x0_2 + 1), 0, 0, 0))) = some (r1, r2, r3, r4, r5, r6) := H
            have A6 := Aside0.mk A60
            clear A60
            by_cases c7 : x0_2 ≥ t188
            · rw [if_pos c7] at H
              have c7b0 : decide (t188 ≤ x0_2) = true := decide_eq_true c7
              clear c7
              replace H := Option.bind_eq_some_iff.mp H
              obtain ⟨t189, A80, H⟩ := H
              replace H : (clock_day.l1 k2 (wrap64 (x0_2 - t189)) x3_1 (wrap64 (x4_2 + 1))) = some (r1, r2, r3, r4, r5, r6) := H
              have A8 := Aside0.mk A80
              clear A80
              have H' := Aside0.mk H
              clear H
              go_wp2_with (first | ((with_reducible refine gate_callee (f := 79) rfl ?_); refine goesL_ (some 22) rfl rfl Tryd.func79 (by kernel_rfl) rfl #[.int .i64 x3_1, .int .i64 x4_2] rfl (by (try simp only [List.map_toArray, List.map_cons, List.map_nil]); first | done | rfl | (simp only [List.length_drop, List.length_take]; rfl)) ?_; (with_reducible refine (clock_days.calls k2 x3_1 x4_2 t188 _ A6.out).mono ?_); rintro e w' ⟨rfl, ⟨nd, rfl⟩⟩; refine ⟨_, rfl, ?_⟩) | ((with_reducible refine gate_callee (f := 79) rfl ?_); refine goesL_ (some 27) rfl rfl Tryd.func79 (by kernel_rfl) rfl #[.int .i64 x3_1, .int .i64 x4_2] rfl (by (try simp only [List.map_toArray, List.map_cons, List.map_nil]); first | done | rfl | (simp only [List.length_drop, List.length_take]; rfl)) ?_; (with_reducible refine (clock_days.calls k2 x3_1 x4_2 t189 _ A8.out).mono ?_); rintro e w' ⟨rfl, ⟨nd, rfl⟩⟩; refine ⟨_, rfl, ?_⟩))
              go_roundg k2
              case measure => have := HK1.out; have := HK2.out; omega
              case rel => exact ⟨(wrap64 (x0_2 - t189)), (wrap64 (x4_2 + 1)), (by first | rfl | (simp; done) | (simp [*]; done)), (by first | rfl | (simp; done) | (simp [*]; done)), H', ⟨by have := HK1.out; have := HK2.out; omega⟩, ⟨by (with_reducible repeat (first | refine blk_drewN ?_ _ | refine blk_drew ?_ | refine blk_alloc ?_ _)); exact BK185.out⟩, ⟨by repeat (first | (with_reducible first | exact HB.out | apply below_alloc | apply pw_below_drewN | apply below_drew1 | refine below_set ?_ GE185.out) | exact HB.out)⟩⟩
            · rw [if_neg c7] at H
              have c7b0 : decide (t188 ≤ x0_2) = false := decide_eq_false c7
              clear c7
              simp only [Option.some.injEq, Prod.mk.injEq] at H
              obtain ⟨rfl, rfl, rfl, rfl, rfl, rfl⟩ := H
              go_wp2_with (first | ((with_reducible refine gate_callee (f := 79) rfl ?_); refine goesL_ (some 22) rfl rfl Tryd.func79 (by kernel_rfl) rfl #[.int .i64 x3_1, .int .i64 x4_2] rfl (by (try simp only [List.map_toArray, List.map_cons, List.map_nil]); first | done | rfl | (simp only [List.length_drop, List.length_take]; rfl)) ?_; (with_reducible refine (clock_days.calls k2 x3_1 x4_2 t188 _ A6.out).mono ?_); rintro e w' ⟨rfl, ⟨nd, rfl⟩⟩; refine ⟨_, rfl, ?_⟩; (try (rw [drewN_self wr]; generalize hq_ : World.drewN wr _ = wr; have n0_ : Aside0 (wr.heap[gb185]? = some (.cells #[.int .i64 0, .int .i64 0, .int .i64 0, .int .i64 0, .int .i64 0, .int .i64 0] 38 (0, 0))) := ⟨by rw [← hq_]; exact (by (with_reducible repeat (first | refine blk_drewN ?_ _ | refine blk_drew ?_ | refine blk_alloc ?_ _)); exact BK185.out)⟩; have n1_ : Aside0 (Below w.heap.size w wr) := ⟨by rw [← hq_]; exact (by repeat (first | (with_reducible first | exact HB.out | apply below_alloc | apply pw_below_drewN | apply below_drew1 | refine below_set ?_ GE185.out) | exact HB.out))⟩; clear BK185 HB hq_; have BK185 := n0_; have HB := n1_; clear n0_ n1_)); have hcz9_0 : wr.cell? ⟨gb185, 0, none⟩ = some (.int .i64 0) := (blk_cell BK185.out 0).trans rfl; have hcz9_1 : wr.cell? ⟨gb185, 1, none⟩ = some (.int .i64 0) := (blk_cell BK185.out 1).trans rfl; have hcz9_2 : wr.cell? ⟨gb185, 2, none⟩ = some (.int .i64 0) := (blk_cell BK185.out 2).trans rfl; have hcz9_3 : wr.cell? ⟨gb185, 3, none⟩ = some (.int .i64 0) := (blk_cell BK185.out 3).trans rfl; have hcz9_4 : wr.cell? ⟨gb185, 4, none⟩ = some (.int .i64 0) := (blk_cell BK185.out 4).trans rfl; have hcz9_5 : wr.cell? ⟨gb185, 5, none⟩ = some (.int .i64 0) := (blk_cell BK185.out 5).trans rfl; have hfz9_0 := blk_frozen BK185.out 0; have hfz9_1 := blk_frozen BK185.out 1; have hfz9_2 := blk_frozen BK185.out 2; have hfz9_3 := blk_frozen BK185.out 3; have hfz9_4 := blk_frozen BK185.out 4; have hfz9_5 := blk_frozen BK185.out 5))
              refine bodyPost_ret (results_cell_row rfl _ _ gb185 38 #[.int .i64 x3_1, .int .i64 x4_2, .int .i64 (wrap64 (x0_2 + 1)), .int .i64 0, .int .i64 0, .int .i64 0] (0, 0) _ rfl (by (with_reducible repeat (first | refine blk_drewN ?_ _ | refine blk_drew ?_ | refine blk_alloc ?_ _)); refine blk_put (cs := #[.int .i64 x3_1, .int .i64 x4_2, .int .i64 (wrap64 (x0_2 + 1)), .int .i64 0, .int .i64 0, .int .i64 0]) ?_ 5 _ rfl; (with_reducible repeat (first | refine blk_drewN ?_ _ | refine blk_drew ?_ | refine blk_alloc ?_ _)); refine blk_put (cs := #[.int .i64 x3_1, .int .i64 x4_2, .int .i64 (wrap64 (x0_2 + 1)), .int .i64 0, .int .i64 0, .int .i64 0]) ?_ 4 _ rfl; (with_reducible repeat (first | refine blk_drewN ?_ _ | refine blk_drew ?_ | refine blk_alloc ?_ _)); refine blk_put (cs := #[.int .i64 x3_1, .int .i64 x4_2, .int .i64 (wrap64 (x0_2 + 1)), .int .i64 0, .int .i64 0, .int .i64 0]) ?_ 3 _ rfl; (with_reducible repeat (first | refine blk_drewN ?_ _ | refine blk_drew ?_ | refine blk_alloc ?_ _)); refine blk_put (cs := #[.int .i64 x3_1, .int .i64 x4_2, .int .i64 0, .int .i64 0, .int .i64 0, .int .i64 0]) ?_ 2 _ rfl; (with_reducible repeat (first | refine blk_drewN ?_ _ | refine blk_drew ?_ | refine blk_alloc ?_ _)); refine blk_put (cs := #[.int .i64 x3_1, .int .i64 0, .int .i64 0, .int .i64 0, .int .i64 0, .int .i64 0]) ?_ 1 _ rfl; (with_reducible repeat (first | refine blk_drewN ?_ _ | refine blk_drew ?_ | refine blk_alloc ?_ _)); refine blk_put (cs := #[.int .i64 0, .int .i64 0, .int .i64 0, .int .i64 0, .int .i64 0, .int .i64 0]) ?_ 0 _ rfl; (with_reducible repeat (first | refine blk_drewN ?_ _ | refine blk_drew ?_ | refine blk_alloc ?_ _)); exact BK185.out) Tryd.underlying38 rfl (by kernel_rfl)) rfl ?_
              exact ⟨by first | rfl | (simp [errW_none, errW_some] <;> rfl) | (simp [*, errW_none, errW_some] <;> rfl), by repeat (first | (with_reducible first | exact HB.out | apply below_alloc | apply pw_below_drewN | apply below_drew1 | refine below_set ?_ GE185.out) | exact HB.out)⟩

/-! ### clock_At: function 40 -/
-- rounds: yes making: yes
-- uses: montage/clock.ahead montage/clock.day montage/clock.Parse
set_option maxHeartbeats 1600000 in
set_option maxRecDepth 100000 in
theorem at_neg (z : Int) (w : World) (h : z < 0) :
    Calls Tryd.prog 40 #[.int .i64 z] w fun e w' => e = .returned (.tuple #[.agg #[.int .i64 0, .int .i64 0, .int .i64 0, .int .i64 0, .int .i64 0, .int .i64 0], .int .i64 7]) ∧ Below w.heap.size w w' := by
  have d1 : decide (z < 0) = true := decide_eq_true h
  go_enter Tryd.func40, Tryd.ntmps40
  go_wp2
  refine bodyPost_ret (v := .tuple #[.agg #[.int .i64 0, .int .i64 0, .int .i64 0, .int .i64 0, .int .i64 0, .int .i64 0], .int .i64 7]) (by simp [results, Tryd.results40, go_sem]) rfl ⟨rfl, below_alloc (Below.refl _ _) _⟩
set_option maxHeartbeats 1600000 in
set_option maxRecDepth 100000 in
theorem at_late (z t : Int) (w : World) (h0 : 0 ≤ z) (hz : z ≤ 9223372036854775807) (ha : clock_ahead.f 2108 = some t) (hge : t ≤ z / 86400) :
    Calls Tryd.prog 40 #[.int .i64 z] w fun e w' => e = .returned (.tuple #[.agg #[.int .i64 0, .int .i64 0, .int .i64 0, .int .i64 0, .int .i64 0, .int .i64 0], .int .i64 7]) ∧ Below w.heap.size w w' := by
  have d1 : decide (z < 0) = false := decide_eq_false (by omega)
  have d2 : decide (z / 86400 ≥ t) = true := decide_eq_true hge
  have d3 : decide (t ≤ z / 86400) = true := decide_eq_true hge
  have hb : 0 ≤ z / 86400 := by omega
  have hb2 : z / 86400 ≤ 9223372036854775807 := by omega
  have HA : Aside0 _ := ⟨fun W : World => clock_ahead.calls 2108 t W ha⟩
  have R0 : Aside0 ((w.alloc (.cells #[.int .i64 0, .int .i64 0, .int .i64 0, .int .i64 0, .int .i64 0, .int .i64 0] 38)).heap[w.heap.size]? = some (.cells #[.int .i64 0, .int .i64 0, .int .i64 0, .int .i64 0, .int .i64 0, .int .i64 0] 38 (0, 0))) := ⟨heap_alloc_new _ _⟩
  have B0 : Aside0 (Below w.heap.size w (w.alloc (.cells #[.int .i64 0, .int .i64 0, .int .i64 0, .int .i64 0, .int .i64 0, .int .i64 0] 38))) := ⟨below_alloc (Below.refl _ _) _⟩
  clear ha hge
  go_enter Tryd.func40, Tryd.ntmps40
  go_upto_region 1 with (fail)
  generalize (w.alloc (.cells #[.int .i64 0, .int .i64 0, .int .i64 0, .int .i64 0, .int .i64 0, .int .i64 0] 38)) = v0 at R0 B0 ⊢
  have hgl := XGlob.lt_of_get R0.out
  go_wp2_with fail
  refine Calls.mono (HA.out _) ?_
  rintro e v1 ⟨rfl, ⟨nq, rfl⟩⟩
  have B1 : Aside0 (Below w.heap.size w (v0.drewN nq)) := ⟨pw_below_drewN B0.out _⟩
  have R1 : Aside0 ((v0.drewN nq).heap[w.heap.size]? = some (.cells #[.int .i64 0, .int .i64 0, .int .i64 0, .int .i64 0, .int .i64 0, .int .i64 0] 38 (0, 0))) := ⟨by simpa using R0.out⟩
  generalize v0.drewN nq = v1 at B1 R1 ⊢
  clear R0 B0 hgl HA
  obtain ⟨r0, r1, r2, r3, r4, r5⟩ := cells6 R1.out
  have q0 := frozen6 R1.out 0
  have q1 := frozen6 R1.out 1
  have q2 := frozen6 R1.out 2
  have q3 := frozen6 R1.out 3
  have q4 := frozen6 R1.out 4
  have q5 := frozen6 R1.out 5
  clear R1
  have hge : w.heap.size ≤ w.heap.size := Nat.le_refl _
  go_wp2
  refine bodyPost_ret (v := .tuple #[.agg #[.int .i64 0, .int .i64 0, .int .i64 0, .int .i64 0, .int .i64 0, .int .i64 0], .int .i64 7]) (by simp [results, Tryd.results40, go_sem, *]) rfl ⟨rfl, ?_⟩
  (with_reducible repeat (first | exact B1.out | refine below_set ?_ hge))
set_option maxHeartbeats 3200000 in
set_option maxRecDepth 100000 in
theorem at_date (z t : Int) (w : World) (h0 : 0 ≤ z) (hz : z ≤ 9223372036854775807) (ha : clock_ahead.f 2108 = some t) (hlt : z / 86400 < t) (k : Nat) (y m d u0 u1 u2 : Int) (hd : clock_day.f k (z / 86400) = some (y, m, d, u0, u1, u2)) :
    Calls Tryd.prog 40 #[.int .i64 z] w fun e w' => e = .returned (.tuple #[.agg #[.int .i64 y, .int .i64 m, .int .i64 d, .int .i64 (z % 86400 / 3600), .int .i64 (z % 86400 / 60 % 60), .int .i64 (Go.bits .andNot .i64 (z % 86400 % 60) 1)], .int .i64 0]) ∧ Below w.heap.size w w' := by
  have d1 : decide (z < 0) = false := decide_eq_false (by omega)
  have d2 : decide (z / 86400 ≥ t) = false := decide_eq_false (by omega)
  have d3 : decide (t ≤ z / 86400) = false := decide_eq_false (by omega)
  have hb : 0 ≤ z / 86400 := by omega
  have hb2 : z / 86400 ≤ 9223372036854775807 := by omega
  have HA : Aside0 _ := ⟨fun W : World => clock_ahead.calls 2108 t W ha⟩
  have HD : Aside0 _ := ⟨fun W : World => clock_day.calls k (z / 86400) y m d u0 u1 u2 W hd⟩
  have hr0 : 0 ≤ z % 86400 := by omega
  have hr1 : z % 86400 < 86400 := by omega
  have R0 : Aside0 ((w.alloc (.cells #[.int .i64 0, .int .i64 0, .int .i64 0, .int .i64 0, .int .i64 0, .int .i64 0] 38)).heap[w.heap.size]? = some (.cells #[.int .i64 0, .int .i64 0, .int .i64 0, .int .i64 0, .int .i64 0, .int .i64 0] 38 (0, 0))) := ⟨heap_alloc_new _ _⟩
  have B0 : Aside0 (Below w.heap.size w (w.alloc (.cells #[.int .i64 0, .int .i64 0, .int .i64 0, .int .i64 0, .int .i64 0, .int .i64 0] 38))) := ⟨below_alloc (Below.refl _ _) _⟩
  clear ha hlt hd
  go_enter Tryd.func40, Tryd.ntmps40
  go_upto_region 1 with (fail)
  generalize (w.alloc (.cells #[.int .i64 0, .int .i64 0, .int .i64 0, .int .i64 0, .int .i64 0, .int .i64 0] 38)) = v0 at R0 B0 ⊢
  have hgl := XGlob.lt_of_get R0.out
  go_wp2_with fail
  refine Calls.mono (HA.out _) ?_
  rintro e v1 ⟨rfl, ⟨nq, rfl⟩⟩
  go_wp2_with fail
  refine Calls.mono (HD.out _) ?_
  rintro e v2 ⟨rfl, hbl⟩
  have B2 : Aside0 (Below w.heap.size w v2) := ⟨below_step (pw_below_drewN B0.out _) hbl⟩
  have R2 : Aside0 (v2.heap[w.heap.size]? = some (.cells #[.int .i64 0, .int .i64 0, .int .i64 0, .int .i64 0, .int .i64 0, .int .i64 0] 38 (0, 0))) := ⟨(hbl.block w.heap.size (by simp; omega)).trans (by simpa using R0.out)⟩
  clear hbl R0 B0 hgl HA HD
  go_upto_region 5 with (fail)
  have DD : Aside0 ((v2.alloc (.cells #[.int .i64 y, .int .i64 m, .int .i64 d, .int .i64 u0, .int .i64 u1, .int .i64 u2] 38)).heap[v2.heap.size]? = some (.cells #[.int .i64 y, .int .i64 m, .int .i64 d, .int .i64 u0, .int .i64 u1, .int .i64 u2] 38 (0, 0))) := ⟨heap_alloc_new _ _⟩
  have B3 : Aside0 (Below w.heap.size w (v2.alloc (.cells #[.int .i64 y, .int .i64 m, .int .i64 d, .int .i64 u0, .int .i64 u1, .int .i64 u2] 38))) := ⟨below_alloc B2.out _⟩
  have R3 : Aside0 ((v2.alloc (.cells #[.int .i64 y, .int .i64 m, .int .i64 d, .int .i64 u0, .int .i64 u1, .int .i64 u2] 38)).heap[w.heap.size]? = some (.cells #[.int .i64 0, .int .i64 0, .int .i64 0, .int .i64 0, .int .i64 0, .int .i64 0] 38 (0, 0))) := ⟨((below_alloc (Below.refl v2.heap.size v2) _).block _ (XGlob.lt_of_get R2.out)).trans R2.out⟩
  have hne : w.heap.size < v2.heap.size := XGlob.lt_of_get R2.out
  generalize (v2.alloc (.cells #[.int .i64 y, .int .i64 m, .int .i64 d, .int .i64 u0, .int .i64 u1, .int .i64 u2] 38)) = v3 at DD B3 R3 ⊢
  generalize v2.heap.size = g at DD hne ⊢
  generalize hb0 : w.heap.size = b at *
  have HB0 := Aside0.mk hb0
  clear R2 B2 hb0
  generalize hrest : z % 86400 = rest at *
  have HR := Aside0.mk hrest
  clear hrest
  clear d1 d2 d3 hb hb2 h0 hz
  obtain ⟨f0, f1, f2, f3, f4, f5⟩ := cells6 DD.out
  obtain ⟨r0, r1, r2, r3, r4, r5⟩ := cells6 R3.out
  have p3 := frozen6 DD.out 3
  have p4 := frozen6 DD.out 4
  have p5 := frozen6 DD.out 5
  have q0 := frozen6 R3.out 0
  have q1 := frozen6 R3.out 1
  have q2 := frozen6 R3.out 2
  have q3 := frozen6 R3.out 3
  have q4 := frozen6 R3.out 4
  have q5 := frozen6 R3.out 5
  have n1 : ¬ b = g := by omega
  have n2 : ¬ g = b := by omega
  have HG := Aside0.mk (show b ≤ g by omega)
  clear DD R3 hne
  go_wp2
  refine bodyPost_ret (v := .tuple #[.agg #[.int .i64 y, .int .i64 m, .int .i64 d, .int .i64 (rest / 3600), .int .i64 (rest / 60 % 60), .int .i64 (Go.bits .andNot .i64 (rest % 60) 1)], .int .i64 0]) (by simp [results, Tryd.results40, go_sem, *]) rfl ⟨by rw [HR.out], ?_⟩
  have B4 : Below w.heap.size w v3 := by rw [HB0.out]; exact B3.out
  have g1 : w.heap.size ≤ b := Nat.le_of_eq HB0.out
  have g2 : w.heap.size ≤ g := Nat.le_trans g1 HG.out
  exact below_set (below_set (below_set (below_set (below_set (below_set (below_set (below_set (below_set B4 g2) g2) g2) g1) g1) g1) g1) g1) g1

def clock_At.f (k : Nat) (a0 : Int) : Option (Int × Int × Int × Int × Int × Int × Int) := if a0 < 0 then some (0, 0, 0, 0, 0, 0, 7) else if a0 ≤ 9223372036854775807 then ((clock_ahead.f 2108).bind fun t => if t ≤ a0 / 86400 then some (0, 0, 0, 0, 0, 0, 7) else (clock_day.f k (a0 / 86400)).bind fun b => some (b.1, b.2.1, b.2.2.1, a0 % 86400 / 3600, a0 % 86400 / 60 % 60, Go.bits .andNot .i64 (a0 % 86400 % 60) 1, 0)) else none
theorem clock_At.mono : ∀ a0 k, LeO (clock_At.f k a0) (clock_At.f (k + 1) a0) := by
  intro a0 k
  unfold clock_At.f
  exact LeO.ite (LeO.refl _) (LeO.ite (LeO.bind (LeO.refl _) fun _ => LeO.ite (LeO.refl _) (LeO.bind (clock_day.mono _ _) fun _ => LeO.refl _)) (LeO.refl _))
theorem clock_At.calls (k : Nat) (a0 : Int) (r1 : Int) (r2 : Int) (r3 : Int) (r4 : Int) (r5 : Int) (r6 : Int) (r7 : Int) (w : World) (h : clock_At.f k a0 = some (r1, r2, r3, r4, r5, r6, r7)) :
    Calls Tryd.prog 40 #[.int .i64 a0] w fun e w' => e = .returned (.tuple #[.agg #[.int .i64 r1, .int .i64 r2, .int .i64 r3, .int .i64 r4, .int .i64 r5, .int .i64 r6], .int .i64 r7]) ∧ Below w.heap.size w w' := by
  unfold clock_At.f at h
  by_cases h0 : a0 < 0
  · rw [if_pos h0] at h
    have h2 := Option.some.inj h
    simp only [Prod.mk.injEq] at h2
    obtain ⟨rfl, rfl, rfl, rfl, rfl, rfl, rfl⟩ := h2
    exact at_neg a0 w h0
  · rw [if_neg h0] at h
    by_cases hz : a0 ≤ 9223372036854775807
    · rw [if_pos hz] at h
      obtain ⟨t, ha, h⟩ := Option.bind_eq_some_iff.1 h
      by_cases hl : t ≤ a0 / 86400
      · rw [if_pos hl] at h
        have h2 := Option.some.inj h
        simp only [Prod.mk.injEq] at h2
        obtain ⟨rfl, rfl, rfl, rfl, rfl, rfl, rfl⟩ := h2
        exact at_late a0 t w (by omega) hz ha hl
      · rw [if_neg hl] at h
        obtain ⟨⟨y, m, d, u0, u1, u2⟩, hd, h⟩ := Option.bind_eq_some_iff.1 h
        have h2 := Option.some.inj h
        simp only [Prod.mk.injEq] at h2
        obtain ⟨rfl, rfl, rfl, rfl, rfl, rfl, rfl⟩ := h2
        exact at_date a0 t w (by omega) hz ha (by omega) k y m d u0 u1 u2 hd
    · rw [if_neg hz] at h
      cases h


end Go.Proofs.YtdaofffedfccmaaDoor.XClockDates
-- laidx
