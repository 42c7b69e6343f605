-- Written by this session's own program wip/xprint.py: a changed copy of the kit's print.
import Derived.Test.YtdaofffedfccmaaDoorXClockDatesx0
import Derived.Test.YtdaofffedfccmaaDoorXClockDatesx1
import Derived.Test.YtdaofffedfccmaaDoorXClockDatesx2
import Derived.Test.YtdaofffedfccmaaDoorXClockDatesx3
import Derived.Test.YtdaofffedfccmaaDoorXClockDatesx4
import Derived.Test.YtdaofffedfccmaaDoorXClockDatesx5
import Derived.Test.YtdaofffedfccmaaDoorXClockDatesx6
namespace Go.Proofs.YtdaofffedfccmaaDoor.XClockDates
open Go.RowKit Go.Proofs.YtdaofffedfccmaaDoorW.PrintWords Go.Proofs.YtdaofffedfccmaaDoorW.PrintLast Go.Proofs.YtdaofffedfccmaaDoorW.PrintMore
attribute [local go_sem] max2_int min2_int max_two min_two max_three min_three max_four min_four   -- for this text's walks alone
set_option linter.unusedVariables false
set_option linter.unusedSimpArgs false

attribute [local go_sem high] eqA38
/-! ### montageref41_At: function 42 -/
mutual
def montageref41_At.l0 : Nat → Int → Int → Int → Option (Int × Int × Int × Int × Int × Int × Int)
  | 0, _, _, _ => none
  | k + 1, x4, x5, x6 => if x6 ≤ 2107 then (montageref41_At.l1 k x4 x5 x6 1) else (some (0, 0, 0, 0, 0, 0, 7))
def montageref41_At.l1 : Nat → Int → Int → Int → Int → Option (Int × Int × Int × Int × Int × Int × Int)
  | 0, _, _, _, _ => none
  | k + 1, x4, x5, x6, x7 => if x7 ≤ 12 then ((montageref41_days.f k x6 x7).bind fun t240 => (if x5 < t240 then (some (x6, x7, wrap64 (x5 + 1), wrap64 (Int.tdiv x4 3600), Int.tmod (wrap64 (Int.tdiv x4 60)) 60, wrap64 ((wrap64 (Int.tdiv (Int.tmod x4 60) 2)) * 2), 0)) else ((montageref41_days.f k x6 x7).bind fun t241 => (montageref41_At.l1 k x4 (wrap64 (x5 - t241)) x6 (wrap64 (x7 + 1)))))) else (montageref41_At.l0 k x4 x5 (wrap64 (x6 + 1)))
end
def montageref41_At.f (k : Nat) (a0 : Int) : Option (Int × Int × Int × Int × Int × Int × Int) := if a0 < 0 then (some (0, 0, 0, 0, 0, 0, 7)) else (montageref41_At.l0 k (Int.tmod a0 86400) (wrap64 (Int.tdiv a0 86400)) 1980)
theorem montageref41_At.mono_l : ∀ k, (∀ y0 y1 y2, LeO (montageref41_At.l0 k y0 y1 y2) (montageref41_At.l0 (k + 1) y0 y1 y2)) ∧ (∀ y0 y1 y2 y3, LeO (montageref41_At.l1 k y0 y1 y2 y3) (montageref41_At.l1 (k + 1) y0 y1 y2 y3))
  | 0 => ⟨fun _ _ _ r h => by simp [montageref41_At.l0] at h, fun _ _ _ _ r h => by simp [montageref41_At.l1] at h⟩
  | k + 1 => by
    obtain ⟨ih0, ih1⟩ := montageref41_At.mono_l k
    refine ⟨?_, ?_⟩
    · intro y0 y1 y2
      unfold montageref41_At.l0
      repeat' first
      | (with_reducible exact ih0 _ _ _)
      | (with_reducible exact ih1 _ _ _ _)
      | (with_reducible exact montageref41_days.mono _ _ _)
      | (with_reducible exact LeO.refl _)
      | (with_reducible exact LeO.none _)
      | (with_reducible refine LeO.ite ?_ ?_)
      | (with_reducible refine LeO.bind ?_ (fun _ => ?_))
      | exact ih0 _ _ _
      | exact ih1 _ _ _ _
      | exact montageref41_days.mono _ _ _
      | exact LeO.none _
      | refine LeO.ite ?_ ?_
      | refine LeO.bind ?_ (fun _ => ?_)
    · intro y0 y1 y2 y3
      unfold montageref41_At.l1
      repeat' first
      | (with_reducible exact ih0 _ _ _)
      | (with_reducible exact ih1 _ _ _ _)
      | (with_reducible exact montageref41_days.mono _ _ _)
      | (with_reducible exact LeO.refl _)
      | (with_reducible exact LeO.none _)
      | (with_reducible refine LeO.ite ?_ ?_)
      | (with_reducible refine LeO.bind ?_ (fun _ => ?_))
      | exact ih0 _ _ _
      | exact ih1 _ _ _ _
      | exact montageref41_days.mono _ _ _
      | exact LeO.none _
      | refine LeO.ite ?_ ?_
      | refine LeO.bind ?_ (fun _ => ?_)
theorem montageref41_At.mono : ∀ a0 k, LeO (montageref41_At.f k a0) (montageref41_At.f (k + 1) a0) := by
  intro a0 k
  obtain ⟨ih0, ih1⟩ := montageref41_At.mono_l k
  unfold montageref41_At.f
  repeat' first
      | (with_reducible exact ih0 _ _ _)
      | (with_reducible exact ih1 _ _ _ _)
      | (with_reducible exact montageref41_days.mono _ _ _)
      | (with_reducible exact LeO.refl _)
      | (with_reducible exact LeO.none _)
      | (with_reducible refine LeO.ite ?_ ?_)
      | (with_reducible refine LeO.bind ?_ (fun _ => ?_))
      | exact ih0 _ _ _
      | exact ih1 _ _ _ _
      | exact montageref41_days.mono _ _ _
      | exact LeO.none _
      | refine LeO.ite ?_ ?_
      | refine LeO.bind ?_ (fun _ => ?_)
set_option maxHeartbeats 8000000 in
set_option maxRecDepth 100000 in
theorem montageref41_At.calls (k : Nat) (a0 : Int) (r1 : Int) (r2 : Int) (r3 : Int) (r4 : Int) (r5 : Int) (r6 : Int) (r7 : Int) (w : World) (h : montageref41_At.f k a0 = some (r1, r2, r3, r4, r5, r6, r7)) :
    Calls Tryd.prog 42 #[.int .i64 a0] w fun e w' => e = .returned (.tuple #[.agg #[.int .i64 r1, .int .i64 r2, .int .i64 r3, .int .i64 r4, .int .i64 r5, .int .i64 r6], .int .i64 r7]) ∧ Below w.heap.size w w' := by
  have hu38 := Tryd.underlying38
  have HB := Aside0.mk (Below.refl w.heap.size w)
  have H : (if a0 < 0 then (some (0, 0, 0, 0, 0, 0, 7)) else (montageref41_At.l0 k (Int.tmod a0 86400) (wrap64 (Int.tdiv a0 86400)) 1980)) = some (r1, r2, r3, r4, r5, r6, r7) := h
  clear h
  obtain ⟨rest_, hrest_⟩ : ∃ r_ : Int, Int.tmod a0 86400 = r_ := ⟨_, rfl⟩
  rw [hrest_] at H
  by_cases c2 : a0 < 0
  · rw [if_pos c2] at H
    have c2b0 : decide (a0 < 0) = true := decide_eq_true c2
    clear c2
    simp only [Option.some.injEq, Prod.mk.injEq] at H
    obtain ⟨rfl, rfl, rfl, rfl, rfl, rfl, rfl⟩ := H
    go_enter Tryd.func42, Tryd.ntmps42
    go_wp2_with (first | ((with_reducible refine gate_dst (N := 2) rfl ?_); refine box_event ?hg (N := 2) ?hd (cs := #[.int .i64 0, .int .i64 0, .int .i64 0, .int .i64 0, .int .i64 0, .int .i64 0]) (t := 38) ?hr ?_; (case hd => rfl); (case hg => rfl); (case hr => first | (go_simp; done) | (go_simp; rfl)); intro gb239 hg w3 hbox hb; have n0_ := Aside0.mk (below_step (by repeat (first | (with_reducible first | exact HB.out | apply below_alloc | apply pw_below_drewN | apply below_drew1) | exact HB.out)) hb); have n1_ := Aside0.mk (hbox); have n2_ := Aside0.mk ((by rw [hg]; exact (below_size (by repeat (first | (with_reducible first | exact HB.out | apply below_alloc | apply pw_below_drewN | apply below_drew1) | exact HB.out))) : w.heap.size ≤ gb239)); have n3_ := Aside0.mk ((by rw [hg]; exact (below_size (by repeat (first | (with_reducible first | exact HB.out | apply below_alloc | apply pw_below_drewN | apply below_drew1) | exact HB.out))) : w.heap.size ≤ gb239)); clear HB; have HB := n0_; have BK239 := n1_; have GW239 := n2_; have GE239 := n3_; clear n0_ n1_ n2_ n3_; clear hb hbox hg; have hcz4_0 : w3.cell? ⟨gb239, 0, none⟩ = some (.int .i64 0) := (blk_cell BK239.out 0).trans rfl; have hcz4_1 : w3.cell? ⟨gb239, 1, none⟩ = some (.int .i64 0) := (blk_cell BK239.out 1).trans rfl; have hcz4_2 : w3.cell? ⟨gb239, 2, none⟩ = some (.int .i64 0) := (blk_cell BK239.out 2).trans rfl; have hcz4_3 : w3.cell? ⟨gb239, 3, none⟩ = some (.int .i64 0) := (blk_cell BK239.out 3).trans rfl; have hcz4_4 : w3.cell? ⟨gb239, 4, none⟩ = some (.int .i64 0) := (blk_cell BK239.out 4).trans rfl; have hcz4_5 : w3.cell? ⟨gb239, 5, none⟩ = some (.int .i64 0) := (blk_cell BK239.out 5).trans rfl; have hfz4_0 := blk_frozen BK239.out 0; have hfz4_1 := blk_frozen BK239.out 1; have hfz4_2 := blk_frozen BK239.out 2; have hfz4_3 := blk_frozen BK239.out 3; have hfz4_4 := blk_frozen BK239.out 4; have hfz4_5 := blk_frozen BK239.out 5))
    refine bodyPost_ret (results_ct rfl _ _ gb239 38 #[.int .i64 0, .int .i64 0, .int .i64 0, .int .i64 0, .int .i64 0, .int .i64 0] (0, 0) _ rfl (by (with_reducible repeat (first | refine blk_drewN ?_ _ | refine blk_drew ?_ | refine blk_alloc ?_ _)); refine blk_put (cs := #[.int .i64 0, .int .i64 0, .int .i64 0, .int .i64 0, .int .i64 0, .int .i64 0]) ?_ 5 _ rfl; (with_reducible repeat (first | refine blk_drewN ?_ _ | refine blk_drew ?_ | refine blk_alloc ?_ _)); refine blk_put (cs := #[.int .i64 0, .int .i64 0, .int .i64 0, .int .i64 0, .int .i64 0, .int .i64 0]) ?_ 4 _ rfl; (with_reducible repeat (first | refine blk_drewN ?_ _ | refine blk_drew ?_ | refine blk_alloc ?_ _)); refine blk_put (cs := #[.int .i64 0, .int .i64 0, .int .i64 0, .int .i64 0, .int .i64 0, .int .i64 0]) ?_ 3 _ rfl; (with_reducible repeat (first | refine blk_drewN ?_ _ | refine blk_drew ?_ | refine blk_alloc ?_ _)); refine blk_put (cs := #[.int .i64 0, .int .i64 0, .int .i64 0, .int .i64 0, .int .i64 0, .int .i64 0]) ?_ 2 _ rfl; (with_reducible repeat (first | refine blk_drewN ?_ _ | refine blk_drew ?_ | refine blk_alloc ?_ _)); refine blk_put (cs := #[.int .i64 0, .int .i64 0, .int .i64 0, .int .i64 0, .int .i64 0, .int .i64 0]) ?_ 1 _ rfl; (with_reducible repeat (first | refine blk_drewN ?_ _ | refine blk_drew ?_ | refine blk_alloc ?_ _)); refine blk_put (cs := #[.int .i64 0, .int .i64 0, .int .i64 0, .int .i64 0, .int .i64 0, .int .i64 0]) ?_ 0 _ rfl; (with_reducible repeat (first | refine blk_drewN ?_ _ | refine blk_drew ?_ | refine blk_alloc ?_ _)); exact BK239.out) Tryd.underlying38 rfl (by kernel_rfl)) rfl ?_
    exact ⟨by first | rfl | (simp [errW_none, errW_some] <;> rfl) | (simp [*, errW_none, errW_some] <;> rfl), by repeat (first | (with_reducible first | exact HB.out | apply below_alloc | apply pw_below_drewN | apply below_drew1 | refine below_set ?_ GE239.out) | exact HB.out)⟩
  · rw [if_neg c2] at H
    have c2b0 : decide (a0 < 0) = false := decide_eq_false c2
    clear c2
    have H' := Aside0.mk H
    clear H
    go_enter Tryd.func42, Tryd.ntmps42
    go_wp2_with (first | ((with_reducible refine gate_dst (N := 2) rfl ?_); refine box_event ?hg (N := 2) ?hd (cs := #[.int .i64 0, .int .i64 0, .int .i64 0, .int .i64 0, .int .i64 0, .int .i64 0]) (t := 38) ?hr ?_; (case hd => rfl); (case hg => rfl); (case hr => first | (go_simp; done) | (go_simp; rfl)); intro gb239 hg w5 hbox hb; have n0_ := Aside0.mk (below_step (by repeat (first | (with_reducible first | exact HB.out | apply below_alloc | apply pw_below_drewN | apply below_drew1) | exact HB.out)) hb); have n1_ := Aside0.mk (hbox); have n2_ := Aside0.mk ((by rw [hg]; exact (below_size (by repeat (first | (with_reducible first | exact HB.out | apply below_alloc | apply pw_below_drewN | apply below_drew1) | exact HB.out))) : w.heap.size ≤ gb239)); have n3_ := Aside0.mk ((by rw [hg]; exact (below_size (by repeat (first | (with_reducible first | exact HB.out | apply below_alloc | apply pw_below_drewN | apply below_drew1) | exact HB.out))) : w.heap.size ≤ gb239)); clear HB; have HB := n0_; have BK239 := n1_; have GW239 := n2_; have GE239 := n3_; clear n0_ n1_ n2_ n3_; clear hb hbox hg))
    go_loopg [5, 6] k (fun kq v5 v6 w' => ∃ (x5_1 : Int) (x6_1 : Int) (x240000_1 : Int) (x240001_1 : Int) (x240002_1 : Int) (x240003_1 : Int) (x240004_1 : Int) (x240005_1 : Int), v5 = .int .i64 x5_1 ∧ v6 = .int .i64 x6_1 ∧ Aside0 (montageref41_At.l0 kq rest_ x5_1 x6_1 = some (r1, r2, r3, r4, r5, r6, r7)) ∧ Aside0 (kq ≤ k) ∧ Aside0 (w'.heap[gb239]? = some (.cells #[.int .i64 x240000_1, .int .i64 x240001_1, .int .i64 x240002_1, .int .i64 x240003_1, .int .i64 x240004_1, .int .i64 x240005_1] 38 (0, 0))) ∧ Aside0 (Below w.heap.size w w'))
    case atStart => exact ⟨(wrap64 (Int.tdiv a0 86400)), (1980), (0), (0), (0), (0), (0), (0), (by first | rfl | (simp; done) | (simp [*]; done)), (by first | rfl | (simp; done) | (simp [*]; done)), H', ⟨Nat.le_refl _⟩, ⟨by (with_reducible repeat (first | refine blk_drewN ?_ _ | refine blk_drew ?_ | refine blk_alloc ?_ _)); exact BK239.out⟩, ⟨by repeat (first | (with_reducible first | exact HB.out | apply below_alloc | apply pw_below_drewN | apply below_drew1 | refine below_set ?_ GE239.out) | exact HB.out)⟩⟩
    case round =>
      clear H'
      try clear c2
      try clear c2b0
      try clear p2
      try clear c4
      try clear hcz4_0
      try clear hcz4_1
      try clear hcz4_2
      try clear hcz4_3
      try clear hcz4_4
      try clear hcz4_5
      try clear hfz4_0
      try clear hfz4_1
      try clear hfz4_2
      try clear hfz4_3
      try clear hfz4_4
      try clear hfz4_5
      obtain ⟨x5_1, x6_1, x240000_1, x240001_1, x240002_1, x240003_1, x240004_1, x240005_1, rfl, rfl, HA, HK1, BK239, HB⟩ := hrel
      cases gk with
      | zero => exact absurd HA.out (by simp [montageref41_At.l0])
      | succ k1 =>
        have H := HA.out
        clear HA
        simp only [montageref41_At.l0] at H
        by_cases c6 : x6_1 ≤ 2107
        · rw [if_pos c6] at H
          have c6b0 : decide (x6_1 ≤ 2107) = true := decide_eq_true c6
          clear c6
          have H' := Aside0.mk H
          clear H
          go_wp2
          go_loopg [5, 7] k1 (fun kq v5 v7 w' => ∃ (x5_2 : Int) (x7_2 : Int) (x240000_2 : Int) (x240001_2 : Int) (x240002_2 : Int) (x240003_2 : Int) (x240004_2 : Int) (x240005_2 : Int), v5 = .int .i64 x5_2 ∧ v7 = .int .i64 x7_2 ∧ Aside0 (montageref41_At.l1 kq rest_ x5_2 x6_1 x7_2 = some (r1, r2, r3, r4, r5, r6, r7)) ∧ Aside0 (kq ≤ k1) ∧ Aside0 (w'.heap[gb239]? = some (.cells #[.int .i64 x240000_2, .int .i64 x240001_2, .int .i64 x240002_2, .int .i64 x240003_2, .int .i64 x240004_2, .int .i64 x240005_2] 38 (0, 0))) ∧ Aside0 (Below w.heap.size w w'))
          case atStart => exact ⟨(x5_1), (1), (x240000_1), (x240001_1), (x240002_1), (x240003_1), (x240004_1), (x240005_1), (by first | rfl | (simp; done) | (simp [*]; done)), (by first | rfl | (simp; done) | (simp [*]; done)), H', ⟨Nat.le_refl _⟩, ⟨by (with_reducible repeat (first | refine blk_drewN ?_ _ | refine blk_drew ?_ | refine blk_alloc ?_ _)); exact BK239.out⟩, ⟨by repeat (first | (with_reducible first | exact HB.out | apply below_alloc | apply pw_below_drewN | apply below_drew1 | refine below_set ?_ GE239.out) | exact HB.out)⟩⟩
          case round =>
            clear H'
            try clear c2
            try clear c2b0
            try clear p2
            try clear c4
            try clear c6
            try clear c6b0
            try clear p6
            try clear hcz4_0
            try clear hcz4_1
            try clear hcz4_2
            try clear hcz4_3
            try clear hcz4_4
            try clear hcz4_5
            try clear hfz4_0
            try clear hfz4_1
            try clear hfz4_2
            try clear hfz4_3
            try clear hfz4_4
            try clear hfz4_5
            try clear p2
            obtain ⟨x5_2, x7_2, x240000_2, x240001_2, x240002_2, x240003_2, x240004_2, x240005_2, rfl, rfl, HA, HK2, BK239, HB⟩ := hrel
            cases gk with
            | zero => exact absurd HA.out (by simp [montageref41_At.l1])
            | succ k2 =>
              have H := HA.out
              clear HA
              simp only [montageref41_At.l1] at H
              by_cases c7 : x7_2 ≤ 12
              · rw [if_pos c7] at H
                have c7b0 : decide (x7_2 ≤ 12) = true := decide_eq_true c7
                clear c7
                replace H := Option.bind_eq_some_iff.mp H
                obtain ⟨t240, A80, H⟩ := H
                replace H : (if x5_2 < t240 then (some (x6_1, x7_2, wrap64 (x5_2 + 1), wrap64 (Int.tdiv rest_ 3600), Int.tmod (wrap64 (Int.tdiv rest_ 60)) 60, wrap64 ((wrap64 (Int.tdiv (Int.tmod rest_ 60) 2)) * 2), 0)) else ((montageref41_days.f k2 x6_1 x7_2).bind fun t241 => (montageref41_At.l1 k2 rest_ (wrap64 (x5_2 - t241)) x6_1 (wrap64 (x7_2 + 1))))) = some (r1, r2, r3, r4, r5, r6, r7) := H
                have A8 := Aside0.mk A80
                clear A80
                by_cases c9 : x5_2 < t240
                · rw [if_pos c9] at H
                  have c9b0 : decide (x5_2 < t240) = true := decide_eq_true c9
                  clear c9
                  simp only [Option.some.injEq, Prod.mk.injEq] at H
                  obtain ⟨rfl, rfl, rfl, rfl, rfl, rfl, rfl⟩ := H
                  go_wp2_with (first | ((with_reducible refine gate_callee (f := 81) rfl ?_); refine goesL_ (some 26) rfl rfl Tryd.func81 (by kernel_rfl) rfl #[.int .i64 x6_1, .int .i64 x7_2] rfl (by (try simp only [List.map_toArray, List.map_cons, List.map_nil]); first | done | rfl | (simp only [List.length_drop, List.length_take]; rfl)) ?_; (with_reducible refine (montageref41_days.calls k2 x6_1 x7_2 t240 _ A8.out).mono ?_); rintro e w' ⟨rfl, ⟨nd, rfl⟩⟩; refine ⟨_, rfl, ?_⟩; (try (rw [drewN_self wr]; generalize hq_ : World.drewN wr _ = wr; have n0_ : Aside0 (wr.heap[gb239]? = some (.cells #[.int .i64 x240000_2, .int .i64 x240001_2, .int .i64 x240002_2, .int .i64 x240003_2, .int .i64 x240004_2, .int .i64 x240005_2] 38 (0, 0))) := ⟨by rw [← hq_]; exact (by (with_reducible repeat (first | refine blk_drewN ?_ _ | refine blk_drew ?_ | refine blk_alloc ?_ _)); exact BK239.out)⟩; have n1_ : Aside0 (Below w.heap.size w wr) := ⟨by rw [← hq_]; exact (by repeat (first | (with_reducible first | exact HB.out | apply below_alloc | apply pw_below_drewN | apply below_drew1 | refine below_set ?_ GE239.out) | exact HB.out))⟩; clear BK239 HB hq_; have BK239 := n0_; have HB := n1_; clear n0_ n1_)); have hcz10_0 : wr.cell? ⟨gb239, 0, none⟩ = some (.int .i64 x240000_2) := (blk_cell BK239.out 0).trans rfl; have hcz10_1 : wr.cell? ⟨gb239, 1, none⟩ = some (.int .i64 x240001_2) := (blk_cell BK239.out 1).trans rfl; have hcz10_2 : wr.cell? ⟨gb239, 2, none⟩ = some (.int .i64 x240002_2) := (blk_cell BK239.out 2).trans rfl; have hcz10_3 : wr.cell? ⟨gb239, 3, none⟩ = some (.int .i64 x240003_2) := (blk_cell BK239.out 3).trans rfl; have hcz10_4 : wr.cell? ⟨gb239, 4, none⟩ = some (.int .i64 x240004_2) := (blk_cell BK239.out 4).trans rfl; have hcz10_5 : wr.cell? ⟨gb239, 5, none⟩ = some (.int .i64 x240005_2) := (blk_cell BK239.out 5).trans rfl; have hfz10_0 := blk_frozen BK239.out 0; have hfz10_1 := blk_frozen BK239.out 1; have hfz10_2 := blk_frozen BK239.out 2; have hfz10_3 := blk_frozen BK239.out 3; have hfz10_4 := blk_frozen BK239.out 4; have hfz10_5 := blk_frozen BK239.out 5))
                  refine bodyPost_ret (results_ct rfl _ _ gb239 38 #[.int .i64 x6_1, .int .i64 x7_2, .int .i64 (wrap64 (x5_2 + 1)), .int .i64 (wrap64 (Int.tdiv rest_ 3600)), .int .i64 (Int.tmod (wrap64 (Int.tdiv rest_ 60)) 60), .int .i64 (wrap64 ((wrap64 (Int.tdiv (Int.tmod rest_ 60) 2)) * 2))] (0, 0) _ rfl (by (with_reducible repeat (first | refine blk_drewN ?_ _ | refine blk_drew ?_ | refine blk_alloc ?_ _)); refine blk_put (cs := #[.int .i64 x6_1, .int .i64 x7_2, .int .i64 (wrap64 (x5_2 + 1)), .int .i64 (wrap64 (Int.tdiv rest_ 3600)), .int .i64 (Int.tmod (wrap64 (Int.tdiv rest_ 60)) 60), .int .i64 x240005_2]) ?_ 5 _ rfl; (with_reducible repeat (first | refine blk_drewN ?_ _ | refine blk_drew ?_ | refine blk_alloc ?_ _)); refine blk_put (cs := #[.int .i64 x6_1, .int .i64 x7_2, .int .i64 (wrap64 (x5_2 + 1)), .int .i64 (wrap64 (Int.tdiv rest_ 3600)), .int .i64 x240004_2, .int .i64 x240005_2]) ?_ 4 _ rfl; (with_reducible repeat (first | refine blk_drewN ?_ _ | refine blk_drew ?_ | refine blk_alloc ?_ _)); refine blk_put (cs := #[.int .i64 x6_1, .int .i64 x7_2, .int .i64 (wrap64 (x5_2 + 1)), .int .i64 x240003_2, .int .i64 x240004_2, .int .i64 x240005_2]) ?_ 3 _ rfl; (with_reducible repeat (first | refine blk_drewN ?_ _ | refine blk_drew ?_ | refine blk_alloc ?_ _)); refine blk_put (cs := #[.int .i64 x6_1, .int .i64 x7_2, .int .i64 x240002_2, .int .i64 x240003_2, .int .i64 x240004_2, .int .i64 x240005_2]) ?_ 2 _ rfl; (with_reducible repeat (first | refine blk_drewN ?_ _ | refine blk_drew ?_ | refine blk_alloc ?_ _)); refine blk_put (cs := #[.int .i64 x6_1, .int .i64 x240001_2, .int .i64 x240002_2, .int .i64 x240003_2, .int .i64 x240004_2, .int .i64 x240005_2]) ?_ 1 _ rfl; (with_reducible repeat (first | refine blk_drewN ?_ _ | refine blk_drew ?_ | refine blk_alloc ?_ _)); refine blk_put (cs := #[.int .i64 x240000_2, .int .i64 x240001_2, .int .i64 x240002_2, .int .i64 x240003_2, .int .i64 x240004_2, .int .i64 x240005_2]) ?_ 0 _ rfl; (with_reducible repeat (first | refine blk_drewN ?_ _ | refine blk_drew ?_ | refine blk_alloc ?_ _)); exact BK239.out) Tryd.underlying38 rfl (by kernel_rfl)) rfl ?_
                  exact ⟨by first | rfl | (simp [errW_none, errW_some] <;> rfl) | (simp [*, errW_none, errW_some] <;> rfl), by repeat (first | (with_reducible first | exact HB.out | apply below_alloc | apply pw_below_drewN | apply below_drew1 | refine below_set ?_ GE239.out) | exact HB.out)⟩
                · rw [if_neg c9] at H
                  have c9b0 : decide (x5_2 < t240) = false := decide_eq_false c9
                  clear c9
                  replace H := Option.bind_eq_some_iff.mp H
                  obtain ⟨t241, A110, H⟩ := H
                  replace H : (montageref41_At.l1 k2 rest_ (wrap64 (x5_2 - t241)) x6_1 (wrap64 (x7_2 + 1))) = some (r1, r2, r3, r4, r5, r6, r7) := H
                  have A11 := Aside0.mk A110
                  clear A110
                  have H' := Aside0.mk H
                  clear H
                  go_wp2_with (first | ((with_reducible refine gate_callee (f := 81) rfl ?_); refine goesL_ (some 26) rfl rfl Tryd.func81 (by kernel_rfl) rfl #[.int .i64 x6_1, .int .i64 x7_2] rfl (by (try simp only [List.map_toArray, List.map_cons, List.map_nil]); first | done | rfl | (simp only [List.length_drop, List.length_take]; rfl)) ?_; (with_reducible refine (montageref41_days.calls k2 x6_1 x7_2 t240 _ A8.out).mono ?_); rintro e w' ⟨rfl, ⟨nd, rfl⟩⟩; refine ⟨_, rfl, ?_⟩) | ((with_reducible refine gate_callee (f := 81) rfl ?_); refine goesL_ (some 45) rfl rfl Tryd.func81 (by kernel_rfl) rfl #[.int .i64 x6_1, .int .i64 x7_2] rfl (by (try simp only [List.map_toArray, List.map_cons, List.map_nil]); first | done | rfl | (simp only [List.length_drop, List.length_take]; rfl)) ?_; (with_reducible refine (montageref41_days.calls k2 x6_1 x7_2 t241 _ A11.out).mono ?_); rintro e w' ⟨rfl, ⟨nd, rfl⟩⟩; refine ⟨_, rfl, ?_⟩))
                  go_roundg k2
                  case measure => have := HK1.out; have := HK2.out; omega
                  case rel => exact ⟨(wrap64 (x5_2 - t241)), (wrap64 (x7_2 + 1)), (x240000_2), (x240001_2), (x240002_2), (x240003_2), (x240004_2), (x240005_2), (by first | rfl | (simp; done) | (simp [*]; done)), (by first | rfl | (simp; done) | (simp [*]; done)), H', ⟨by have := HK1.out; have := HK2.out; omega⟩, ⟨by (with_reducible repeat (first | refine blk_drewN ?_ _ | refine blk_drew ?_ | refine blk_alloc ?_ _)); exact BK239.out⟩, ⟨by repeat (first | (with_reducible first | exact HB.out | apply below_alloc | apply pw_below_drewN | apply below_drew1 | refine below_set ?_ GE239.out) | exact HB.out)⟩⟩
              · rw [if_neg c7] at H
                have c7b0 : decide (x7_2 ≤ 12) = false := decide_eq_false c7
                clear c7
                have H' := Aside0.mk H
                clear H
                go_wp2
                go_roundg k2
                case measure => have := HK1.out; have := HK2.out; omega
                case rel => exact ⟨(x5_2), (wrap64 (x6_1 + 1)), (x240000_2), (x240001_2), (x240002_2), (x240003_2), (x240004_2), (x240005_2), (by first | rfl | (simp; done) | (simp [*]; done)), (by first | rfl | (simp; done) | (simp [*]; done)), H', ⟨by have := HK1.out; have := HK2.out; omega⟩, ⟨by (with_reducible repeat (first | refine blk_drewN ?_ _ | refine blk_drew ?_ | refine blk_alloc ?_ _)); exact BK239.out⟩, ⟨by repeat (first | (with_reducible first | exact HB.out | apply below_alloc | apply pw_below_drewN | apply below_drew1 | refine below_set ?_ GE239.out) | exact HB.out)⟩⟩
        · rw [if_neg c6] at H
          have c6b0 : decide (x6_1 ≤ 2107) = false := decide_eq_false c6
          clear c6
          simp only [Option.some.injEq, Prod.mk.injEq] at H
          obtain ⟨rfl, rfl, rfl, rfl, rfl, rfl, rfl⟩ := H
          have hcz12_0 : wr.cell? ⟨gb239, 0, none⟩ = some (.int .i64 x240000_1) := (blk_cell BK239.out 0).trans rfl
          have hcz12_1 : wr.cell? ⟨gb239, 1, none⟩ = some (.int .i64 x240001_1) := (blk_cell BK239.out 1).trans rfl
          have hcz12_2 : wr.cell? ⟨gb239, 2, none⟩ = some (.int .i64 x240002_1) := (blk_cell BK239.out 2).trans rfl
          have hcz12_3 : wr.cell? ⟨gb239, 3, none⟩ = some (.int .i64 x240003_1) := (blk_cell BK239.out 3).trans rfl
          have hcz12_4 : wr.cell? ⟨gb239, 4, none⟩ = some (.int .i64 x240004_1) := (blk_cell BK239.out 4).trans rfl
          have hcz12_5 : wr.cell? ⟨gb239, 5, none⟩ = some (.int .i64 x240005_1) := (blk_cell BK239.out 5).trans rfl
          have hfz12_0 := blk_frozen BK239.out 0
          have hfz12_1 := blk_frozen BK239.out 1
          have hfz12_2 := blk_frozen BK239.out 2
          have hfz12_3 := blk_frozen BK239.out 3
          have hfz12_4 := blk_frozen BK239.out 4
          have hfz12_5 := blk_frozen BK239.out 5
          go_wp2
          refine bodyPost_ret (results_ct rfl _ _ gb239 38 #[.int .i64 0, .int .i64 0, .int .i64 0, .int .i64 0, .int .i64 0, .int .i64 0] (0, 0) _ rfl (by (with_reducible repeat (first | refine blk_drewN ?_ _ | refine blk_drew ?_ | refine blk_alloc ?_ _)); refine blk_put (cs := #[.int .i64 0, .int .i64 0, .int .i64 0, .int .i64 0, .int .i64 0, .int .i64 x240005_1]) ?_ 5 _ rfl; (with_reducible repeat (first | refine blk_drewN ?_ _ | refine blk_drew ?_ | refine blk_alloc ?_ _)); refine blk_put (cs := #[.int .i64 0, .int .i64 0, .int .i64 0, .int .i64 0, .int .i64 x240004_1, .int .i64 x240005_1]) ?_ 4 _ rfl; (with_reducible repeat (first | refine blk_drewN ?_ _ | refine blk_drew ?_ | refine blk_alloc ?_ _)); refine blk_put (cs := #[.int .i64 0, .int .i64 0, .int .i64 0, .int .i64 x240003_1, .int .i64 x240004_1, .int .i64 x240005_1]) ?_ 3 _ rfl; (with_reducible repeat (first | refine blk_drewN ?_ _ | refine blk_drew ?_ | refine blk_alloc ?_ _)); refine blk_put (cs := #[.int .i64 0, .int .i64 0, .int .i64 x240002_1, .int .i64 x240003_1, .int .i64 x240004_1, .int .i64 x240005_1]) ?_ 2 _ rfl; (with_reducible repeat (first | refine blk_drewN ?_ _ | refine blk_drew ?_ | refine blk_alloc ?_ _)); refine blk_put (cs := #[.int .i64 0, .int .i64 x240001_1, .int .i64 x240002_1, .int .i64 x240003_1, .int .i64 x240004_1, .int .i64 x240005_1]) ?_ 1 _ rfl; (with_reducible repeat (first | refine blk_drewN ?_ _ | refine blk_drew ?_ | refine blk_alloc ?_ _)); refine blk_put (cs := #[.int .i64 x240000_1, .int .i64 x240001_1, .int .i64 x240002_1, .int .i64 x240003_1, .int .i64 x240004_1, .int .i64 x240005_1]) ?_ 0 _ rfl; (with_reducible repeat (first | refine blk_drewN ?_ _ | refine blk_drew ?_ | refine blk_alloc ?_ _)); exact BK239.out) Tryd.underlying38 rfl (by kernel_rfl)) rfl ?_
          exact ⟨by first | rfl | (simp [errW_none, errW_some] <;> rfl) | (simp [*, errW_none, errW_some] <;> rfl), by repeat (first | (with_reducible first | exact HB.out | apply below_alloc | apply pw_below_drewN | apply below_drew1 | refine below_set ?_ GE239.out) | exact HB.out)⟩

/-! ### montageref41_number: function 88 -/
def montageref41_number.l0 : Nat → ByteArray → Int → Int → Option (Int)
  | 0, _, _, _ => none
  | k + 1, x0, x3, x4 => if x4 < (x0.size : Int) then (if 0 ≤ x4 then (montageref41_number.l0 k x0 (wrap64 ((wrap64 ((wrap64 (10 * x3)) + (wrap64 (bt x0 x4)))) - 48)) (wrap64 (x4 + 1))) else (none)) else (some x3)
def montageref41_number.f (k : Nat) (a0 : ByteArray) : Option (Int) := montageref41_number.l0 k a0 0 0
theorem montageref41_number.mono_l : ∀ k, (∀ y0 y1 y2, LeO (montageref41_number.l0 k y0 y1 y2) (montageref41_number.l0 (k + 1) y0 y1 y2))
  | 0 => fun _ _ _ r h => by simp [montageref41_number.l0] at h
  | k + 1 => by
    have ih0 := montageref41_number.mono_l k
    · intro y0 y1 y2
      unfold montageref41_number.l0
      repeat' first
      | (with_reducible exact ih0 _ _ _)
      | (with_reducible exact LeO.refl _)
      | (with_reducible exact LeO.none _)
      | (with_reducible refine LeO.ite ?_ ?_)
      | (with_reducible refine LeO.bind ?_ (fun _ => ?_))
      | exact ih0 _ _ _
      | exact LeO.none _
      | refine LeO.ite ?_ ?_
      | refine LeO.bind ?_ (fun _ => ?_)
theorem montageref41_number.mono : ∀ a0 k, LeO (montageref41_number.f k a0) (montageref41_number.f (k + 1) a0) := by
  intro a0 k
  have ih0 := montageref41_number.mono_l k
  unfold montageref41_number.f
  repeat' first
      | (with_reducible exact ih0 _ _ _)
      | (with_reducible exact LeO.refl _)
      | (with_reducible exact LeO.none _)
      | (with_reducible refine LeO.ite ?_ ?_)
      | (with_reducible refine LeO.bind ?_ (fun _ => ?_))
      | exact ih0 _ _ _
      | exact LeO.none _
      | refine LeO.ite ?_ ?_
      | refine LeO.bind ?_ (fun _ => ?_)
set_option maxHeartbeats 8000000 in
set_option maxRecDepth 100000 in
theorem montageref41_number.calls (k : Nat) (a0 : ByteArray) (r : Int) (w : World) (h : montageref41_number.f k a0 = some r) :
    Calls Tryd.prog 88 #[.string a0] w fun e w' => e = .returned (.int .i64 r) ∧ Drawn0 w w' := by
  have H : (montageref41_number.l0 k a0 0 0) = some r := h
  clear h
  have H' := Aside0.mk H
  clear H
  go_enter Tryd.func88, Tryd.ntmps88
  go_wp2
  go_loopg [3, 4] k (fun kq v3 v4 w' => ∃ (x3_1 : Int) (x4_1 : Int), v3 = .int .i64 x3_1 ∧ v4 = .int .i64 x4_1 ∧ Aside0 (montageref41_number.l0 kq a0 x3_1 x4_1 = some r) ∧ Aside0 (kq ≤ k) ∧ Drawn0 w w')
  case atStart => exact ⟨(0), (0), (by first | rfl | (simp; done) | (simp [*]; done)), (by first | rfl | (simp; done) | (simp [*]; done)), H', ⟨Nat.le_refl _⟩, by repeat (first | exact Drawn0.refl _ | apply Drawn0.step)⟩
  case round =>
    clear H'
    obtain ⟨x3_1, x4_1, rfl, rfl, HA, HK1, ⟨m1, rfl⟩⟩ := hrel
    cases gk with
    | zero => exact absurd HA.out (by simp [montageref41_number.l0])
    | succ k1 =>
      have H := HA.out
      clear HA
      simp only [montageref41_number.l0] at H
      by_cases c2 : x4_1 < (a0.size : Int)
      · rw [if_pos c2] at H
        have c2b0 : decide (x4_1 < (a0.size : Int)) = true := decide_eq_true c2
        clear c2
        by_cases c3 : 0 ≤ x4_1
        · rw [if_pos c3] at H
          have c3b0 : decide (0 ≤ x4_1) = true := decide_eq_true c3
          clear c3
          have H' := Aside0.mk H
          clear H
          have p4 : 0 ≤ (x4_1 : Int) := of_decide_eq_true (by first | (with_reducible assumption) | assumption)
          have q4 : x4_1 < (a0.size : Int) := of_decide_eq_true (by first | (with_reducible assumption) | assumption)
          have hx4 := bt_at a0 x4_1
          replace p4 := eq_true p4
          replace q4 := eq_true q4
          go_wp2
          go_roundg k1
          case measure => have := HK1.out; omega
          case rel => exact ⟨(wrap64 ((wrap64 ((wrap64 (10 * x3_1)) + (wrap64 (bt a0 x4_1)))) - 48)), (wrap64 (x4_1 + 1)), (by first | rfl | (simp; done) | (simp [*]; done)), (by first | rfl | (simp; done) | (simp [*]; done)), H', ⟨by have := HK1.out; omega⟩, by repeat (first | exact Drawn0.refl _ | apply Drawn0.step)⟩
        · rw [if_neg c3] at H
          exact absurd H (by simp)
      · rw [if_neg c2] at H
        have c2b0 : decide (x4_1 < (a0.size : Int)) = false := decide_eq_false c2
        clear c2
        obtain rfl := Option.some.inj H
        simp only [Option.some.injEq, Prod.mk.injEq] at H
        obtain ⟨rfl⟩ := H
        go_wp2
        go_ret
        exact ⟨by first | rfl | (simp; done) | (simp [*]; done), by repeat (first | exact Drawn0.refl _ | apply Drawn0.step)⟩

end Go.Proofs.YtdaofffedfccmaaDoor.XClockDates
-- laidx
