-- Written by this session's own program wip/xprint.py: a changed copy of the kit's print.
import Derived.Test.YtdaofffedfccmaaDoorXClockDatesx0
import Derived.Test.YtdaofffedfccmaaDoorXClockDatesx1
import Derived.Test.YtdaofffedfccmaaDoorXClockDatesx2
import Derived.Test.YtdaofffedfccmaaDoorXClockDatesx3
import Derived.Test.YtdaofffedfccmaaDoorXClockDatesx4
import Derived.Test.YtdaofffedfccmaaDoorXClockDatesx5
import Derived.Test.YtdaofffedfccmaaDoorXClockDatesx6
namespace Go.Proofs.YtdaofffedfccmaaDoor.XClockDates
open Go.RowKit Go.Proofs.YtdaofffedfccmaaDoorW.PrintWords Go.Proofs.YtdaofffedfccmaaDoorW.PrintLast Go.Proofs.YtdaofffedfccmaaDoorW.PrintMore
attribute [local go_sem] max2_int min2_int max_two min_two max_three min_three max_four min_four   -- for this text's walks alone
set_option linter.unusedVariables false
set_option linter.unusedSimpArgs false

attribute [local go_sem high] eqA38
/-! ### montagelaw41_ClockTimes: function 9 -/
def montagelaw41_ClockTimes.j0 : Nat → Int → Bool → Bool → Int → Int → Int → Int → Int → Int → Option (Bool)
  | 0, _, _, _, _, _, _, _, _, _ => none
  | k + 1, x0, x6, x38, x199000, x199001, x199002, x199003, x199004, x199005 => if x38 = true then (some false) else (if x6 = true then ((clock_Put.f k x199000 x199001 x199002 x199003 x199004 x199005).bind fun bt207 => ((clock_Seconds.f k x199000 x199001 x199002 x199003 x199004 x199005).bind fun bt209 => ((clock_At.f k bt209.1).bind fun bt211 => ((clock_At.f k (wrap64 (bt209.1 + 1))).bind fun bt219 => ((clock_Text.f k x199000 x199001 x199002 x199003 x199004 x199005).bind fun bt227 => ((clock_Parse.f k bt227.1).bind fun bt229 => (if bt207.1 = x0 then (if bt207.2 = 0 then ((montageref41_Seconds.f k x199000 x199001 x199002 x199003 x199004 x199005).bind fun t237 => (if bt209.1 = t237 then (if bt209.2 = 0 then (if (bt211.1 == x199000 && (bt211.2.1 == x199001 && (bt211.2.2.1 == x199002 && (bt211.2.2.2.1 == x199003 && (bt211.2.2.2.2.1 == x199004 && (bt211.2.2.2.2.2.1 == x199005)))))) = true then (if bt211.2.2.2.2.2.2 = 0 then (if (bt219.1 == x199000 && (bt219.2.1 == x199001 && (bt219.2.2.1 == x199002 && (bt219.2.2.2.1 == x199003 && (bt219.2.2.2.2.1 == x199004 && (bt219.2.2.2.2.2.1 == x199005)))))) = true then (if bt219.2.2.2.2.2.2 = 0 then ((montageref41_Text.f k x199000 x199001 x199002 x199003 x199004 x199005).bind fun t238 => (if bt227.1.toList = t238.toList then (if bt227.2 = 0 then (if (bt229.1 == x199000 && (bt229.2.1 == x199001 && (bt229.2.2.1 == x199002 && (bt229.2.2.2.1 == x199003 && (bt229.2.2.2.2.1 == x199004 && (bt229.2.2.2.2.2.1 == x199005)))))) = true then (some (bt229.2.2.2.2.2.2 == 0)) else (some false)) else (some false)) else (some false))) else (some false)) else (some false)) else (some false)) else (some false)) else (some false)) else (some false))) else (some false)) else (some false)))))))) else (some true))
def montagelaw41_ClockTimes.f (k : Nat) (a0 : Int) : Option (Bool) := (montagelaw41_awake.f k).bind fun t190 => (if t190 = true then ((clock_Of.f k a0).bind fun bt191 => ((montageref41_Of.f k a0).bind fun bt199 => (if (!(bt191.1 == bt199.1) || (!(bt191.2.1 == bt199.2.1) || (!(bt191.2.2.1 == bt199.2.2.1) || (!(bt191.2.2.2.1 == bt199.2.2.2.1) || (!(bt191.2.2.2.2.1 == bt199.2.2.2.2.1) || (!(bt191.2.2.2.2.2.1 == bt199.2.2.2.2.2.1))))))) = true then (montagelaw41_ClockTimes.j0 k a0 bt199.2.2.2.2.2.2 true bt191.1 bt191.2.1 bt191.2.2.1 bt191.2.2.2.1 bt191.2.2.2.2.1 bt191.2.2.2.2.2.1) else (montagelaw41_ClockTimes.j0 k a0 bt199.2.2.2.2.2.2 (bt191.2.2.2.2.2.2 != bt199.2.2.2.2.2.2) bt191.1 bt191.2.1 bt191.2.2.1 bt191.2.2.2.1 bt191.2.2.2.2.1 bt191.2.2.2.2.2.1)))) else (some false))
theorem montagelaw41_ClockTimes.mono_l : ∀ k, (∀ y0 y1 y2 y3 y4 y5 y6 y7 y8, LeO (montagelaw41_ClockTimes.j0 k y0 y1 y2 y3 y4 y5 y6 y7 y8) (montagelaw41_ClockTimes.j0 (k + 1) y0 y1 y2 y3 y4 y5 y6 y7 y8))
  | 0 => fun _ _ _ _ _ _ _ _ _ r h => by simp [montagelaw41_ClockTimes.j0] at h
  | k + 1 => by
    have ih0 := montagelaw41_ClockTimes.mono_l k
    · intro y0 y1 y2 y3 y4 y5 y6 y7 y8
      unfold montagelaw41_ClockTimes.j0
      repeat' first
      | (with_reducible exact ih0 _ _ _ _ _ _ _ _ _)
      | (with_reducible exact clock_At.mono _ _)
      | (with_reducible exact clock_Of.mono _ _)
      | (with_reducible exact clock_Parse.mono _ _)
      | (with_reducible exact clock_Put.mono _ _ _ _ _ _ _)
      | (with_reducible exact clock_Seconds.mono _ _ _ _ _ _ _)
      | (with_reducible exact clock_Text.mono _ _ _ _ _ _ _)
      | (with_reducible exact montagelaw41_awake.mono _)
      | (with_reducible exact montageref41_Of.mono _ _)
      | (with_reducible exact montageref41_Seconds.mono _ _ _ _ _ _ _)
      | (with_reducible exact montageref41_Text.mono _ _ _ _ _ _ _)
      | (with_reducible exact LeO.refl _)
      | (with_reducible exact LeO.none _)
      | (with_reducible refine LeO.ite ?_ ?_)
      | (with_reducible refine LeO.bind ?_ (fun _ => ?_))
      | exact ih0 _ _ _ _ _ _ _ _ _
      | exact clock_At.mono _ _
      | exact clock_Of.mono _ _
      | exact clock_Parse.mono _ _
      | exact clock_Put.mono _ _ _ _ _ _ _
      | exact clock_Seconds.mono _ _ _ _ _ _ _
      | exact clock_Text.mono _ _ _ _ _ _ _
      | exact montagelaw41_awake.mono _
      | exact montageref41_Of.mono _ _
      | exact montageref41_Seconds.mono _ _ _ _ _ _ _
      | exact montageref41_Text.mono _ _ _ _ _ _ _
      | exact LeO.none _
      | refine LeO.ite ?_ ?_
      | refine LeO.bind ?_ (fun _ => ?_)
theorem montagelaw41_ClockTimes.mono : ∀ a0 k, LeO (montagelaw41_ClockTimes.f k a0) (montagelaw41_ClockTimes.f (k + 1) a0) := by
  intro a0 k
  have ih0 := montagelaw41_ClockTimes.mono_l k
  unfold montagelaw41_ClockTimes.f
  repeat' first
      | (with_reducible exact ih0 _ _ _ _ _ _ _ _ _)
      | (with_reducible exact clock_At.mono _ _)
      | (with_reducible exact clock_Of.mono _ _)
      | (with_reducible exact clock_Parse.mono _ _)
      | (with_reducible exact clock_Put.mono _ _ _ _ _ _ _)
      | (with_reducible exact clock_Seconds.mono _ _ _ _ _ _ _)
      | (with_reducible exact clock_Text.mono _ _ _ _ _ _ _)
      | (with_reducible exact montagelaw41_awake.mono _)
      | (with_reducible exact montageref41_Of.mono _ _)
      | (with_reducible exact montageref41_Seconds.mono _ _ _ _ _ _ _)
      | (with_reducible exact montageref41_Text.mono _ _ _ _ _ _ _)
      | (with_reducible exact LeO.refl _)
      | (with_reducible exact LeO.none _)
      | (with_reducible refine LeO.ite ?_ ?_)
      | (with_reducible refine LeO.bind ?_ (fun _ => ?_))
      | exact ih0 _ _ _ _ _ _ _ _ _
      | exact clock_At.mono _ _
      | exact clock_Of.mono _ _
      | exact clock_Parse.mono _ _
      | exact clock_Put.mono _ _ _ _ _ _ _
      | exact clock_Seconds.mono _ _ _ _ _ _ _
      | exact clock_Text.mono _ _ _ _ _ _ _
      | exact montagelaw41_awake.mono _
      | exact montageref41_Of.mono _ _
      | exact montageref41_Seconds.mono _ _ _ _ _ _ _
      | exact montageref41_Text.mono _ _ _ _ _ _ _
      | exact LeO.none _
      | refine LeO.ite ?_ ?_
      | refine LeO.bind ?_ (fun _ => ?_)
set_option maxHeartbeats 8000000 in
set_option maxRecDepth 100000 in
theorem montagelaw41_ClockTimes.calls (k : Nat) (a0 : Int) (r : Bool) (w : World) (h : montagelaw41_ClockTimes.f k a0 = some r) (hr_ : Aside0 (r = true)) (hL : XGlob.Laid w) :
    Calls Tryd.prog 9 #[.int .i64 a0] w fun e w' => e = .returned (.bool r) ∧ Below w.heap.size w w' := by
  have HL := Aside0.mk hL
  clear hL
  have hu38 := Tryd.underlying38
  have HB := Aside0.mk (Below.refl w.heap.size w)
  have H : ((montagelaw41_awake.f k).bind fun t190 => (if t190 = true then ((clock_Of.f k a0).bind fun bt191 => ((montageref41_Of.f k a0).bind fun bt199 => (if (!(bt191.1 == bt199.1) || (!(bt191.2.1 == bt199.2.1) || (!(bt191.2.2.1 == bt199.2.2.1) || (!(bt191.2.2.2.1 == bt199.2.2.2.1) || (!(bt191.2.2.2.2.1 == bt199.2.2.2.2.1) || (!(bt191.2.2.2.2.2.1 == bt199.2.2.2.2.2.1))))))) = true then (montagelaw41_ClockTimes.j0 k a0 bt199.2.2.2.2.2.2 true bt191.1 bt191.2.1 bt191.2.2.1 bt191.2.2.2.1 bt191.2.2.2.2.1 bt191.2.2.2.2.2.1) else (montagelaw41_ClockTimes.j0 k a0 bt199.2.2.2.2.2.2 (bt191.2.2.2.2.2.2 != bt199.2.2.2.2.2.2) bt191.1 bt191.2.1 bt191.2.2.1 bt191.2.2.2.1 bt191.2.2.2.2.1 bt191.2.2.2.2.2.1)))) else (some false))) = some r := h
  clear h
  replace H := Option.bind_eq_some_iff.mp H
  obtain ⟨t190, A20, H⟩ := H
  replace H : (if t190 = true then ((clock_Of.f k a0).bind fun bt191 => ((montageref41_Of.f k a0).bind fun bt199 => (if (!(bt191.1 == bt199.1) || (!(bt191.2.1 == bt199.2.1) || (!(bt191.2.2.1 == bt199.2.2.1) || (!(bt191.2.2.2.1 == bt199.2.2.2.1) || (!(bt191.2.2.2.2.1 == bt199.2.2.2.2.1) || (!(bt191.2.2.2.2.2.1 == bt199.2.2.2.2.2.1))))))) = true then (montagelaw41_ClockTimes.j0 k a0 bt199.2.2.2.2.2.2 true bt191.1 bt191.2.1 bt191.2.2.1 bt191.2.2.2.1 bt191.2.2.2.2.1 bt191.2.2.2.2.2.1) else (montagelaw41_ClockTimes.j0 k a0 bt199.2.2.2.2.2.2 (bt191.2.2.2.2.2.2 != bt199.2.2.2.2.2.2) bt191.1 bt191.2.1 bt191.2.2.1 bt191.2.2.2.1 bt191.2.2.2.2.1 bt191.2.2.2.2.2.1)))) else (some false)) = some r := H
  have A2 := Aside0.mk A20
  clear A20
  by_cases c3 : t190 = true
  · subst c3
    have H1 : ((clock_Of.f k a0).bind fun bt191 => ((montageref41_Of.f k a0).bind fun bt199 => (if (!(bt191.1 == bt199.1) || (!(bt191.2.1 == bt199.2.1) || (!(bt191.2.2.1 == bt199.2.2.1) || (!(bt191.2.2.2.1 == bt199.2.2.2.1) || (!(bt191.2.2.2.2.1 == bt199.2.2.2.2.1) || (!(bt191.2.2.2.2.2.1 == bt199.2.2.2.2.2.1))))))) = true then (montagelaw41_ClockTimes.j0 k a0 bt199.2.2.2.2.2.2 true bt191.1 bt191.2.1 bt191.2.2.1 bt191.2.2.2.1 bt191.2.2.2.2.1 bt191.2.2.2.2.2.1) else (montagelaw41_ClockTimes.j0 k a0 bt199.2.2.2.2.2.2 (bt191.2.2.2.2.2.2 != bt199.2.2.2.2.2.2) bt191.1 bt191.2.1 bt191.2.2.1 bt191.2.2.2.1 bt191.2.2.2.2.1 bt191.2.2.2.2.2.1)))) = some r := by rw [if_pos rfl] at H; exact H
    clear H
    have H := H1
    clear H1
    replace H := Option.bind_eq_some_iff.mp H
    obtain ⟨⟨t191, t192, t193, t194, t195, t196, t197⟩, A40, H⟩ := H
    replace H : ((montageref41_Of.f k a0).bind fun bt199 => (if (!(t191 == bt199.1) || (!(t192 == bt199.2.1) || (!(t193 == bt199.2.2.1) || (!(t194 == bt199.2.2.2.1) || (!(t195 == bt199.2.2.2.2.1) || (!(t196 == bt199.2.2.2.2.2.1))))))) = true then (montagelaw41_ClockTimes.j0 k a0 bt199.2.2.2.2.2.2 true t191 t192 t193 t194 t195 t196) else (montagelaw41_ClockTimes.j0 k a0 bt199.2.2.2.2.2.2 (t197 != bt199.2.2.2.2.2.2) t191 t192 t193 t194 t195 t196))) = some r := H
    have A4 := Aside0.mk A40
    clear A40
    replace H := Option.bind_eq_some_iff.mp H
    obtain ⟨⟨t199, t200, t201, t202, t203, t204, t205⟩, A50, H⟩ := H
    replace H : (if (!(t191 == t199) || (!(t192 == t200) || (!(t193 == t201) || (!(t194 == t202) || (!(t195 == t203) || (!(t196 == t204))))))) = true then (montagelaw41_ClockTimes.j0 k a0 t205 true t191 t192 t193 t194 t195 t196) else (montagelaw41_ClockTimes.j0 k a0 t205 (t197 != t205) t191 t192 t193 t194 t195 t196)) = some r := H
    have A5 := Aside0.mk A50
    clear A50
    have HC6 := Aside0.mk H
    clear H
    go_enter Tryd.func9, Tryd.ntmps9
    go_upto_region 5 with (first | ((with_reducible refine gate_callee (f := 30) rfl ?_); refine goesL_ (some 19) rfl rfl Tryd.func30 (by kernel_rfl) rfl #[] rfl (by (try simp only [List.map_toArray, List.map_cons, List.map_nil]); first | done | rfl | (simp only [List.length_drop, List.length_take]; rfl)) ?_; (with_reducible refine (montagelaw41_awake.calls k  true _ A2.out ⟨rfl⟩ (XGlob.Laid.below HL.out (by repeat (first | (with_reducible first | exact HB.out | apply below_alloc | apply pw_below_drewN | apply below_drew1 | refine below_set ?_ (Aside0.out (by assumption))) | exact HB.out)))).mono ?_); rintro e w7 ⟨rfl, hb⟩; refine ⟨_, rfl, ?_⟩; have n0_ := Aside0.mk (below_step (by repeat (first | (with_reducible first | exact HB.out | apply below_alloc | apply pw_below_drewN | apply below_drew1) | exact HB.out)) hb); clear HB; have HB := n0_; clear n0_; (try clear hb); (try clear hb2); (try clear hk); (try clear hi)) | ((with_reducible refine gate_callee (f := 38) rfl ?_); refine goesL_ (some 23) rfl rfl Tryd.func38 (by kernel_rfl) rfl #[.int .i64 a0] rfl (by (try simp only [List.map_toArray, List.map_cons, List.map_nil]); first | done | rfl | (simp only [List.length_drop, List.length_take]; rfl)) ?_; (with_reducible refine (clock_Of.calls k a0 t191 t192 t193 t194 t195 t196 t197 _ A4.out).mono ?_); rintro e w8 ⟨rfl, hb⟩; refine ⟨_, rfl, ?_⟩; have n0_ := Aside0.mk (below_step (by repeat (first | (with_reducible first | exact HB.out | apply below_alloc | apply pw_below_drewN | apply below_drew1) | exact HB.out)) hb); clear HB; have HB := n0_; clear n0_; (try clear hb); (try clear hb2); (try clear hk); (try clear hi)) | ((with_reducible refine gate_dst (N := 3) rfl ?_); refine box_event ?hg (N := 3) ?hd (cs := #[.int .i64 0, .int .i64 0, .int .i64 0, .int .i64 0, .int .i64 0, .int .i64 0]) (t := 38) ?hr ?_; (case hd => rfl); (case hg => rfl); (case hr => first | (go_simp; done) | (go_simp; rfl)); intro gb198 hg w9 hbox hb; have n0_ := Aside0.mk (below_step (by repeat (first | (with_reducible first | exact HB.out | apply below_alloc | apply pw_below_drewN | apply below_drew1) | exact HB.out)) hb); have n1_ := Aside0.mk (hbox); have n2_ := Aside0.mk ((by rw [hg]; exact (below_size (by repeat (first | (with_reducible first | exact HB.out | apply below_alloc | apply pw_below_drewN | apply below_drew1) | exact HB.out))) : w.heap.size ≤ gb198)); have n3_ := Aside0.mk ((by rw [hg]; exact (below_size (by repeat (first | (with_reducible first | exact HB.out | apply below_alloc | apply pw_below_drewN | apply below_drew1) | exact HB.out))) : w.heap.size ≤ gb198)); clear HB; have HB := n0_; have BK198 := n1_; have GW198 := n2_; have GE198 := n3_; clear n0_ n1_ n2_ n3_; clear hb hbox hg; have hcz10_0 : w9.cell? ⟨gb198, 0, none⟩ = some (.int .i64 0) := (blk_cell BK198.out 0).trans rfl; have hcz10_1 : w9.cell? ⟨gb198, 1, none⟩ = some (.int .i64 0) := (blk_cell BK198.out 1).trans rfl; have hcz10_2 : w9.cell? ⟨gb198, 2, none⟩ = some (.int .i64 0) := (blk_cell BK198.out 2).trans rfl; have hcz10_3 : w9.cell? ⟨gb198, 3, none⟩ = some (.int .i64 0) := (blk_cell BK198.out 3).trans rfl; have hcz10_4 : w9.cell? ⟨gb198, 4, none⟩ = some (.int .i64 0) := (blk_cell BK198.out 4).trans rfl; have hcz10_5 : w9.cell? ⟨gb198, 5, none⟩ = some (.int .i64 0) := (blk_cell BK198.out 5).trans rfl; have hfz10_0 := blk_frozen BK198.out 0; have hfz10_1 := blk_frozen BK198.out 1; have hfz10_2 := blk_frozen BK198.out 2; have hfz10_3 := blk_frozen BK198.out 3; have hfz10_4 := blk_frozen BK198.out 4; have hfz10_5 := blk_frozen BK198.out 5) | ((with_reducible refine gate_callee (f := 39) rfl ?_); refine goesL_ (some 28) rfl rfl Tryd.func39 (by kernel_rfl) rfl #[.int .i64 a0] rfl (by (try simp only [List.map_toArray, List.map_cons, List.map_nil]); first | done | rfl | (simp only [List.length_drop, List.length_take]; rfl)) ?_; (with_reducible refine (montageref41_Of.calls k a0 t199 t200 t201 t202 t203 t204 t205 _ A5.out).mono ?_); rintro e w11 ⟨rfl, hb⟩; refine ⟨_, rfl, ?_⟩; have n0_ := Aside0.mk (blk_below (g := gb198) (o := .cells #[.int .i64 t191, .int .i64 t192, .int .i64 t193, .int .i64 t194, .int .i64 t195, .int .i64 t196] 38 (0, 0)) (by (with_reducible repeat (first | refine blk_drewN ?_ _ | refine blk_drew ?_ | refine blk_alloc ?_ _)); refine blk_put (cs := #[.int .i64 t191, .int .i64 t192, .int .i64 t193, .int .i64 t194, .int .i64 t195, .int .i64 0]) ?_ 5 _ rfl; (with_reducible repeat (first | refine blk_drewN ?_ _ | refine blk_drew ?_ | refine blk_alloc ?_ _)); refine blk_put (cs := #[.int .i64 t191, .int .i64 t192, .int .i64 t193, .int .i64 t194, .int .i64 0, .int .i64 0]) ?_ 4 _ rfl; (with_reducible repeat (first | refine blk_drewN ?_ _ | refine blk_drew ?_ | refine blk_alloc ?_ _)); refine blk_put (cs := #[.int .i64 t191, .int .i64 t192, .int .i64 t193, .int .i64 0, .int .i64 0, .int .i64 0]) ?_ 3 _ rfl; (with_reducible repeat (first | refine blk_drewN ?_ _ | refine blk_drew ?_ | refine blk_alloc ?_ _)); refine blk_put (cs := #[.int .i64 t191, .int .i64 t192, .int .i64 0, .int .i64 0, .int .i64 0, .int .i64 0]) ?_ 2 _ rfl; (with_reducible repeat (first | refine blk_drewN ?_ _ | refine blk_drew ?_ | refine blk_alloc ?_ _)); refine blk_put (cs := #[.int .i64 t191, .int .i64 0, .int .i64 0, .int .i64 0, .int .i64 0, .int .i64 0]) ?_ 1 _ rfl; (with_reducible repeat (first | refine blk_drewN ?_ _ | refine blk_drew ?_ | refine blk_alloc ?_ _)); refine blk_put (cs := #[.int .i64 0, .int .i64 0, .int .i64 0, .int .i64 0, .int .i64 0, .int .i64 0]) ?_ 0 _ rfl; (with_reducible repeat (first | refine blk_drewN ?_ _ | refine blk_drew ?_ | refine blk_alloc ?_ _)); exact BK198.out) hb); have n1_ := Aside0.mk (below_step (by repeat (first | (with_reducible first | exact HB.out | apply below_alloc | apply pw_below_drewN | apply below_drew1 | refine below_set ?_ GE198.out) | exact HB.out)) hb); clear BK198; clear HB; have BK198 := n0_; have HB := n1_; clear n0_ n1_; (try clear hb); (try clear hb2); (try clear hk); (try clear hi)) | ((with_reducible refine gate_dst (N := 5) rfl ?_); refine box_event ?hg (N := 5) ?hd (cs := #[.int .i64 0, .int .i64 0, .int .i64 0, .int .i64 0, .int .i64 0, .int .i64 0]) (t := 38) ?hr ?_; (case hd => rfl); (case hg => rfl); (case hr => first | (go_simp; done) | (go_simp; rfl)); intro gb206 hg w12 hbox hb; have n0_ := Aside0.mk (blk_below (g := gb198) (o := .cells #[.int .i64 t191, .int .i64 t192, .int .i64 t193, .int .i64 t194, .int .i64 t195, .int .i64 t196] 38 (0, 0)) (by (with_reducible repeat (first | refine blk_drewN ?_ _ | refine blk_drew ?_ | refine blk_alloc ?_ _)); exact BK198.out) hb); have n1_ := Aside0.mk (below_step (by repeat (first | (with_reducible first | exact HB.out | apply below_alloc | apply pw_below_drewN | apply below_drew1 | refine below_set ?_ GE198.out) | exact HB.out)) hb); have n2_ := Aside0.mk (hbox); have n3_ := Aside0.mk ((by rw [hg]; exact (below_size (by repeat (first | (with_reducible first | exact HB.out | apply below_alloc | apply pw_below_drewN | apply below_drew1 | refine below_set ?_ GE198.out) | exact HB.out))) : w.heap.size ≤ gb206)); have n4_ := Aside0.mk ((by rw [hg]; exact (below_size (by repeat (first | (with_reducible first | exact HB.out | apply below_alloc | apply pw_below_drewN | apply below_drew1 | refine below_set ?_ GE198.out) | exact HB.out))) : w.heap.size ≤ gb206)); have n5_ := Aside0.mk ((by rw [hg]; exact Nat.ne_of_lt (blk_lt (g := gb198) (o := .cells #[.int .i64 t191, .int .i64 t192, .int .i64 t193, .int .i64 t194, .int .i64 t195, .int .i64 t196] 38 (0, 0)) (by (with_reducible repeat (first | refine blk_drewN ?_ _ | refine blk_drew ?_ | refine blk_alloc ?_ _)); exact BK198.out)) : gb198 ≠ gb206)); have n6_ := Aside0.mk ((by rw [hg]; exact Nat.ne_of_gt (blk_lt (g := gb198) (o := .cells #[.int .i64 t191, .int .i64 t192, .int .i64 t193, .int .i64 t194, .int .i64 t195, .int .i64 t196] 38 (0, 0)) (by (with_reducible repeat (first | refine blk_drewN ?_ _ | refine blk_drew ?_ | refine blk_alloc ?_ _)); exact BK198.out)) : gb206 ≠ gb198)); clear BK198; clear HB; have BK198 := n0_; have HB := n1_; have BK206 := n2_; have GW206 := n3_; have GE206 := n4_; have NB198_206 := n5_; have NB206_198 := n6_; clear n0_ n1_ n2_ n3_ n4_ n5_ n6_; clear hb hbox hg; have hnb13 := NB206_198.out; have hnc13 := NB198_206.out; have hcz14_0 : w12.cell? ⟨gb206, 0, none⟩ = some (.int .i64 0) := (blk_cell BK206.out 0).trans rfl; have hcz14_1 : w12.cell? ⟨gb206, 1, none⟩ = some (.int .i64 0) := (blk_cell BK206.out 1).trans rfl; have hcz14_2 : w12.cell? ⟨gb206, 2, none⟩ = some (.int .i64 0) := (blk_cell BK206.out 2).trans rfl; have hcz14_3 : w12.cell? ⟨gb206, 3, none⟩ = some (.int .i64 0) := (blk_cell BK206.out 3).trans rfl; have hcz14_4 : w12.cell? ⟨gb206, 4, none⟩ = some (.int .i64 0) := (blk_cell BK206.out 4).trans rfl; have hcz14_5 : w12.cell? ⟨gb206, 5, none⟩ = some (.int .i64 0) := (blk_cell BK206.out 5).trans rfl; have hfz14_0 := blk_frozen BK206.out 0; have hfz14_1 := blk_frozen BK206.out 1; have hfz14_2 := blk_frozen BK206.out 2; have hfz14_3 := blk_frozen BK206.out 3; have hfz14_4 := blk_frozen BK206.out 4; have hfz14_5 := blk_frozen BK206.out 5))
    (try simp only [Act.put, List.setIfInBounds_toArray, List.set_cons_zero, List.set_cons_succ])
    go_cut [38] (fun v38 wc => ∃ (kq : Nat) (x38_5 : Bool), v38 = .bool x38_5 ∧ Aside0 (montagelaw41_ClockTimes.j0 kq a0 t205 x38_5 t191 t192 t193 t194 t195 t196 = some r) ∧ Aside0 (kq ≤ k) ∧ Aside0 (wc.heap[gb198]? = some (.cells #[.int .i64 t191, .int .i64 t192, .int .i64 t193, .int .i64 t194, .int .i64 t195, .int .i64 t196] 38 (0, 0))) ∧ Aside0 (wc.heap[gb206]? = some (.cells #[.int .i64 t199, .int .i64 t200, .int .i64 t201, .int .i64 t202, .int .i64 t203, .int .i64 t204] 38 (0, 0))) ∧ Aside0 (Below w.heap.size w wc))
    case first =>
      have H := HC6.out
      clear HC6
      by_cases c15 : (!(t191 == t199) || (!(t192 == t200) || (!(t193 == t201) || (!(t194 == t202) || (!(t195 == t203) || (!(t196 == t204))))))) = true
      · rw [if_pos c15] at H
        have c15b0 : (!(t191 == t199) || (!(t192 == t200) || (!(t193 == t201) || (!(t194 == t202) || (!(t195 == t203) || (!(t196 == t204))))))) = true := c15
        clear c15
        (first | rw [c15b0] | (simp only [i64_w, i32_w]; rw [c15b0]) | skip)
        have H' := Aside0.mk H
        clear H
        have hnb16 := NB198_206.out
        have hnc16 := NB206_198.out
        have hcz17_0 : w12.cell? ⟨gb198, 0, none⟩ = some (.int .i64 t191) := (blk_cell BK198.out 0).trans rfl
        have hcz17_1 : w12.cell? ⟨gb198, 1, none⟩ = some (.int .i64 t192) := (blk_cell BK198.out 1).trans rfl
        have hcz17_2 : w12.cell? ⟨gb198, 2, none⟩ = some (.int .i64 t193) := (blk_cell BK198.out 2).trans rfl
        have hcz17_3 : w12.cell? ⟨gb198, 3, none⟩ = some (.int .i64 t194) := (blk_cell BK198.out 3).trans rfl
        have hcz17_4 : w12.cell? ⟨gb198, 4, none⟩ = some (.int .i64 t195) := (blk_cell BK198.out 4).trans rfl
        have hcz17_5 : w12.cell? ⟨gb198, 5, none⟩ = some (.int .i64 t196) := (blk_cell BK198.out 5).trans rfl
        have hfz17_0 := blk_frozen BK198.out 0
        have hfz17_1 := blk_frozen BK198.out 1
        have hfz17_2 := blk_frozen BK198.out 2
        have hfz17_3 := blk_frozen BK198.out 3
        have hfz17_4 := blk_frozen BK198.out 4
        have hfz17_5 := blk_frozen BK198.out 5
        have hcz18_0 : w12.cell? ⟨gb206, 0, none⟩ = some (.int .i64 0) := (blk_cell BK206.out 0).trans rfl
        have hcz18_1 : w12.cell? ⟨gb206, 1, none⟩ = some (.int .i64 0) := (blk_cell BK206.out 1).trans rfl
        have hcz18_2 : w12.cell? ⟨gb206, 2, none⟩ = some (.int .i64 0) := (blk_cell BK206.out 2).trans rfl
        have hcz18_3 : w12.cell? ⟨gb206, 3, none⟩ = some (.int .i64 0) := (blk_cell BK206.out 3).trans rfl
        have hcz18_4 : w12.cell? ⟨gb206, 4, none⟩ = some (.int .i64 0) := (blk_cell BK206.out 4).trans rfl
        have hcz18_5 : w12.cell? ⟨gb206, 5, none⟩ = some (.int .i64 0) := (blk_cell BK206.out 5).trans rfl
        have hfz18_0 := blk_frozen BK206.out 0
        have hfz18_1 := blk_frozen BK206.out 1
        have hfz18_2 := blk_frozen BK206.out 2
        have hfz18_3 := blk_frozen BK206.out 3
        have hfz18_4 := blk_frozen BK206.out 4
        have hfz18_5 := blk_frozen BK206.out 5
        go_wp2
        go_meet
        case rel => exact ⟨_, (true), (by first | rfl | (simp; done) | (simp [*]; done)), H', ⟨by first | omega | exact Nat.le_refl _⟩, ⟨by (with_reducible repeat (first | refine blk_drewN ?_ _ | refine blk_drew ?_ | refine blk_alloc ?_ _)); refine blk_far ?_ NB198_206.out _; (with_reducible repeat (first | refine blk_drewN ?_ _ | refine blk_drew ?_ | refine blk_alloc ?_ _)); refine blk_far ?_ NB198_206.out _; (with_reducible repeat (first | refine blk_drewN ?_ _ | refine blk_drew ?_ | refine blk_alloc ?_ _)); refine blk_far ?_ NB198_206.out _; (with_reducible repeat (first | refine blk_drewN ?_ _ | refine blk_drew ?_ | refine blk_alloc ?_ _)); refine blk_far ?_ NB198_206.out _; (with_reducible repeat (first | refine blk_drewN ?_ _ | refine blk_drew ?_ | refine blk_alloc ?_ _)); refine blk_far ?_ NB198_206.out _; (with_reducible repeat (first | refine blk_drewN ?_ _ | refine blk_drew ?_ | refine blk_alloc ?_ _)); refine blk_far ?_ NB198_206.out _; (with_reducible repeat (first | refine blk_drewN ?_ _ | refine blk_drew ?_ | refine blk_alloc ?_ _)); exact BK198.out⟩, ⟨by (with_reducible repeat (first | refine blk_drewN ?_ _ | refine blk_drew ?_ | refine blk_alloc ?_ _)); refine blk_put (cs := #[.int .i64 t199, .int .i64 t200, .int .i64 t201, .int .i64 t202, .int .i64 t203, .int .i64 0]) ?_ 5 _ rfl; (with_reducible repeat (first | refine blk_drewN ?_ _ | refine blk_drew ?_ | refine blk_alloc ?_ _)); refine blk_put (cs := #[.int .i64 t199, .int .i64 t200, .int .i64 t201, .int .i64 t202, .int .i64 0, .int .i64 0]) ?_ 4 _ rfl; (with_reducible repeat (first | refine blk_drewN ?_ _ | refine blk_drew ?_ | refine blk_alloc ?_ _)); refine blk_put (cs := #[.int .i64 t199, .int .i64 t200, .int .i64 t201, .int .i64 0, .int .i64 0, .int .i64 0]) ?_ 3 _ rfl; (with_reducible repeat (first | refine blk_drewN ?_ _ | refine blk_drew ?_ | refine blk_alloc ?_ _)); refine blk_put (cs := #[.int .i64 t199, .int .i64 t200, .int .i64 0, .int .i64 0, .int .i64 0, .int .i64 0]) ?_ 2 _ rfl; (with_reducible repeat (first | refine blk_drewN ?_ _ | refine blk_drew ?_ | refine blk_alloc ?_ _)); refine blk_put (cs := #[.int .i64 t199, .int .i64 0, .int .i64 0, .int .i64 0, .int .i64 0, .int .i64 0]) ?_ 1 _ rfl; (with_reducible repeat (first | refine blk_drewN ?_ _ | refine blk_drew ?_ | refine blk_alloc ?_ _)); refine blk_put (cs := #[.int .i64 0, .int .i64 0, .int .i64 0, .int .i64 0, .int .i64 0, .int .i64 0]) ?_ 0 _ rfl; (with_reducible repeat (first | refine blk_drewN ?_ _ | refine blk_drew ?_ | refine blk_alloc ?_ _)); exact BK206.out⟩, ⟨by repeat (first | (with_reducible first | exact HB.out | apply below_alloc | apply pw_below_drewN | apply below_drew1 | refine below_set ?_ GE198.out | refine below_set ?_ GE206.out) | exact HB.out)⟩⟩
      · rw [if_neg c15] at H
        have c15b0 : (!(t191 == t199) || (!(t192 == t200) || (!(t193 == t201) || (!(t194 == t202) || (!(t195 == t203) || (!(t196 == t204))))))) = false := by simpa using c15
        clear c15
        (first | rw [c15b0] | (simp only [i64_w, i32_w]; rw [c15b0]) | skip)
        have H' := Aside0.mk H
        clear H
        have hnb19 := NB198_206.out
        have hnc19 := NB206_198.out
        have hcz20_0 : w12.cell? ⟨gb198, 0, none⟩ = some (.int .i64 t191) := (blk_cell BK198.out 0).trans rfl
        have hcz20_1 : w12.cell? ⟨gb198, 1, none⟩ = some (.int .i64 t192) := (blk_cell BK198.out 1).trans rfl
        have hcz20_2 : w12.cell? ⟨gb198, 2, none⟩ = some (.int .i64 t193) := (blk_cell BK198.out 2).trans rfl
        have hcz20_3 : w12.cell? ⟨gb198, 3, none⟩ = some (.int .i64 t194) := (blk_cell BK198.out 3).trans rfl
        have hcz20_4 : w12.cell? ⟨gb198, 4, none⟩ = some (.int .i64 t195) := (blk_cell BK198.out 4).trans rfl
        have hcz20_5 : w12.cell? ⟨gb198, 5, none⟩ = some (.int .i64 t196) := (blk_cell BK198.out 5).trans rfl
        have hfz20_0 := blk_frozen BK198.out 0
        have hfz20_1 := blk_frozen BK198.out 1
        have hfz20_2 := blk_frozen BK198.out 2
        have hfz20_3 := blk_frozen BK198.out 3
        have hfz20_4 := blk_frozen BK198.out 4
        have hfz20_5 := blk_frozen BK198.out 5
        have hcz21_0 : w12.cell? ⟨gb206, 0, none⟩ = some (.int .i64 0) := (blk_cell BK206.out 0).trans rfl
        have hcz21_1 : w12.cell? ⟨gb206, 1, none⟩ = some (.int .i64 0) := (blk_cell BK206.out 1).trans rfl
        have hcz21_2 : w12.cell? ⟨gb206, 2, none⟩ = some (.int .i64 0) := (blk_cell BK206.out 2).trans rfl
        have hcz21_3 : w12.cell? ⟨gb206, 3, none⟩ = some (.int .i64 0) := (blk_cell BK206.out 3).trans rfl
        have hcz21_4 : w12.cell? ⟨gb206, 4, none⟩ = some (.int .i64 0) := (blk_cell BK206.out 4).trans rfl
        have hcz21_5 : w12.cell? ⟨gb206, 5, none⟩ = some (.int .i64 0) := (blk_cell BK206.out 5).trans rfl
        have hfz21_0 := blk_frozen BK206.out 0
        have hfz21_1 := blk_frozen BK206.out 1
        have hfz21_2 := blk_frozen BK206.out 2
        have hfz21_3 := blk_frozen BK206.out 3
        have hfz21_4 := blk_frozen BK206.out 4
        have hfz21_5 := blk_frozen BK206.out 5
        go_wp2
        go_meet
        case rel => exact ⟨_, ((t197 != t205)), (by first | rfl | (simp; done) | (simp [*]; done)), H', ⟨by first | omega | exact Nat.le_refl _⟩, ⟨by (with_reducible repeat (first | refine blk_drewN ?_ _ | refine blk_drew ?_ | refine blk_alloc ?_ _)); refine blk_far ?_ NB198_206.out _; (with_reducible repeat (first | refine blk_drewN ?_ _ | refine blk_drew ?_ | refine blk_alloc ?_ _)); refine blk_far ?_ NB198_206.out _; (with_reducible repeat (first | refine blk_drewN ?_ _ | refine blk_drew ?_ | refine blk_alloc ?_ _)); refine blk_far ?_ NB198_206.out _; (with_reducible repeat (first | refine blk_drewN ?_ _ | refine blk_drew ?_ | refine blk_alloc ?_ _)); refine blk_far ?_ NB198_206.out _; (with_reducible repeat (first | refine blk_drewN ?_ _ | refine blk_drew ?_ | refine blk_alloc ?_ _)); refine blk_far ?_ NB198_206.out _; (with_reducible repeat (first | refine blk_drewN ?_ _ | refine blk_drew ?_ | refine blk_alloc ?_ _)); refine blk_far ?_ NB198_206.out _; (with_reducible repeat (first | refine blk_drewN ?_ _ | refine blk_drew ?_ | refine blk_alloc ?_ _)); exact BK198.out⟩, ⟨by (with_reducible repeat (first | refine blk_drewN ?_ _ | refine blk_drew ?_ | refine blk_alloc ?_ _)); refine blk_put (cs := #[.int .i64 t199, .int .i64 t200, .int .i64 t201, .int .i64 t202, .int .i64 t203, .int .i64 0]) ?_ 5 _ rfl; (with_reducible repeat (first | refine blk_drewN ?_ _ | refine blk_drew ?_ | refine blk_alloc ?_ _)); refine blk_put (cs := #[.int .i64 t199, .int .i64 t200, .int .i64 t201, .int .i64 t202, .int .i64 0, .int .i64 0]) ?_ 4 _ rfl; (with_reducible repeat (first | refine blk_drewN ?_ _ | refine blk_drew ?_ | refine blk_alloc ?_ _)); refine blk_put (cs := #[.int .i64 t199, .int .i64 t200, .int .i64 t201, .int .i64 0, .int .i64 0, .int .i64 0]) ?_ 3 _ rfl; (with_reducible repeat (first | refine blk_drewN ?_ _ | refine blk_drew ?_ | refine blk_alloc ?_ _)); refine blk_put (cs := #[.int .i64 t199, .int .i64 t200, .int .i64 0, .int .i64 0, .int .i64 0, .int .i64 0]) ?_ 2 _ rfl; (with_reducible repeat (first | refine blk_drewN ?_ _ | refine blk_drew ?_ | refine blk_alloc ?_ _)); refine blk_put (cs := #[.int .i64 t199, .int .i64 0, .int .i64 0, .int .i64 0, .int .i64 0, .int .i64 0]) ?_ 1 _ rfl; (with_reducible repeat (first | refine blk_drewN ?_ _ | refine blk_drew ?_ | refine blk_alloc ?_ _)); refine blk_put (cs := #[.int .i64 0, .int .i64 0, .int .i64 0, .int .i64 0, .int .i64 0, .int .i64 0]) ?_ 0 _ rfl; (with_reducible repeat (first | refine blk_drewN ?_ _ | refine blk_drew ?_ | refine blk_alloc ?_ _)); exact BK206.out⟩, ⟨by repeat (first | (with_reducible first | exact HB.out | apply below_alloc | apply pw_below_drewN | apply below_drew1 | refine below_set ?_ GE198.out | refine below_set ?_ GE206.out) | exact HB.out)⟩⟩
    case rest =>
      clear HC6
      try clear c1
      try clear p2
      try clear c3
      try clear c9
      try clear c13
      try clear c15
      try clear c15b0
      try clear c16
      try clear c19
      try clear hcz10_0
      try clear hcz10_1
      try clear hcz10_2
      try clear hcz10_3
      try clear hcz10_4
      try clear hcz10_5
      try clear hcz14_0
      try clear hcz14_1
      try clear hcz14_2
      try clear hcz14_3
      try clear hcz14_4
      try clear hcz14_5
      try clear hcz17_0
      try clear hcz17_1
      try clear hcz17_2
      try clear hcz17_3
      try clear hcz17_4
      try clear hcz17_5
      try clear hcz18_0
      try clear hcz18_1
      try clear hcz18_2
      try clear hcz18_3
      try clear hcz18_4
      try clear hcz18_5
      try clear hcz20_0
      try clear hcz20_1
      try clear hcz20_2
      try clear hcz20_3
      try clear hcz20_4
      try clear hcz20_5
      try clear hcz21_0
      try clear hcz21_1
      try clear hcz21_2
      try clear hcz21_3
      try clear hcz21_4
      try clear hcz21_5
      try clear hfz10_0
      try clear hfz10_1
      try clear hfz10_2
      try clear hfz10_3
      try clear hfz10_4
      try clear hfz10_5
      try clear hfz14_0
      try clear hfz14_1
      try clear hfz14_2
      try clear hfz14_3
      try clear hfz14_4
      try clear hfz14_5
      try clear hfz17_0
      try clear hfz17_1
      try clear hfz17_2
      try clear hfz17_3
      try clear hfz17_4
      try clear hfz17_5
      try clear hfz18_0
      try clear hfz18_1
      try clear hfz18_2
      try clear hfz18_3
      try clear hfz18_4
      try clear hfz18_5
      try clear hfz20_0
      try clear hfz20_1
      try clear hfz20_2
      try clear hfz20_3
      try clear hfz20_4
      try clear hfz20_5
      try clear hfz21_0
      try clear hfz21_1
      try clear hfz21_2
      try clear hfz21_3
      try clear hfz21_4
      try clear hfz21_5
      obtain ⟨kq, x38_5, rfl, HA, HJ5, BK198, BK206, HB⟩ := hcut
      cases kq with
      | zero => exact absurd HA.out (by simp [montagelaw41_ClockTimes.j0])
      | succ kj5 =>
        have H := HA.out
        clear HA
        simp only [montagelaw41_ClockTimes.j0] at H
        by_cases c22 : x38_5 = true
        · subst c22
          have H1 : (some false) = some r := by rw [if_pos rfl] at H; exact H
          clear H
          have H := H1
          clear H1
          obtain rfl := Option.some.inj H
          cases hr_.out
        · replace c22 := Bool.eq_false_iff.mpr c22
          subst c22
          have H1 : (if t205 = true then ((clock_Put.f kj5 t191 t192 t193 t194 t195 t196).bind fun bt207 => ((clock_Seconds.f kj5 t191 t192 t193 t194 t195 t196).bind fun bt209 => ((clock_At.f kj5 bt209.1).bind fun bt211 => ((clock_At.f kj5 (wrap64 (bt209.1 + 1))).bind fun bt219 => ((clock_Text.f kj5 t191 t192 t193 t194 t195 t196).bind fun bt227 => ((clock_Parse.f kj5 bt227.1).bind fun bt229 => (if bt207.1 = a0 then (if bt207.2 = 0 then ((montageref41_Seconds.f kj5 t191 t192 t193 t194 t195 t196).bind fun t237 => (if bt209.1 = t237 then (if bt209.2 = 0 then (if (bt211.1 == t191 && (bt211.2.1 == t192 && (bt211.2.2.1 == t193 && (bt211.2.2.2.1 == t194 && (bt211.2.2.2.2.1 == t195 && (bt211.2.2.2.2.2.1 == t196)))))) = true then (if bt211.2.2.2.2.2.2 = 0 then (if (bt219.1 == t191 && (bt219.2.1 == t192 && (bt219.2.2.1 == t193 && (bt219.2.2.2.1 == t194 && (bt219.2.2.2.2.1 == t195 && (bt219.2.2.2.2.2.1 == t196)))))) = true then (if bt219.2.2.2.2.2.2 = 0 then ((montageref41_Text.f kj5 t191 t192 t193 t194 t195 t196).bind fun t238 => (if bt227.1.toList = t238.toList then (if bt227.2 = 0 then (if (bt229.1 == t191 && (bt229.2.1 == t192 && (bt229.2.2.1 == t193 && (bt229.2.2.2.1 == t194 && (bt229.2.2.2.2.1 == t195 && (bt229.2.2.2.2.2.1 == t196)))))) = true then (some (bt229.2.2.2.2.2.2 == 0)) else (some false)) else (some false)) else (some false))) else (some false)) else (some false)) else (some false)) else (some false)) else (some false)) else (some false))) else (some false)) else (some false)))))))) else (some true)) = some r := by rw [if_neg (show ¬ (false = true) by decide)] at H; exact H
          clear H
          have H := H1
          clear H1
          by_cases c23 : t205 = true
          · subst c23
            have H1 : ((clock_Put.f kj5 t191 t192 t193 t194 t195 t196).bind fun bt207 => ((clock_Seconds.f kj5 t191 t192 t193 t194 t195 t196).bind fun bt209 => ((clock_At.f kj5 bt209.1).bind fun bt211 => ((clock_At.f kj5 (wrap64 (bt209.1 + 1))).bind fun bt219 => ((clock_Text.f kj5 t191 t192 t193 t194 t195 t196).bind fun bt227 => ((clock_Parse.f kj5 bt227.1).bind fun bt229 => (if bt207.1 = a0 then (if bt207.2 = 0 then ((montageref41_Seconds.f kj5 t191 t192 t193 t194 t195 t196).bind fun t237 => (if bt209.1 = t237 then (if bt209.2 = 0 then (if (bt211.1 == t191 && (bt211.2.1 == t192 && (bt211.2.2.1 == t193 && (bt211.2.2.2.1 == t194 && (bt211.2.2.2.2.1 == t195 && (bt211.2.2.2.2.2.1 == t196)))))) = true then (if bt211.2.2.2.2.2.2 = 0 then (if (bt219.1 == t191 && (bt219.2.1 == t192 && (bt219.2.2.1 == t193 && (bt219.2.2.2.1 == t194 && (bt219.2.2.2.2.1 == t195 && (bt219.2.2.2.2.2.1 == t196)))))) = true then (if bt219.2.2.2.2.2.2 = 0 then ((montageref41_Text.f kj5 t191 t192 t193 t194 t195 t196).bind fun t238 => (if bt227.1.toList = t238.toList then (if bt227.2 = 0 then (if (bt229.1 == t191 && (bt229.2.1 == t192 && (bt229.2.2.1 == t193 && (bt229.2.2.2.1 == t194 && (bt229.2.2.2.2.1 == t195 && (bt229.2.2.2.2.2.1 == t196)))))) = true then (some (bt229.2.2.2.2.2.2 == 0)) else (some false)) else (some false)) else (some false))) else (some false)) else (some false)) else (some false)) else (some false)) else (some false)) else (some false))) else (some false)) else (some false)))))))) = some r := by rw [if_pos rfl] at H; exact H
            clear H
            have H := H1
            clear H1
            replace H := Option.bind_eq_some_iff.mp H
            obtain ⟨⟨t207, t208⟩, A240, H⟩ := H
            replace H : ((clock_Seconds.f kj5 t191 t192 t193 t194 t195 t196).bind fun bt209 => ((clock_At.f kj5 bt209.1).bind fun bt211 => ((clock_At.f kj5 (wrap64 (bt209.1 + 1))).bind fun bt219 => ((clock_Text.f kj5 t191 t192 t193 t194 t195 t196).bind fun bt227 => ((clock_Parse.f kj5 bt227.1).bind fun bt229 => (if t207 = a0 then (if t208 = 0 then ((montageref41_Seconds.f kj5 t191 t192 t193 t194 t195 t196).bind fun t237 => (if bt209.1 = t237 then (if bt209.2 = 0 then (if (bt211.1 == t191 && (bt211.2.1 == t192 && (bt211.2.2.1 == t193 && (bt211.2.2.2.1 == t194 && (bt211.2.2.2.2.1 == t195 && (bt211.2.2.2.2.2.1 == t196)))))) = true then (if bt211.2.2.2.2.2.2 = 0 then (if (bt219.1 == t191 && (bt219.2.1 == t192 && (bt219.2.2.1 == t193 && (bt219.2.2.2.1 == t194 && (bt219.2.2.2.2.1 == t195 && (bt219.2.2.2.2.2.1 == t196)))))) = true then (if bt219.2.2.2.2.2.2 = 0 then ((montageref41_Text.f kj5 t191 t192 t193 t194 t195 t196).bind fun t238 => (if bt227.1.toList = t238.toList then (if bt227.2 = 0 then (if (bt229.1 == t191 && (bt229.2.1 == t192 && (bt229.2.2.1 == t193 && (bt229.2.2.2.1 == t194 && (bt229.2.2.2.2.1 == t195 && (bt229.2.2.2.2.2.1 == t196)))))) = true then (some (bt229.2.2.2.2.2.2 == 0)) else (some false)) else (some false)) else (some false))) else (some false)) else (some false)) else (some false)) else (some false)) else (some false)) else (some false))) else (some false)) else (some false))))))) = some r := H
            have A24 := Aside0.mk A240
            clear A240
            replace H := Option.bind_eq_some_iff.mp H
            obtain ⟨⟨t209, t210⟩, A250, H⟩ := H
            replace H : ((clock_At.f kj5 t209).bind fun bt211 => ((clock_At.f kj5 (wrap64 (t209 + 1))).bind fun bt219 => ((clock_Text.f kj5 t191 t192 t193 t194 t195 t196).bind fun bt227 => ((clock_Parse.f kj5 bt227.1).bind fun bt229 => (if t207 = a0 then (if t208 = 0 then ((montageref41_Seconds.f kj5 t191 t192 t193 t194 t195 t196).bind fun t237 => (if t209 = t237 then (if t210 = 0 then (if (bt211.1 == t191 && (bt211.2.1 == t192 && (bt211.2.2.1 == t193 && (bt211.2.2.2.1 == t194 && (bt211.2.2.2.2.1 == t195 && (bt211.2.2.2.2.2.1 == t196)))))) = true then (if bt211.2.2.2.2.2.2 = 0 then (if (bt219.1 == t191 && (bt219.2.1 == t192 && (bt219.2.2.1 == t193 && (bt219.2.2.2.1 == t194 && (bt219.2.2.2.2.1 == t195 && (bt219.2.2.2.2.2.1 == t196)))))) = true then (if bt219.2.2.2.2.2.2 = 0 then ((montageref41_Text.f kj5 t191 t192 t193 t194 t195 t196).bind fun t238 => (if bt227.1.toList = t238.toList then (if bt227.2 = 0 then (if (bt229.1 == t191 && (bt229.2.1 == t192 && (bt229.2.2.1 == t193 && (bt229.2.2.2.1 == t194 && (bt229.2.2.2.2.1 == t195 && (bt229.2.2.2.2.2.1 == t196)))))) = true then (some (bt229.2.2.2.2.2.2 == 0)) else (some false)) else (some false)) else (some false))) else (some false)) else (some false)) else (some false)) else (some false)) else (some false)) else (some false))) else (some false)) else (some false)))))) = some r := H
            have A25 := Aside0.mk A250
            clear A250
            replace H := Option.bind_eq_some_iff.mp H
            obtain ⟨⟨t211, t212, t213, t214, t215, t216, t217⟩, A260, H⟩ := H
            replace H : ((clock_At.f kj5 (wrap64 (t209 + 1))).bind fun bt219 => ((clock_Text.f kj5 t191 t192 t193 t194 t195 t196).bind fun bt227 => ((clock_Parse.f kj5 bt227.1).bind fun bt229 => (if t207 = a0 then (if t208 = 0 then ((montageref41_Seconds.f kj5 t191 t192 t193 t194 t195 t196).bind fun t237 => (if t209 = t237 then (if t210 = 0 then (if (t211 == t191 && (t212 == t192 && (t213 == t193 && (t214 == t194 && (t215 == t195 && (t216 == t196)))))) = true then (if t217 = 0 then (if (bt219.1 == t191 && (bt219.2.1 == t192 && (bt219.2.2.1 == t193 && (bt219.2.2.2.1 == t194 && (bt219.2.2.2.2.1 == t195 && (bt219.2.2.2.2.2.1 == t196)))))) = true then (if bt219.2.2.2.2.2.2 = 0 then ((montageref41_Text.f kj5 t191 t192 t193 t194 t195 t196).bind fun t238 => (if bt227.1.toList = t238.toList then (if bt227.2 = 0 then (if (bt229.1 == t191 && (bt229.2.1 == t192 && (bt229.2.2.1 == t193 && (bt229.2.2.2.1 == t194 && (bt229.2.2.2.2.1 == t195 && (bt229.2.2.2.2.2.1 == t196)))))) = true then (some (bt229.2.2.2.2.2.2 == 0)) else (some false)) else (some false)) else (some false))) else (some false)) else (some false)) else (some false)) else (some false)) else (some false)) else (some false))) else (some false)) else (some false))))) = some r := H
            have A26 := Aside0.mk A260
            clear A260
            replace H := Option.bind_eq_some_iff.mp H
            obtain ⟨⟨t219, t220, t221, t222, t223, t224, t225⟩, A270, H⟩ := H
            replace H : ((clock_Text.f kj5 t191 t192 t193 t194 t195 t196).bind fun bt227 => ((clock_Parse.f kj5 bt227.1).bind fun bt229 => (if t207 = a0 then (if t208 = 0 then ((montageref41_Seconds.f kj5 t191 t192 t193 t194 t195 t196).bind fun t237 => (if t209 = t237 then (if t210 = 0 then (if (t211 == t191 && (t212 == t192 && (t213 == t193 && (t214 == t194 && (t215 == t195 && (t216 == t196)))))) = true then (if t217 = 0 then (if (t219 == t191 && (t220 == t192 && (t221 == t193 && (t222 == t194 && (t223 == t195 && (t224 == t196)))))) = true then (if t225 = 0 then ((montageref41_Text.f kj5 t191 t192 t193 t194 t195 t196).bind fun t238 => (if bt227.1.toList = t238.toList then (if bt227.2 = 0 then (if (bt229.1 == t191 && (bt229.2.1 == t192 && (bt229.2.2.1 == t193 && (bt229.2.2.2.1 == t194 && (bt229.2.2.2.2.1 == t195 && (bt229.2.2.2.2.2.1 == t196)))))) = true then (some (bt229.2.2.2.2.2.2 == 0)) else (some false)) else (some false)) else (some false))) else (some false)) else (some false)) else (some false)) else (some false)) else (some false)) else (some false))) else (some false)) else (some false)))) = some r := H
            have A27 := Aside0.mk A270
            clear A270
            replace H := Option.bind_eq_some_iff.mp H
            obtain ⟨⟨t227, t228⟩, A280, H⟩ := H
            replace H : ((clock_Parse.f kj5 t227).bind fun bt229 => (if t207 = a0 then (if t208 = 0 then ((montageref41_Seconds.f kj5 t191 t192 t193 t194 t195 t196).bind fun t237 => (if t209 = t237 then (if t210 = 0 then (if (t211 == t191 && (t212 == t192 && (t213 == t193 && (t214 == t194 && (t215 == t195 && (t216 == t196)))))) = true then (if t217 = 0 then (if (t219 == t191 && (t220 == t192 && (t221 == t193 && (t222 == t194 && (t223 == t195 && (t224 == t196)))))) = true then (if t225 = 0 then ((montageref41_Text.f kj5 t191 t192 t193 t194 t195 t196).bind fun t238 => (if t227.toList = t238.toList then (if t228 = 0 then (if (bt229.1 == t191 && (bt229.2.1 == t192 && (bt229.2.2.1 == t193 && (bt229.2.2.2.1 == t194 && (bt229.2.2.2.2.1 == t195 && (bt229.2.2.2.2.2.1 == t196)))))) = true then (some (bt229.2.2.2.2.2.2 == 0)) else (some false)) else (some false)) else (some false))) else (some false)) else (some false)) else (some false)) else (some false)) else (some false)) else (some false))) else (some false)) else (some false))) = some r := H
            have A28 := Aside0.mk A280
            clear A280
            replace H := Option.bind_eq_some_iff.mp H
            obtain ⟨⟨t229, t230, t231, t232, t233, t234, t235⟩, A290, H⟩ := H
            replace H : (if t207 = a0 then (if t208 = 0 then ((montageref41_Seconds.f kj5 t191 t192 t193 t194 t195 t196).bind fun t237 => (if t209 = t237 then (if t210 = 0 then (if (t211 == t191 && (t212 == t192 && (t213 == t193 && (t214 == t194 && (t215 == t195 && (t216 == t196)))))) = true then (if t217 = 0 then (if (t219 == t191 && (t220 == t192 && (t221 == t193 && (t222 == t194 && (t223 == t195 && (t224 == t196)))))) = true then (if t225 = 0 then ((montageref41_Text.f kj5 t191 t192 t193 t194 t195 t196).bind fun t238 => (if t227.toList = t238.toList then (if t228 = 0 then (if (t229 == t191 && (t230 == t192 && (t231 == t193 && (t232 == t194 && (t233 == t195 && (t234 == t196)))))) = true then (some (t235 == 0)) else (some false)) else (some false)) else (some false))) else (some false)) else (some false)) else (some false)) else (some false)) else (some false)) else (some false))) else (some false)) else (some false)) = some r := H
            have A29 := Aside0.mk A290
            clear A290
            by_cases c30 : t207 = a0
            · rw [if_pos c30] at H
              have c30b0 : (t207 == a0) = true := beq_iff_eq.mpr c30
              have c30b1 : (t207 != a0) = false := bne_eq_false_iff_eq.mpr c30
              clear c30
              by_cases c31 : t208 = 0
              · rw [if_pos c31] at H
                have c31b0 : (t208 == 0) = true := beq_iff_eq.mpr c31
                have c31b1 : (t208 != 0) = false := bne_eq_false_iff_eq.mpr c31
                clear c31
                replace H := Option.bind_eq_some_iff.mp H
                obtain ⟨t237, A320, H⟩ := H
                replace H : (if t209 = t237 then (if t210 = 0 then (if (t211 == t191 && (t212 == t192 && (t213 == t193 && (t214 == t194 && (t215 == t195 && (t216 == t196)))))) = true then (if t217 = 0 then (if (t219 == t191 && (t220 == t192 && (t221 == t193 && (t222 == t194 && (t223 == t195 && (t224 == t196)))))) = true then (if t225 = 0 then ((montageref41_Text.f kj5 t191 t192 t193 t194 t195 t196).bind fun t238 => (if t227.toList = t238.toList then (if t228 = 0 then (if (t229 == t191 && (t230 == t192 && (t231 == t193 && (t232 == t194 && (t233 == t195 && (t234 == t196)))))) = true then (some (t235 == 0)) else (some false)) else (some false)) else (some false))) else (some false)) else (some false)) else (some false)) else (some false)) else (some false)) else (some false)) = some r := H
                have A32 := Aside0.mk A320
                clear A320
                by_cases c33 : t209 = t237
                · rw [if_pos c33] at H
                  have c33b0 : (t209 == t237) = true := beq_iff_eq.mpr c33
                  have c33b1 : (t209 != t237) = false := bne_eq_false_iff_eq.mpr c33
                  clear c33
                  by_cases c34 : t210 = 0
                  · rw [if_pos c34] at H
                    have c34b0 : (t210 == 0) = true := beq_iff_eq.mpr c34
                    have c34b1 : (t210 != 0) = false := bne_eq_false_iff_eq.mpr c34
                    clear c34
                    by_cases c35 : (t211 == t191 && (t212 == t192 && (t213 == t193 && (t214 == t194 && (t215 == t195 && (t216 == t196)))))) = true
                    · rw [if_pos c35] at H
                      have c35b0 : (t211 == t191 && (t212 == t192 && (t213 == t193 && (t214 == t194 && (t215 == t195 && (t216 == t196)))))) = true := c35
                      (try (have c35b1 : decide (t211 = t191 && (t212 == t192 && (t213 == t193 && (t214 == t194 && (t215 == t195 && (t216 == t196)))))) = true := by simpa using c35))
                      (try (have c35b2 : (t211 == t191 && (t212 == t192 && (t213 == t193 && (t214 == t194 && (t215 == t195 && (t216 == t196)))))) = true := by simpa using c35))
                      clear c35
                      by_cases c36 : t217 = 0
                      · rw [if_pos c36] at H
                        have c36b0 : (t217 == 0) = true := beq_iff_eq.mpr c36
                        have c36b1 : (t217 != 0) = false := bne_eq_false_iff_eq.mpr c36
                        clear c36
                        by_cases c37 : (t219 == t191 && (t220 == t192 && (t221 == t193 && (t222 == t194 && (t223 == t195 && (t224 == t196)))))) = true
                        · rw [if_pos c37] at H
                          have c37b0 : (t219 == t191 && (t220 == t192 && (t221 == t193 && (t222 == t194 && (t223 == t195 && (t224 == t196)))))) = true := c37
                          (try (have c37b1 : decide (t219 = t191 && (t220 == t192 && (t221 == t193 && (t222 == t194 && (t223 == t195 && (t224 == t196)))))) = true := by simpa using c37))
                          (try (have c37b2 : (t219 == t191 && (t220 == t192 && (t221 == t193 && (t222 == t194 && (t223 == t195 && (t224 == t196)))))) = true := by simpa using c37))
                          clear c37
                          by_cases c38 : t225 = 0
                          · rw [if_pos c38] at H
                            have c38b0 : (t225 == 0) = true := beq_iff_eq.mpr c38
                            have c38b1 : (t225 != 0) = false := bne_eq_false_iff_eq.mpr c38
                            clear c38
                            replace H := Option.bind_eq_some_iff.mp H
                            obtain ⟨t238, A390, H⟩ := H
                            replace H : (if t227.toList = t238.toList then (if t228 = 0 then (if (t229 == t191 && (t230 == t192 && (t231 == t193 && (t232 == t194 && (t233 == t195 && (t234 == t196)))))) = true then (some (t235 == 0)) else (some false)) else (some false)) else (some false)) = some r := H
                            have A39 := Aside0.mk A390
                            clear A390
                            by_cases c40 : t227.toList = t238.toList
                            · rw [if_pos c40] at H
                              have c40b0 : (t227.toList == t238.toList) = true := beq_iff_eq.mpr c40
                              have c40b1 : (t227.toList != t238.toList) = false := bne_eq_false_iff_eq.mpr c40
                              clear c40
                              by_cases c41 : t228 = 0
                              · rw [if_pos c41] at H
                                have c41b0 : (t228 == 0) = true := beq_iff_eq.mpr c41
                                have c41b1 : (t228 != 0) = false := bne_eq_false_iff_eq.mpr c41
                                clear c41
                                by_cases c42 : (t229 == t191 && (t230 == t192 && (t231 == t193 && (t232 == t194 && (t233 == t195 && (t234 == t196)))))) = true
                                · rw [if_pos c42] at H
                                  have c42b0 : (t229 == t191 && (t230 == t192 && (t231 == t193 && (t232 == t194 && (t233 == t195 && (t234 == t196)))))) = true := c42
                                  (try (have c42b1 : decide (t229 = t191 && (t230 == t192 && (t231 == t193 && (t232 == t194 && (t233 == t195 && (t234 == t196)))))) = true := by simpa using c42))
                                  (try (have c42b2 : (t229 == t191 && (t230 == t192 && (t231 == t193 && (t232 == t194 && (t233 == t195 && (t234 == t196)))))) = true := by simpa using c42))
                                  clear c42
                                  obtain rfl := Option.some.inj H
                                  simp only [Option.some.injEq, Prod.mk.injEq] at H
                                  obtain ⟨rfl⟩ := H
                                  have hnb43 := NB198_206.out
                                  have hnc43 := NB206_198.out
                                  have hcz44_0 : wc.cell? ⟨gb198, 0, none⟩ = some (.int .i64 t191) := (blk_cell BK198.out 0).trans rfl
                                  have hcz44_1 : wc.cell? ⟨gb198, 1, none⟩ = some (.int .i64 t192) := (blk_cell BK198.out 1).trans rfl
                                  have hcz44_2 : wc.cell? ⟨gb198, 2, none⟩ = some (.int .i64 t193) := (blk_cell BK198.out 2).trans rfl
                                  have hcz44_3 : wc.cell? ⟨gb198, 3, none⟩ = some (.int .i64 t194) := (blk_cell BK198.out 3).trans rfl
                                  have hcz44_4 : wc.cell? ⟨gb198, 4, none⟩ = some (.int .i64 t195) := (blk_cell BK198.out 4).trans rfl
                                  have hcz44_5 : wc.cell? ⟨gb198, 5, none⟩ = some (.int .i64 t196) := (blk_cell BK198.out 5).trans rfl
                                  have hfz44_0 := blk_frozen BK198.out 0
                                  have hfz44_1 := blk_frozen BK198.out 1
                                  have hfz44_2 := blk_frozen BK198.out 2
                                  have hfz44_3 := blk_frozen BK198.out 3
                                  have hfz44_4 := blk_frozen BK198.out 4
                                  have hfz44_5 := blk_frozen BK198.out 5
                                  go_wp2_with (first | ((with_reducible refine gate_callee (f := 31) rfl ?_); refine goesL_ (some 43) rfl rfl Tryd.func31 (by kernel_rfl) rfl #[.agg #[.int .i64 t191, .int .i64 t192, .int .i64 t193, .int .i64 t194, .int .i64 t195, .int .i64 t196]] rfl (by (try simp only [List.map_toArray, List.map_cons, List.map_nil]); first | done | rfl | (simp only [List.length_drop, List.length_take]; rfl)) ?_; (with_reducible refine (clock_Put.calls kj5 t191 t192 t193 t194 t195 t196 t207 t208 _ A24.out).mono ?_); rintro e w45 ⟨rfl, hb⟩; refine ⟨_, rfl, ?_⟩; have n0_ := Aside0.mk (blk_below (g := gb198) (o := .cells #[.int .i64 t191, .int .i64 t192, .int .i64 t193, .int .i64 t194, .int .i64 t195, .int .i64 t196] 38 (0, 0)) (by (with_reducible repeat (first | refine blk_drewN ?_ _ | refine blk_drew ?_ | refine blk_alloc ?_ _)); exact BK198.out) hb); have n1_ := Aside0.mk (blk_below (g := gb206) (o := .cells #[.int .i64 t199, .int .i64 t200, .int .i64 t201, .int .i64 t202, .int .i64 t203, .int .i64 t204] 38 (0, 0)) (by (with_reducible repeat (first | refine blk_drewN ?_ _ | refine blk_drew ?_ | refine blk_alloc ?_ _)); exact BK206.out) hb); have n2_ := Aside0.mk (below_step (by repeat (first | (with_reducible first | exact HB.out | apply below_alloc | apply pw_below_drewN | apply below_drew1 | refine below_set ?_ GE198.out | refine below_set ?_ GE206.out) | exact HB.out)) hb); clear BK198; clear BK206; clear HB; have BK198 := n0_; have BK206 := n1_; have HB := n2_; clear n0_ n1_ n2_; (try clear hb); (try clear hb2); (try clear hk); (try clear hi); have hcz46_0 : w45.cell? ⟨gb198, 0, none⟩ = some (.int .i64 t191) := (blk_cell BK198.out 0).trans rfl; have hcz46_1 : w45.cell? ⟨gb198, 1, none⟩ = some (.int .i64 t192) := (blk_cell BK198.out 1).trans rfl; have hcz46_2 : w45.cell? ⟨gb198, 2, none⟩ = some (.int .i64 t193) := (blk_cell BK198.out 2).trans rfl; have hcz46_3 : w45.cell? ⟨gb198, 3, none⟩ = some (.int .i64 t194) := (blk_cell BK198.out 3).trans rfl; have hcz46_4 : w45.cell? ⟨gb198, 4, none⟩ = some (.int .i64 t195) := (blk_cell BK198.out 4).trans rfl; have hcz46_5 : w45.cell? ⟨gb198, 5, none⟩ = some (.int .i64 t196) := (blk_cell BK198.out 5).trans rfl; have hfz46_0 := blk_frozen BK198.out 0; have hfz46_1 := blk_frozen BK198.out 1; have hfz46_2 := blk_frozen BK198.out 2; have hfz46_3 := blk_frozen BK198.out 3; have hfz46_4 := blk_frozen BK198.out 4; have hfz46_5 := blk_frozen BK198.out 5) | ((with_reducible refine gate_callee (f := 32) rfl ?_); refine goesL_ (some 48) rfl rfl Tryd.func32 (by kernel_rfl) rfl #[.agg #[.int .i64 t191, .int .i64 t192, .int .i64 t193, .int .i64 t194, .int .i64 t195, .int .i64 t196]] rfl (by (try simp only [List.map_toArray, List.map_cons, List.map_nil]); first | done | rfl | (simp only [List.length_drop, List.length_take]; rfl)) ?_; (with_reducible refine (clock_Seconds.calls kj5 t191 t192 t193 t194 t195 t196 t209 t210 _ A25.out).mono ?_); rintro e w47 ⟨rfl, hb⟩; refine ⟨_, rfl, ?_⟩; have n0_ := Aside0.mk (blk_below (g := gb198) (o := .cells #[.int .i64 t191, .int .i64 t192, .int .i64 t193, .int .i64 t194, .int .i64 t195, .int .i64 t196] 38 (0, 0)) (by (with_reducible repeat (first | refine blk_drewN ?_ _ | refine blk_drew ?_ | refine blk_alloc ?_ _)); exact BK198.out) hb); have n1_ := Aside0.mk (blk_below (g := gb206) (o := .cells #[.int .i64 t199, .int .i64 t200, .int .i64 t201, .int .i64 t202, .int .i64 t203, .int .i64 t204] 38 (0, 0)) (by (with_reducible repeat (first | refine blk_drewN ?_ _ | refine blk_drew ?_ | refine blk_alloc ?_ _)); exact BK206.out) hb); have n2_ := Aside0.mk (below_step (by repeat (first | (with_reducible first | exact HB.out | apply below_alloc | apply pw_below_drewN | apply below_drew1 | refine below_set ?_ GE198.out | refine below_set ?_ GE206.out) | exact HB.out)) hb); clear BK198; clear BK206; clear HB; have BK198 := n0_; have BK206 := n1_; have HB := n2_; clear n0_ n1_ n2_; (try clear hb); (try clear hb2); (try clear hk); (try clear hi)) | ((with_reducible refine gate_callee (f := 40) rfl ?_); refine goesL_ (some 53) rfl rfl Tryd.func40 (by kernel_rfl) rfl #[.int .i64 t209] rfl (by (try simp only [List.map_toArray, List.map_cons, List.map_nil]); first | done | rfl | (simp only [List.length_drop, List.length_take]; rfl)) ?_; (with_reducible refine (clock_At.calls kj5 t209 t211 t212 t213 t214 t215 t216 t217 _ A26.out).mono ?_); rintro e w48 ⟨rfl, hb⟩; refine ⟨_, rfl, ?_⟩; have n0_ := Aside0.mk (blk_below (g := gb198) (o := .cells #[.int .i64 t191, .int .i64 t192, .int .i64 t193, .int .i64 t194, .int .i64 t195, .int .i64 t196] 38 (0, 0)) (by (with_reducible repeat (first | refine blk_drewN ?_ _ | refine blk_drew ?_ | refine blk_alloc ?_ _)); exact BK198.out) hb); have n1_ := Aside0.mk (blk_below (g := gb206) (o := .cells #[.int .i64 t199, .int .i64 t200, .int .i64 t201, .int .i64 t202, .int .i64 t203, .int .i64 t204] 38 (0, 0)) (by (with_reducible repeat (first | refine blk_drewN ?_ _ | refine blk_drew ?_ | refine blk_alloc ?_ _)); exact BK206.out) hb); have n2_ := Aside0.mk (below_step (by repeat (first | (with_reducible first | exact HB.out | apply below_alloc | apply pw_below_drewN | apply below_drew1 | refine below_set ?_ GE198.out | refine below_set ?_ GE206.out) | exact HB.out)) hb); clear BK198; clear BK206; clear HB; have BK198 := n0_; have BK206 := n1_; have HB := n2_; clear n0_ n1_ n2_; (try clear hb); (try clear hb2); (try clear hk); (try clear hi)) | ((with_reducible refine gate_dst (N := 11) rfl ?_); refine box_event ?hg (N := 11) ?hd (cs := #[.int .i64 0, .int .i64 0, .int .i64 0, .int .i64 0, .int .i64 0, .int .i64 0]) (t := 38) ?hr ?_; (case hd => rfl); (case hg => rfl); (case hr => first | (go_simp; done) | (go_simp; rfl)); intro gb218 hg w49 hbox hb; have n0_ := Aside0.mk (blk_below (g := gb198) (o := .cells #[.int .i64 t191, .int .i64 t192, .int .i64 t193, .int .i64 t194, .int .i64 t195, .int .i64 t196] 38 (0, 0)) (by (with_reducible repeat (first | refine blk_drewN ?_ _ | refine blk_drew ?_ | refine blk_alloc ?_ _)); exact BK198.out) hb); have n1_ := Aside0.mk (blk_below (g := gb206) (o := .cells #[.int .i64 t199, .int .i64 t200, .int .i64 t201, .int .i64 t202, .int .i64 t203, .int .i64 t204] 38 (0, 0)) (by (with_reducible repeat (first | refine blk_drewN ?_ _ | refine blk_drew ?_ | refine blk_alloc ?_ _)); exact BK206.out) hb); have n2_ := Aside0.mk (below_step (by repeat (first | (with_reducible first | exact HB.out | apply below_alloc | apply pw_below_drewN | apply below_drew1 | refine below_set ?_ GE198.out | refine below_set ?_ GE206.out) | exact HB.out)) hb); have n3_ := Aside0.mk (hbox); have n4_ := Aside0.mk ((by rw [hg]; exact (below_size (by repeat (first | (with_reducible first | exact HB.out | apply below_alloc | apply pw_below_drewN | apply below_drew1 | refine below_set ?_ GE198.out | refine below_set ?_ GE206.out) | exact HB.out))) : w.heap.size ≤ gb218)); have n5_ := Aside0.mk ((by rw [hg]; exact (below_size (by repeat (first | (with_reducible first | exact HB.out | apply below_alloc | apply pw_below_drewN | apply below_drew1 | refine below_set ?_ GE198.out | refine below_set ?_ GE206.out) | exact HB.out))) : w.heap.size ≤ gb218)); have n6_ := Aside0.mk ((by rw [hg]; exact Nat.ne_of_lt (blk_lt (g := gb198) (o := .cells #[.int .i64 t191, .int .i64 t192, .int .i64 t193, .int .i64 t194, .int .i64 t195, .int .i64 t196] 38 (0, 0)) (by (with_reducible repeat (first | refine blk_drewN ?_ _ | refine blk_drew ?_ | refine blk_alloc ?_ _)); exact BK198.out)) : gb198 ≠ gb218)); have n7_ := Aside0.mk ((by rw [hg]; exact Nat.ne_of_gt (blk_lt (g := gb198) (o := .cells #[.int .i64 t191, .int .i64 t192, .int .i64 t193, .int .i64 t194, .int .i64 t195, .int .i64 t196] 38 (0, 0)) (by (with_reducible repeat (first | refine blk_drewN ?_ _ | refine blk_drew ?_ | refine blk_alloc ?_ _)); exact BK198.out)) : gb218 ≠ gb198)); have n8_ := Aside0.mk ((by rw [hg]; exact Nat.ne_of_lt (blk_lt (g := gb206) (o := .cells #[.int .i64 t199, .int .i64 t200, .int .i64 t201, .int .i64 t202, .int .i64 t203, .int .i64 t204] 38 (0, 0)) (by (with_reducible repeat (first | refine blk_drewN ?_ _ | refine blk_drew ?_ | refine blk_alloc ?_ _)); exact BK206.out)) : gb206 ≠ gb218)); have n9_ := Aside0.mk ((by rw [hg]; exact Nat.ne_of_gt (blk_lt (g := gb206) (o := .cells #[.int .i64 t199, .int .i64 t200, .int .i64 t201, .int .i64 t202, .int .i64 t203, .int .i64 t204] 38 (0, 0)) (by (with_reducible repeat (first | refine blk_drewN ?_ _ | refine blk_drew ?_ | refine blk_alloc ?_ _)); exact BK206.out)) : gb218 ≠ gb206)); clear BK198; clear BK206; clear HB; have BK198 := n0_; have BK206 := n1_; have HB := n2_; have BK218 := n3_; have GW218 := n4_; have GE218 := n5_; have NB198_218 := n6_; have NB218_198 := n7_; have NB206_218 := n8_; have NB218_206 := n9_; clear n0_ n1_ n2_ n3_ n4_ n5_ n6_ n7_ n8_ n9_; clear hb hbox hg; have hnb50 := NB218_198.out; have hnc50 := NB198_218.out; have hnb51 := NB218_206.out; have hnc51 := NB206_218.out; have hcz52_0 : w49.cell? ⟨gb218, 0, none⟩ = some (.int .i64 0) := (blk_cell BK218.out 0).trans rfl; have hcz52_1 : w49.cell? ⟨gb218, 1, none⟩ = some (.int .i64 0) := (blk_cell BK218.out 1).trans rfl; have hcz52_2 : w49.cell? ⟨gb218, 2, none⟩ = some (.int .i64 0) := (blk_cell BK218.out 2).trans rfl; have hcz52_3 : w49.cell? ⟨gb218, 3, none⟩ = some (.int .i64 0) := (blk_cell BK218.out 3).trans rfl; have hcz52_4 : w49.cell? ⟨gb218, 4, none⟩ = some (.int .i64 0) := (blk_cell BK218.out 4).trans rfl; have hcz52_5 : w49.cell? ⟨gb218, 5, none⟩ = some (.int .i64 0) := (blk_cell BK218.out 5).trans rfl; have hfz52_0 := blk_frozen BK218.out 0; have hfz52_1 := blk_frozen BK218.out 1; have hfz52_2 := blk_frozen BK218.out 2; have hfz52_3 := blk_frozen BK218.out 3; have hfz52_4 := blk_frozen BK218.out 4; have hfz52_5 := blk_frozen BK218.out 5) | ((with_reducible refine gate_callee (f := 40) rfl ?_); refine goesL_ (some 59) rfl rfl Tryd.func40 (by kernel_rfl) rfl #[.int .i64 (wrap64 (t209 + 1))] rfl (by (try simp only [List.map_toArray, List.map_cons, List.map_nil]); first | done | rfl | (simp only [List.length_drop, List.length_take]; rfl)) ?_; (with_reducible refine (clock_At.calls kj5 (wrap64 (t209 + 1)) t219 t220 t221 t222 t223 t224 t225 _ A27.out).mono ?_); rintro e w53 ⟨rfl, hb⟩; refine ⟨_, rfl, ?_⟩; have n0_ := Aside0.mk (blk_below (g := gb198) (o := .cells #[.int .i64 t191, .int .i64 t192, .int .i64 t193, .int .i64 t194, .int .i64 t195, .int .i64 t196] 38 (0, 0)) (by (with_reducible repeat (first | refine blk_drewN ?_ _ | refine blk_drew ?_ | refine blk_alloc ?_ _)); refine blk_far ?_ NB198_218.out _; (with_reducible repeat (first | refine blk_drewN ?_ _ | refine blk_drew ?_ | refine blk_alloc ?_ _)); refine blk_far ?_ NB198_218.out _; (with_reducible repeat (first | refine blk_drewN ?_ _ | refine blk_drew ?_ | refine blk_alloc ?_ _)); refine blk_far ?_ NB198_218.out _; (with_reducible repeat (first | refine blk_drewN ?_ _ | refine blk_drew ?_ | refine blk_alloc ?_ _)); refine blk_far ?_ NB198_218.out _; (with_reducible repeat (first | refine blk_drewN ?_ _ | refine blk_drew ?_ | refine blk_alloc ?_ _)); refine blk_far ?_ NB198_218.out _; (with_reducible repeat (first | refine blk_drewN ?_ _ | refine blk_drew ?_ | refine blk_alloc ?_ _)); refine blk_far ?_ NB198_218.out _; (with_reducible repeat (first | refine blk_drewN ?_ _ | refine blk_drew ?_ | refine blk_alloc ?_ _)); exact BK198.out) hb); have n1_ := Aside0.mk (blk_below (g := gb206) (o := .cells #[.int .i64 t199, .int .i64 t200, .int .i64 t201, .int .i64 t202, .int .i64 t203, .int .i64 t204] 38 (0, 0)) (by (with_reducible repeat (first | refine blk_drewN ?_ _ | refine blk_drew ?_ | refine blk_alloc ?_ _)); refine blk_far ?_ NB206_218.out _; (with_reducible repeat (first | refine blk_drewN ?_ _ | refine blk_drew ?_ | refine blk_alloc ?_ _)); refine blk_far ?_ NB206_218.out _; (with_reducible repeat (first | refine blk_drewN ?_ _ | refine blk_drew ?_ | refine blk_alloc ?_ _)); refine blk_far ?_ NB206_218.out _; (with_reducible repeat (first | refine blk_drewN ?_ _ | refine blk_drew ?_ | refine blk_alloc ?_ _)); refine blk_far ?_ NB206_218.out _; (with_reducible repeat (first | refine blk_drewN ?_ _ | refine blk_drew ?_ | refine blk_alloc ?_ _)); refine blk_far ?_ NB206_218.out _; (with_reducible repeat (first | refine blk_drewN ?_ _ | refine blk_drew ?_ | refine blk_alloc ?_ _)); refine blk_far ?_ NB206_218.out _; (with_reducible repeat (first | refine blk_drewN ?_ _ | refine blk_drew ?_ | refine blk_alloc ?_ _)); exact BK206.out) hb); have n2_ := Aside0.mk (blk_below (g := gb218) (o := .cells #[.int .i64 t211, .int .i64 t212, .int .i64 t213, .int .i64 t214, .int .i64 t215, .int .i64 t216] 38 (0, 0)) (by (with_reducible repeat (first | refine blk_drewN ?_ _ | refine blk_drew ?_ | refine blk_alloc ?_ _)); refine blk_put (cs := #[.int .i64 t211, .int .i64 t212, .int .i64 t213, .int .i64 t214, .int .i64 t215, .int .i64 0]) ?_ 5 _ rfl; (with_reducible repeat (first | refine blk_drewN ?_ _ | refine blk_drew ?_ | refine blk_alloc ?_ _)); refine blk_put (cs := #[.int .i64 t211, .int .i64 t212, .int .i64 t213, .int .i64 t214, .int .i64 0, .int .i64 0]) ?_ 4 _ rfl; (with_reducible repeat (first | refine blk_drewN ?_ _ | refine blk_drew ?_ | refine blk_alloc ?_ _)); refine blk_put (cs := #[.int .i64 t211, .int .i64 t212, .int .i64 t213, .int .i64 0, .int .i64 0, .int .i64 0]) ?_ 3 _ rfl; (with_reducible repeat (first | refine blk_drewN ?_ _ | refine blk_drew ?_ | refine blk_alloc ?_ _)); refine blk_put (cs := #[.int .i64 t211, .int .i64 t212, .int .i64 0, .int .i64 0, .int .i64 0, .int .i64 0]) ?_ 2 _ rfl; (with_reducible repeat (first | refine blk_drewN ?_ _ | refine blk_drew ?_ | refine blk_alloc ?_ _)); refine blk_put (cs := #[.int .i64 t211, .int .i64 0, .int .i64 0, .int .i64 0, .int .i64 0, .int .i64 0]) ?_ 1 _ rfl; (with_reducible repeat (first | refine blk_drewN ?_ _ | refine blk_drew ?_ | refine blk_alloc ?_ _)); refine blk_put (cs := #[.int .i64 0, .int .i64 0, .int .i64 0, .int .i64 0, .int .i64 0, .int .i64 0]) ?_ 0 _ rfl; (with_reducible repeat (first | refine blk_drewN ?_ _ | refine blk_drew ?_ | refine blk_alloc ?_ _)); exact BK218.out) hb); have n3_ := Aside0.mk (below_step (by repeat (first | (with_reducible first | exact HB.out | apply below_alloc | apply pw_below_drewN | apply below_drew1 | refine below_set ?_ GE198.out | refine below_set ?_ GE206.out | refine below_set ?_ GE218.out) | exact HB.out)) hb); clear BK198; clear BK206; clear BK218; clear HB; have BK198 := n0_; have BK206 := n1_; have BK218 := n2_; have HB := n3_; clear n0_ n1_ n2_ n3_; (try clear hb); (try clear hb2); (try clear hk); (try clear hi)) | ((with_reducible refine gate_dst (N := 13) rfl ?_); refine box_event ?hg (N := 13) ?hd (cs := #[.int .i64 0, .int .i64 0, .int .i64 0, .int .i64 0, .int .i64 0, .int .i64 0]) (t := 38) ?hr ?_; (case hd => rfl); (case hg => rfl); (case hr => first | (go_simp; done) | (go_simp; rfl)); intro gb226 hg w54 hbox hb; have n0_ := Aside0.mk (blk_below (g := gb198) (o := .cells #[.int .i64 t191, .int .i64 t192, .int .i64 t193, .int .i64 t194, .int .i64 t195, .int .i64 t196] 38 (0, 0)) (by (with_reducible repeat (first | refine blk_drewN ?_ _ | refine blk_drew ?_ | refine blk_alloc ?_ _)); exact BK198.out) hb); have n1_ := Aside0.mk (blk_below (g := gb206) (o := .cells #[.int .i64 t199, .int .i64 t200, .int .i64 t201, .int .i64 t202, .int .i64 t203, .int .i64 t204] 38 (0, 0)) (by (with_reducible repeat (first | refine blk_drewN ?_ _ | refine blk_drew ?_ | refine blk_alloc ?_ _)); exact BK206.out) hb); have n2_ := Aside0.mk (blk_below (g := gb218) (o := .cells #[.int .i64 t211, .int .i64 t212, .int .i64 t213, .int .i64 t214, .int .i64 t215, .int .i64 t216] 38 (0, 0)) (by (with_reducible repeat (first | refine blk_drewN ?_ _ | refine blk_drew ?_ | refine blk_alloc ?_ _)); exact BK218.out) hb); have n3_ := Aside0.mk (below_step (by repeat (first | (with_reducible first | exact HB.out | apply below_alloc | apply pw_below_drewN | apply below_drew1 | refine below_set ?_ GE198.out | refine below_set ?_ GE206.out | refine below_set ?_ GE218.out) | exact HB.out)) hb); have n4_ := Aside0.mk (hbox); have n5_ := Aside0.mk ((by rw [hg]; exact (below_size (by repeat (first | (with_reducible first | exact HB.out | apply below_alloc | apply pw_below_drewN | apply below_drew1 | refine below_set ?_ GE198.out | refine below_set ?_ GE206.out | refine below_set ?_ GE218.out) | exact HB.out))) : w.heap.size ≤ gb226)); have n6_ := Aside0.mk ((by rw [hg]; exact (below_size (by repeat (first | (with_reducible first | exact HB.out | apply below_alloc | apply pw_below_drewN | apply below_drew1 | refine below_set ?_ GE198.out | refine below_set ?_ GE206.out | refine below_set ?_ GE218.out) | exact HB.out))) : w.heap.size ≤ gb226)); have n7_ := Aside0.mk ((by rw [hg]; exact Nat.ne_of_lt (blk_lt (g := gb198) (o := .cells #[.int .i64 t191, .int .i64 t192, .int .i64 t193, .int .i64 t194, .int .i64 t195, .int .i64 t196] 38 (0, 0)) (by (with_reducible repeat (first | refine blk_drewN ?_ _ | refine blk_drew ?_ | refine blk_alloc ?_ _)); exact BK198.out)) : gb198 ≠ gb226)); have n8_ := Aside0.mk ((by rw [hg]; exact Nat.ne_of_gt (blk_lt (g := gb198) (o := .cells #[.int .i64 t191, .int .i64 t192, .int .i64 t193, .int .i64 t194, .int .i64 t195, .int .i64 t196] 38 (0, 0)) (by (with_reducible repeat (first | refine blk_drewN ?_ _ | refine blk_drew ?_ | refine blk_alloc ?_ _)); exact BK198.out)) : gb226 ≠ gb198)); have n9_ := Aside0.mk ((by rw [hg]; exact Nat.ne_of_lt (blk_lt (g := gb206) (o := .cells #[.int .i64 t199, .int .i64 t200, .int .i64 t201, .int .i64 t202, .int .i64 t203, .int .i64 t204] 38 (0, 0)) (by (with_reducible repeat (first | refine blk_drewN ?_ _ | refine blk_drew ?_ | refine blk_alloc ?_ _)); exact BK206.out)) : gb206 ≠ gb226)); have n10_ := Aside0.mk ((by rw [hg]; exact Nat.ne_of_gt (blk_lt (g := gb206) (o := .cells #[.int .i64 t199, .int .i64 t200, .int .i64 t201, .int .i64 t202, .int .i64 t203, .int .i64 t204] 38 (0, 0)) (by (with_reducible repeat (first | refine blk_drewN ?_ _ | refine blk_drew ?_ | refine blk_alloc ?_ _)); exact BK206.out)) : gb226 ≠ gb206)); have n11_ := Aside0.mk ((by rw [hg]; exact Nat.ne_of_lt (blk_lt (g := gb218) (o := .cells #[.int .i64 t211, .int .i64 t212, .int .i64 t213, .int .i64 t214, .int .i64 t215, .int .i64 t216] 38 (0, 0)) (by (with_reducible repeat (first | refine blk_drewN ?_ _ | refine blk_drew ?_ | refine blk_alloc ?_ _)); exact BK218.out)) : gb218 ≠ gb226)); have n12_ := Aside0.mk ((by rw [hg]; exact Nat.ne_of_gt (blk_lt (g := gb218) (o := .cells #[.int .i64 t211, .int .i64 t212, .int .i64 t213, .int .i64 t214, .int .i64 t215, .int .i64 t216] 38 (0, 0)) (by (with_reducible repeat (first | refine blk_drewN ?_ _ | refine blk_drew ?_ | refine blk_alloc ?_ _)); exact BK218.out)) : gb226 ≠ gb218)); clear BK198; clear BK206; clear BK218; clear HB; have BK198 := n0_; have BK206 := n1_; have BK218 := n2_; have HB := n3_; have BK226 := n4_; have GW226 := n5_; have GE226 := n6_; have NB198_226 := n7_; have NB226_198 := n8_; have NB206_226 := n9_; have NB226_206 := n10_; have NB218_226 := n11_; have NB226_218 := n12_; clear n0_ n1_ n2_ n3_ n4_ n5_ n6_ n7_ n8_ n9_ n10_ n11_ n12_; clear hb hbox hg; have hnb55 := NB226_198.out; have hnc55 := NB198_226.out; have hnb56 := NB226_206.out; have hnc56 := NB206_226.out; have hnb57 := NB226_218.out; have hnc57 := NB218_226.out; have hcz58_0 : w54.cell? ⟨gb226, 0, none⟩ = some (.int .i64 0) := (blk_cell BK226.out 0).trans rfl; have hcz58_1 : w54.cell? ⟨gb226, 1, none⟩ = some (.int .i64 0) := (blk_cell BK226.out 1).trans rfl; have hcz58_2 : w54.cell? ⟨gb226, 2, none⟩ = some (.int .i64 0) := (blk_cell BK226.out 2).trans rfl; have hcz58_3 : w54.cell? ⟨gb226, 3, none⟩ = some (.int .i64 0) := (blk_cell BK226.out 3).trans rfl; have hcz58_4 : w54.cell? ⟨gb226, 4, none⟩ = some (.int .i64 0) := (blk_cell BK226.out 4).trans rfl; have hcz58_5 : w54.cell? ⟨gb226, 5, none⟩ = some (.int .i64 0) := (blk_cell BK226.out 5).trans rfl; have hfz58_0 := blk_frozen BK226.out 0; have hfz58_1 := blk_frozen BK226.out 1; have hfz58_2 := blk_frozen BK226.out 2; have hfz58_3 := blk_frozen BK226.out 3; have hfz58_4 := blk_frozen BK226.out 4; have hfz58_5 := blk_frozen BK226.out 5; have hcz59_0 : w54.cell? ⟨gb198, 0, none⟩ = some (.int .i64 t191) := (blk_cell BK198.out 0).trans rfl; have hcz59_1 : w54.cell? ⟨gb198, 1, none⟩ = some (.int .i64 t192) := (blk_cell BK198.out 1).trans rfl; have hcz59_2 : w54.cell? ⟨gb198, 2, none⟩ = some (.int .i64 t193) := (blk_cell BK198.out 2).trans rfl; have hcz59_3 : w54.cell? ⟨gb198, 3, none⟩ = some (.int .i64 t194) := (blk_cell BK198.out 3).trans rfl; have hcz59_4 : w54.cell? ⟨gb198, 4, none⟩ = some (.int .i64 t195) := (blk_cell BK198.out 4).trans rfl; have hcz59_5 : w54.cell? ⟨gb198, 5, none⟩ = some (.int .i64 t196) := (blk_cell BK198.out 5).trans rfl; have hfz59_0 := blk_frozen BK198.out 0; have hfz59_1 := blk_frozen BK198.out 1; have hfz59_2 := blk_frozen BK198.out 2; have hfz59_3 := blk_frozen BK198.out 3; have hfz59_4 := blk_frozen BK198.out 4; have hfz59_5 := blk_frozen BK198.out 5) | ((with_reducible refine gate_callee (f := 33) rfl ?_); refine goesL_ (some 64) rfl rfl Tryd.func33 (by kernel_rfl) rfl #[.agg #[.int .i64 t191, .int .i64 t192, .int .i64 t193, .int .i64 t194, .int .i64 t195, .int .i64 t196]] rfl (by (try simp only [List.map_toArray, List.map_cons, List.map_nil]); first | done | rfl | (simp only [List.length_drop, List.length_take]; rfl)) ?_; (with_reducible refine (clock_Text.calls kj5 t191 t192 t193 t194 t195 t196 t227 t228 _ A28.out (XGlob.Laid.below HL.out (by repeat (first | (with_reducible first | exact HB.out | apply below_alloc | apply pw_below_drewN | apply below_drew1 | refine below_set ?_ (Aside0.out (by assumption))) | exact HB.out)))).mono ?_); rintro e w60 ⟨rfl, hb⟩; refine ⟨_, rfl, ?_⟩; have n0_ := Aside0.mk (blk_below (g := gb198) (o := .cells #[.int .i64 t191, .int .i64 t192, .int .i64 t193, .int .i64 t194, .int .i64 t195, .int .i64 t196] 38 (0, 0)) (by (with_reducible repeat (first | refine blk_drewN ?_ _ | refine blk_drew ?_ | refine blk_alloc ?_ _)); refine blk_far ?_ NB198_226.out _; (with_reducible repeat (first | refine blk_drewN ?_ _ | refine blk_drew ?_ | refine blk_alloc ?_ _)); refine blk_far ?_ NB198_226.out _; (with_reducible repeat (first | refine blk_drewN ?_ _ | refine blk_drew ?_ | refine blk_alloc ?_ _)); refine blk_far ?_ NB198_226.out _; (with_reducible repeat (first | refine blk_drewN ?_ _ | refine blk_drew ?_ | refine blk_alloc ?_ _)); refine blk_far ?_ NB198_226.out _; (with_reducible repeat (first | refine blk_drewN ?_ _ | refine blk_drew ?_ | refine blk_alloc ?_ _)); refine blk_far ?_ NB198_226.out _; (with_reducible repeat (first | refine blk_drewN ?_ _ | refine blk_drew ?_ | refine blk_alloc ?_ _)); refine blk_far ?_ NB198_226.out _; (with_reducible repeat (first | refine blk_drewN ?_ _ | refine blk_drew ?_ | refine blk_alloc ?_ _)); exact BK198.out) hb); have n1_ := Aside0.mk (blk_below (g := gb206) (o := .cells #[.int .i64 t199, .int .i64 t200, .int .i64 t201, .int .i64 t202, .int .i64 t203, .int .i64 t204] 38 (0, 0)) (by (with_reducible repeat (first | refine blk_drewN ?_ _ | refine blk_drew ?_ | refine blk_alloc ?_ _)); refine blk_far ?_ NB206_226.out _; (with_reducible repeat (first | refine blk_drewN ?_ _ | refine blk_drew ?_ | refine blk_alloc ?_ _)); refine blk_far ?_ NB206_226.out _; (with_reducible repeat (first | refine blk_drewN ?_ _ | refine blk_drew ?_ | refine blk_alloc ?_ _)); refine blk_far ?_ NB206_226.out _; (with_reducible repeat (first | refine blk_drewN ?_ _ | refine blk_drew ?_ | refine blk_alloc ?_ _)); refine blk_far ?_ NB206_226.out _; (with_reducible repeat (first | refine blk_drewN ?_ _ | refine blk_drew ?_ | refine blk_alloc ?_ _)); refine blk_far ?_ NB206_226.out _; (with_reducible repeat (first | refine blk_drewN ?_ _ | refine blk_drew ?_ | refine blk_alloc ?_ _)); refine blk_far ?_ NB206_226.out _; (with_reducible repeat (first | refine blk_drewN ?_ _ | refine blk_drew ?_ | refine blk_alloc ?_ _)); exact BK206.out) hb); have n2_ := Aside0.mk (blk_below (g := gb218) (o := .cells #[.int .i64 t211, .int .i64 t212, .int .i64 t213, .int .i64 t214, .int .i64 t215, .int .i64 t216] 38 (0, 0)) (by (with_reducible repeat (first | refine blk_drewN ?_ _ | refine blk_drew ?_ | refine blk_alloc ?_ _)); refine blk_far ?_ NB218_226.out _; (with_reducible repeat (first | refine blk_drewN ?_ _ | refine blk_drew ?_ | refine blk_alloc ?_ _)); refine blk_far ?_ NB218_226.out _; (with_reducible repeat (first | refine blk_drewN ?_ _ | refine blk_drew ?_ | refine blk_alloc ?_ _)); refine blk_far ?_ NB218_226.out _; (with_reducible repeat (first | refine blk_drewN ?_ _ | refine blk_drew ?_ | refine blk_alloc ?_ _)); refine blk_far ?_ NB218_226.out _; (with_reducible repeat (first | refine blk_drewN ?_ _ | refine blk_drew ?_ | refine blk_alloc ?_ _)); refine blk_far ?_ NB218_226.out _; (with_reducible repeat (first | refine blk_drewN ?_ _ | refine blk_drew ?_ | refine blk_alloc ?_ _)); refine blk_far ?_ NB218_226.out _; (with_reducible repeat (first | refine blk_drewN ?_ _ | refine blk_drew ?_ | refine blk_alloc ?_ _)); exact BK218.out) hb); have n3_ := Aside0.mk (blk_below (g := gb226) (o := .cells #[.int .i64 t219, .int .i64 t220, .int .i64 t221, .int .i64 t222, .int .i64 t223, .int .i64 t224] 38 (0, 0)) (by (with_reducible repeat (first | refine blk_drewN ?_ _ | refine blk_drew ?_ | refine blk_alloc ?_ _)); refine blk_put (cs := #[.int .i64 t219, .int .i64 t220, .int .i64 t221, .int .i64 t222, .int .i64 t223, .int .i64 0]) ?_ 5 _ rfl; (with_reducible repeat (first | refine blk_drewN ?_ _ | refine blk_drew ?_ | refine blk_alloc ?_ _)); refine blk_put (cs := #[.int .i64 t219, .int .i64 t220, .int .i64 t221, .int .i64 t222, .int .i64 0, .int .i64 0]) ?_ 4 _ rfl; (with_reducible repeat (first | refine blk_drewN ?_ _ | refine blk_drew ?_ | refine blk_alloc ?_ _)); refine blk_put (cs := #[.int .i64 t219, .int .i64 t220, .int .i64 t221, .int .i64 0, .int .i64 0, .int .i64 0]) ?_ 3 _ rfl; (with_reducible repeat (first | refine blk_drewN ?_ _ | refine blk_drew ?_ | refine blk_alloc ?_ _)); refine blk_put (cs := #[.int .i64 t219, .int .i64 t220, .int .i64 0, .int .i64 0, .int .i64 0, .int .i64 0]) ?_ 2 _ rfl; (with_reducible repeat (first | refine blk_drewN ?_ _ | refine blk_drew ?_ | refine blk_alloc ?_ _)); refine blk_put (cs := #[.int .i64 t219, .int .i64 0, .int .i64 0, .int .i64 0, .int .i64 0, .int .i64 0]) ?_ 1 _ rfl; (with_reducible repeat (first | refine blk_drewN ?_ _ | refine blk_drew ?_ | refine blk_alloc ?_ _)); refine blk_put (cs := #[.int .i64 0, .int .i64 0, .int .i64 0, .int .i64 0, .int .i64 0, .int .i64 0]) ?_ 0 _ rfl; (with_reducible repeat (first | refine blk_drewN ?_ _ | refine blk_drew ?_ | refine blk_alloc ?_ _)); exact BK226.out) hb); have n4_ := Aside0.mk (below_step (by repeat (first | (with_reducible first | exact HB.out | apply below_alloc | apply pw_below_drewN | apply below_drew1 | refine below_set ?_ GE198.out | refine below_set ?_ GE206.out | refine below_set ?_ GE218.out | refine below_set ?_ GE226.out) | exact HB.out)) hb); clear BK198; clear BK206; clear BK218; clear BK226; clear HB; have BK198 := n0_; have BK206 := n1_; have BK218 := n2_; have BK226 := n3_; have HB := n4_; clear n0_ n1_ n2_ n3_ n4_; (try clear hb); (try clear hb2); (try clear hk); (try clear hi)) | ((with_reducible refine gate_callee (f := 41) rfl ?_); refine goesL_ (some 69) rfl rfl Tryd.func41 (by kernel_rfl) rfl #[.string t227] rfl (by (try simp only [List.map_toArray, List.map_cons, List.map_nil]); first | done | rfl | (simp only [List.length_drop, List.length_take]; rfl)) ?_; (with_reducible refine (clock_Parse.calls kj5 t227 t229 t230 t231 t232 t233 t234 t235 _ A29.out (XGlob.Laid.below HL.out (by repeat (first | (with_reducible first | exact HB.out | apply below_alloc | apply pw_below_drewN | apply below_drew1 | refine below_set ?_ (Aside0.out (by assumption))) | exact HB.out)))).mono ?_); rintro e w61 ⟨rfl, hb⟩; refine ⟨_, rfl, ?_⟩; have n0_ := Aside0.mk (blk_below (g := gb198) (o := .cells #[.int .i64 t191, .int .i64 t192, .int .i64 t193, .int .i64 t194, .int .i64 t195, .int .i64 t196] 38 (0, 0)) (by (with_reducible repeat (first | refine blk_drewN ?_ _ | refine blk_drew ?_ | refine blk_alloc ?_ _)); exact BK198.out) hb); have n1_ := Aside0.mk (blk_below (g := gb206) (o := .cells #[.int .i64 t199, .int .i64 t200, .int .i64 t201, .int .i64 t202, .int .i64 t203, .int .i64 t204] 38 (0, 0)) (by (with_reducible repeat (first | refine blk_drewN ?_ _ | refine blk_drew ?_ | refine blk_alloc ?_ _)); exact BK206.out) hb); have n2_ := Aside0.mk (blk_below (g := gb218) (o := .cells #[.int .i64 t211, .int .i64 t212, .int .i64 t213, .int .i64 t214, .int .i64 t215, .int .i64 t216] 38 (0, 0)) (by (with_reducible repeat (first | refine blk_drewN ?_ _ | refine blk_drew ?_ | refine blk_alloc ?_ _)); exact BK218.out) hb); have n3_ := Aside0.mk (blk_below (g := gb226) (o := .cells #[.int .i64 t219, .int .i64 t220, .int .i64 t221, .int .i64 t222, .int .i64 t223, .int .i64 t224] 38 (0, 0)) (by (with_reducible repeat (first | refine blk_drewN ?_ _ | refine blk_drew ?_ | refine blk_alloc ?_ _)); exact BK226.out) hb); have n4_ := Aside0.mk (below_step (by repeat (first | (with_reducible first | exact HB.out | apply below_alloc | apply pw_below_drewN | apply below_drew1 | refine below_set ?_ GE198.out | refine below_set ?_ GE206.out | refine below_set ?_ GE218.out | refine below_set ?_ GE226.out) | exact HB.out)) hb); clear BK198; clear BK206; clear BK218; clear BK226; clear HB; have BK198 := n0_; have BK206 := n1_; have BK218 := n2_; have BK226 := n3_; have HB := n4_; clear n0_ n1_ n2_ n3_ n4_; (try clear hb); (try clear hb2); (try clear hk); (try clear hi)) | ((with_reducible refine gate_dst (N := 17) rfl ?_); refine box_event ?hg (N := 17) ?hd (cs := #[.int .i64 0, .int .i64 0, .int .i64 0, .int .i64 0, .int .i64 0, .int .i64 0]) (t := 38) ?hr ?_; (case hd => rfl); (case hg => rfl); (case hr => first | (go_simp; done) | (go_simp; rfl)); intro gb236 hg w62 hbox hb; have n0_ := Aside0.mk (blk_below (g := gb198) (o := .cells #[.int .i64 t191, .int .i64 t192, .int .i64 t193, .int .i64 t194, .int .i64 t195, .int .i64 t196] 38 (0, 0)) (by (with_reducible repeat (first | refine blk_drewN ?_ _ | refine blk_drew ?_ | refine blk_alloc ?_ _)); exact BK198.out) hb); have n1_ := Aside0.mk (blk_below (g := gb206) (o := .cells #[.int .i64 t199, .int .i64 t200, .int .i64 t201, .int .i64 t202, .int .i64 t203, .int .i64 t204] 38 (0, 0)) (by (with_reducible repeat (first | refine blk_drewN ?_ _ | refine blk_drew ?_ | refine blk_alloc ?_ _)); exact BK206.out) hb); have n2_ := Aside0.mk (blk_below (g := gb218) (o := .cells #[.int .i64 t211, .int .i64 t212, .int .i64 t213, .int .i64 t214, .int .i64 t215, .int .i64 t216] 38 (0, 0)) (by (with_reducible repeat (first | refine blk_drewN ?_ _ | refine blk_drew ?_ | refine blk_alloc ?_ _)); exact BK218.out) hb); have n3_ := Aside0.mk (blk_below (g := gb226) (o := .cells #[.int .i64 t219, .int .i64 t220, .int .i64 t221, .int .i64 t222, .int .i64 t223, .int .i64 t224] 38 (0, 0)) (by (with_reducible repeat (first | refine blk_drewN ?_ _ | refine blk_drew ?_ | refine blk_alloc ?_ _)); exact BK226.out) hb); have n4_ := Aside0.mk (below_step (by repeat (first | (with_reducible first | exact HB.out | apply below_alloc | apply pw_below_drewN | apply below_drew1 | refine below_set ?_ GE198.out | refine below_set ?_ GE206.out | refine below_set ?_ GE218.out | refine below_set ?_ GE226.out) | exact HB.out)) hb); have n5_ := Aside0.mk (hbox); have n6_ := Aside0.mk ((by rw [hg]; exact (below_size (by repeat (first | (with_reducible first | exact HB.out | apply below_alloc | apply pw_below_drewN | apply below_drew1 | refine below_set ?_ GE198.out | refine below_set ?_ GE206.out | refine below_set ?_ GE218.out | refine below_set ?_ GE226.out) | exact HB.out))) : w.heap.size ≤ gb236)); have n7_ := Aside0.mk ((by rw [hg]; exact (below_size (by repeat (first | (with_reducible first | exact HB.out | apply below_alloc | apply pw_below_drewN | apply below_drew1 | refine below_set ?_ GE198.out | refine below_set ?_ GE206.out | refine below_set ?_ GE218.out | refine below_set ?_ GE226.out) | exact HB.out))) : w.heap.size ≤ gb236)); have n8_ := Aside0.mk ((by rw [hg]; exact Nat.ne_of_lt (blk_lt (g := gb198) (o := .cells #[.int .i64 t191, .int .i64 t192, .int .i64 t193, .int .i64 t194, .int .i64 t195, .int .i64 t196] 38 (0, 0)) (by (with_reducible repeat (first | refine blk_drewN ?_ _ | refine blk_drew ?_ | refine blk_alloc ?_ _)); exact BK198.out)) : gb198 ≠ gb236)); have n9_ := Aside0.mk ((by rw [hg]; exact Nat.ne_of_gt (blk_lt (g := gb198) (o := .cells #[.int .i64 t191, .int .i64 t192, .int .i64 t193, .int .i64 t194, .int .i64 t195, .int .i64 t196] 38 (0, 0)) (by (with_reducible repeat (first | refine blk_drewN ?_ _ | refine blk_drew ?_ | refine blk_alloc ?_ _)); exact BK198.out)) : gb236 ≠ gb198)); have n10_ := Aside0.mk ((by rw [hg]; exact Nat.ne_of_lt (blk_lt (g := gb206) (o := .cells #[.int .i64 t199, .int .i64 t200, .int .i64 t201, .int .i64 t202, .int .i64 t203, .int .i64 t204] 38 (0, 0)) (by (with_reducible repeat (first | refine blk_drewN ?_ _ | refine blk_drew ?_ | refine blk_alloc ?_ _)); exact BK206.out)) : gb206 ≠ gb236)); have n11_ := Aside0.mk ((by rw [hg]; exact Nat.ne_of_gt (blk_lt (g := gb206) (o := .cells #[.int .i64 t199, .int .i64 t200, .int .i64 t201, .int .i64 t202, .int .i64 t203, .int .i64 t204] 38 (0, 0)) (by (with_reducible repeat (first | refine blk_drewN ?_ _ | refine blk_drew ?_ | refine blk_alloc ?_ _)); exact BK206.out)) : gb236 ≠ gb206)); have n12_ := Aside0.mk ((by rw [hg]; exact Nat.ne_of_lt (blk_lt (g := gb218) (o := .cells #[.int .i64 t211, .int .i64 t212, .int .i64 t213, .int .i64 t214, .int .i64 t215, .int .i64 t216] 38 (0, 0)) (by (with_reducible repeat (first | refine blk_drewN ?_ _ | refine blk_drew ?_ | refine blk_alloc ?_ _)); exact BK218.out)) : gb218 ≠ gb236)); have n13_ := Aside0.mk ((by rw [hg]; exact Nat.ne_of_gt (blk_lt (g := gb218) (o := .cells #[.int .i64 t211, .int .i64 t212, .int .i64 t213, .int .i64 t214, .int .i64 t215, .int .i64 t216] 38 (0, 0)) (by (with_reducible repeat (first | refine blk_drewN ?_ _ | refine blk_drew ?_ | refine blk_alloc ?_ _)); exact BK218.out)) : gb236 ≠ gb218)); have n14_ := Aside0.mk ((by rw [hg]; exact Nat.ne_of_lt (blk_lt (g := gb226) (o := .cells #[.int .i64 t219, .int .i64 t220, .int .i64 t221, .int .i64 t222, .int .i64 t223, .int .i64 t224] 38 (0, 0)) (by (with_reducible repeat (first | refine blk_drewN ?_ _ | refine blk_drew ?_ | refine blk_alloc ?_ _)); exact BK226.out)) : gb226 ≠ gb236)); have n15_ := Aside0.mk ((by rw [hg]; exact Nat.ne_of_gt (blk_lt (g := gb226) (o := .cells #[.int .i64 t219, .int .i64 t220, .int .i64 t221, .int .i64 t222, .int .i64 t223, .int .i64 t224] 38 (0, 0)) (by (with_reducible repeat (first | refine blk_drewN ?_ _ | refine blk_drew ?_ | refine blk_alloc ?_ _)); exact BK226.out)) : gb236 ≠ gb226)); clear BK198; clear BK206; clear BK218; clear BK226; clear HB; have BK198 := n0_; have BK206 := n1_; have BK218 := n2_; have BK226 := n3_; have HB := n4_; have BK236 := n5_; have GW236 := n6_; have GE236 := n7_; have NB198_236 := n8_; have NB236_198 := n9_; have NB206_236 := n10_; have NB236_206 := n11_; have NB218_236 := n12_; have NB236_218 := n13_; have NB226_236 := n14_; have NB236_226 := n15_; clear n0_ n1_ n2_ n3_ n4_ n5_ n6_ n7_ n8_ n9_ n10_ n11_ n12_ n13_ n14_ n15_; clear hb hbox hg; have hnb63 := NB236_198.out; have hnc63 := NB198_236.out; have hnb64 := NB236_206.out; have hnc64 := NB206_236.out; have hnb65 := NB236_218.out; have hnc65 := NB218_236.out; have hnb66 := NB236_226.out; have hnc66 := NB226_236.out; have hcz67_0 : w62.cell? ⟨gb236, 0, none⟩ = some (.int .i64 0) := (blk_cell BK236.out 0).trans rfl; have hcz67_1 : w62.cell? ⟨gb236, 1, none⟩ = some (.int .i64 0) := (blk_cell BK236.out 1).trans rfl; have hcz67_2 : w62.cell? ⟨gb236, 2, none⟩ = some (.int .i64 0) := (blk_cell BK236.out 2).trans rfl; have hcz67_3 : w62.cell? ⟨gb236, 3, none⟩ = some (.int .i64 0) := (blk_cell BK236.out 3).trans rfl; have hcz67_4 : w62.cell? ⟨gb236, 4, none⟩ = some (.int .i64 0) := (blk_cell BK236.out 4).trans rfl; have hcz67_5 : w62.cell? ⟨gb236, 5, none⟩ = some (.int .i64 0) := (blk_cell BK236.out 5).trans rfl; have hfz67_0 := blk_frozen BK236.out 0; have hfz67_1 := blk_frozen BK236.out 1; have hfz67_2 := blk_frozen BK236.out 2; have hfz67_3 := blk_frozen BK236.out 3; have hfz67_4 := blk_frozen BK236.out 4; have hfz67_5 := blk_frozen BK236.out 5; have hcz68_0 : w62.cell? ⟨gb198, 0, none⟩ = some (.int .i64 t191) := (blk_cell BK198.out 0).trans rfl; have hcz68_1 : w62.cell? ⟨gb198, 1, none⟩ = some (.int .i64 t192) := (blk_cell BK198.out 1).trans rfl; have hcz68_2 : w62.cell? ⟨gb198, 2, none⟩ = some (.int .i64 t193) := (blk_cell BK198.out 2).trans rfl; have hcz68_3 : w62.cell? ⟨gb198, 3, none⟩ = some (.int .i64 t194) := (blk_cell BK198.out 3).trans rfl; have hcz68_4 : w62.cell? ⟨gb198, 4, none⟩ = some (.int .i64 t195) := (blk_cell BK198.out 4).trans rfl; have hcz68_5 : w62.cell? ⟨gb198, 5, none⟩ = some (.int .i64 t196) := (blk_cell BK198.out 5).trans rfl; have hfz68_0 := blk_frozen BK198.out 0; have hfz68_1 := blk_frozen BK198.out 1; have hfz68_2 := blk_frozen BK198.out 2; have hfz68_3 := blk_frozen BK198.out 3; have hfz68_4 := blk_frozen BK198.out 4; have hfz68_5 := blk_frozen BK198.out 5) | (go_at_call 36; (with_reducible refine (montageref41_Seconds.calls kj5 t191 t192 t193 t194 t195 t196 t237 _ A32.out).mono ?_); rintro e w69 ⟨rfl, hb⟩; have n0_ := Aside0.mk (blk_below (g := gb198) (o := .cells #[.int .i64 t191, .int .i64 t192, .int .i64 t193, .int .i64 t194, .int .i64 t195, .int .i64 t196] 38 (0, 0)) (by (with_reducible repeat (first | refine blk_drewN ?_ _ | refine blk_drew ?_ | refine blk_alloc ?_ _)); refine blk_far ?_ NB198_236.out _; (with_reducible repeat (first | refine blk_drewN ?_ _ | refine blk_drew ?_ | refine blk_alloc ?_ _)); refine blk_far ?_ NB198_236.out _; (with_reducible repeat (first | refine blk_drewN ?_ _ | refine blk_drew ?_ | refine blk_alloc ?_ _)); refine blk_far ?_ NB198_236.out _; (with_reducible repeat (first | refine blk_drewN ?_ _ | refine blk_drew ?_ | refine blk_alloc ?_ _)); refine blk_far ?_ NB198_236.out _; (with_reducible repeat (first | refine blk_drewN ?_ _ | refine blk_drew ?_ | refine blk_alloc ?_ _)); refine blk_far ?_ NB198_236.out _; (with_reducible repeat (first | refine blk_drewN ?_ _ | refine blk_drew ?_ | refine blk_alloc ?_ _)); refine blk_far ?_ NB198_236.out _; (with_reducible repeat (first | refine blk_drewN ?_ _ | refine blk_drew ?_ | refine blk_alloc ?_ _)); exact BK198.out) hb); have n1_ := Aside0.mk (blk_below (g := gb206) (o := .cells #[.int .i64 t199, .int .i64 t200, .int .i64 t201, .int .i64 t202, .int .i64 t203, .int .i64 t204] 38 (0, 0)) (by (with_reducible repeat (first | refine blk_drewN ?_ _ | refine blk_drew ?_ | refine blk_alloc ?_ _)); refine blk_far ?_ NB206_236.out _; (with_reducible repeat (first | refine blk_drewN ?_ _ | refine blk_drew ?_ | refine blk_alloc ?_ _)); refine blk_far ?_ NB206_236.out _; (with_reducible repeat (first | refine blk_drewN ?_ _ | refine blk_drew ?_ | refine blk_alloc ?_ _)); refine blk_far ?_ NB206_236.out _; (with_reducible repeat (first | refine blk_drewN ?_ _ | refine blk_drew ?_ | refine blk_alloc ?_ _)); refine blk_far ?_ NB206_236.out _; (with_reducible repeat (first | refine blk_drewN ?_ _ | refine blk_drew ?_ | refine blk_alloc ?_ _)); refine blk_far ?_ NB206_236.out _; (with_reducible repeat (first | refine blk_drewN ?_ _ | refine blk_drew ?_ | refine blk_alloc ?_ _)); refine blk_far ?_ NB206_236.out _; (with_reducible repeat (first | refine blk_drewN ?_ _ | refine blk_drew ?_ | refine blk_alloc ?_ _)); exact BK206.out) hb); have n2_ := Aside0.mk (blk_below (g := gb218) (o := .cells #[.int .i64 t211, .int .i64 t212, .int .i64 t213, .int .i64 t214, .int .i64 t215, .int .i64 t216] 38 (0, 0)) (by (with_reducible repeat (first | refine blk_drewN ?_ _ | refine blk_drew ?_ | refine blk_alloc ?_ _)); refine blk_far ?_ NB218_236.out _; (with_reducible repeat (first | refine blk_drewN ?_ _ | refine blk_drew ?_ | refine blk_alloc ?_ _)); refine blk_far ?_ NB218_236.out _; (with_reducible repeat (first | refine blk_drewN ?_ _ | refine blk_drew ?_ | refine blk_alloc ?_ _)); refine blk_far ?_ NB218_236.out _; (with_reducible repeat (first | refine blk_drewN ?_ _ | refine blk_drew ?_ | refine blk_alloc ?_ _)); refine blk_far ?_ NB218_236.out _; (with_reducible repeat (first | refine blk_drewN ?_ _ | refine blk_drew ?_ | refine blk_alloc ?_ _)); refine blk_far ?_ NB218_236.out _; (with_reducible repeat (first | refine blk_drewN ?_ _ | refine blk_drew ?_ | refine blk_alloc ?_ _)); refine blk_far ?_ NB218_236.out _; (with_reducible repeat (first | refine blk_drewN ?_ _ | refine blk_drew ?_ | refine blk_alloc ?_ _)); exact BK218.out) hb); have n3_ := Aside0.mk (blk_below (g := gb226) (o := .cells #[.int .i64 t219, .int .i64 t220, .int .i64 t221, .int .i64 t222, .int .i64 t223, .int .i64 t224] 38 (0, 0)) (by (with_reducible repeat (first | refine blk_drewN ?_ _ | refine blk_drew ?_ | refine blk_alloc ?_ _)); refine blk_far ?_ NB226_236.out _; (with_reducible repeat (first | refine blk_drewN ?_ _ | refine blk_drew ?_ | refine blk_alloc ?_ _)); refine blk_far ?_ NB226_236.out _; (with_reducible repeat (first | refine blk_drewN ?_ _ | refine blk_drew ?_ | refine blk_alloc ?_ _)); refine blk_far ?_ NB226_236.out _; (with_reducible repeat (first | refine blk_drewN ?_ _ | refine blk_drew ?_ | refine blk_alloc ?_ _)); refine blk_far ?_ NB226_236.out _; (with_reducible repeat (first | refine blk_drewN ?_ _ | refine blk_drew ?_ | refine blk_alloc ?_ _)); refine blk_far ?_ NB226_236.out _; (with_reducible repeat (first | refine blk_drewN ?_ _ | refine blk_drew ?_ | refine blk_alloc ?_ _)); refine blk_far ?_ NB226_236.out _; (with_reducible repeat (first | refine blk_drewN ?_ _ | refine blk_drew ?_ | refine blk_alloc ?_ _)); exact BK226.out) hb); have n4_ := Aside0.mk (blk_below (g := gb236) (o := .cells #[.int .i64 t229, .int .i64 t230, .int .i64 t231, .int .i64 t232, .int .i64 t233, .int .i64 t234] 38 (0, 0)) (by (with_reducible repeat (first | refine blk_drewN ?_ _ | refine blk_drew ?_ | refine blk_alloc ?_ _)); refine blk_put (cs := #[.int .i64 t229, .int .i64 t230, .int .i64 t231, .int .i64 t232, .int .i64 t233, .int .i64 0]) ?_ 5 _ rfl; (with_reducible repeat (first | refine blk_drewN ?_ _ | refine blk_drew ?_ | refine blk_alloc ?_ _)); refine blk_put (cs := #[.int .i64 t229, .int .i64 t230, .int .i64 t231, .int .i64 t232, .int .i64 0, .int .i64 0]) ?_ 4 _ rfl; (with_reducible repeat (first | refine blk_drewN ?_ _ | refine blk_drew ?_ | refine blk_alloc ?_ _)); refine blk_put (cs := #[.int .i64 t229, .int .i64 t230, .int .i64 t231, .int .i64 0, .int .i64 0, .int .i64 0]) ?_ 3 _ rfl; (with_reducible repeat (first | refine blk_drewN ?_ _ | refine blk_drew ?_ | refine blk_alloc ?_ _)); refine blk_put (cs := #[.int .i64 t229, .int .i64 t230, .int .i64 0, .int .i64 0, .int .i64 0, .int .i64 0]) ?_ 2 _ rfl; (with_reducible repeat (first | refine blk_drewN ?_ _ | refine blk_drew ?_ | refine blk_alloc ?_ _)); refine blk_put (cs := #[.int .i64 t229, .int .i64 0, .int .i64 0, .int .i64 0, .int .i64 0, .int .i64 0]) ?_ 1 _ rfl; (with_reducible repeat (first | refine blk_drewN ?_ _ | refine blk_drew ?_ | refine blk_alloc ?_ _)); refine blk_put (cs := #[.int .i64 0, .int .i64 0, .int .i64 0, .int .i64 0, .int .i64 0, .int .i64 0]) ?_ 0 _ rfl; (with_reducible repeat (first | refine blk_drewN ?_ _ | refine blk_drew ?_ | refine blk_alloc ?_ _)); exact BK236.out) hb); have n5_ := Aside0.mk (below_step (by repeat (first | (with_reducible first | exact HB.out | apply below_alloc | apply pw_below_drewN | apply below_drew1 | refine below_set ?_ GE198.out | refine below_set ?_ GE206.out | refine below_set ?_ GE218.out | refine below_set ?_ GE226.out | refine below_set ?_ GE236.out) | exact HB.out)) hb); clear BK198; clear BK206; clear BK218; clear BK226; clear BK236; clear HB; have BK198 := n0_; have BK206 := n1_; have BK218 := n2_; have BK226 := n3_; have BK236 := n4_; have HB := n5_; clear n0_ n1_ n2_ n3_ n4_ n5_; (try clear hb); (try clear hb2); (try clear hk); (try clear hi); have hcz70_0 : w69.cell? ⟨gb218, 0, none⟩ = some (.int .i64 t211) := (blk_cell BK218.out 0).trans rfl; have hcz70_1 : w69.cell? ⟨gb218, 1, none⟩ = some (.int .i64 t212) := (blk_cell BK218.out 1).trans rfl; have hcz70_2 : w69.cell? ⟨gb218, 2, none⟩ = some (.int .i64 t213) := (blk_cell BK218.out 2).trans rfl; have hcz70_3 : w69.cell? ⟨gb218, 3, none⟩ = some (.int .i64 t214) := (blk_cell BK218.out 3).trans rfl; have hcz70_4 : w69.cell? ⟨gb218, 4, none⟩ = some (.int .i64 t215) := (blk_cell BK218.out 4).trans rfl; have hcz70_5 : w69.cell? ⟨gb218, 5, none⟩ = some (.int .i64 t216) := (blk_cell BK218.out 5).trans rfl; have hfz70_0 := blk_frozen BK218.out 0; have hfz70_1 := blk_frozen BK218.out 1; have hfz70_2 := blk_frozen BK218.out 2; have hfz70_3 := blk_frozen BK218.out 3; have hfz70_4 := blk_frozen BK218.out 4; have hfz70_5 := blk_frozen BK218.out 5; have hcz71_0 : w69.cell? ⟨gb198, 0, none⟩ = some (.int .i64 t191) := (blk_cell BK198.out 0).trans rfl; have hcz71_1 : w69.cell? ⟨gb198, 1, none⟩ = some (.int .i64 t192) := (blk_cell BK198.out 1).trans rfl; have hcz71_2 : w69.cell? ⟨gb198, 2, none⟩ = some (.int .i64 t193) := (blk_cell BK198.out 2).trans rfl; have hcz71_3 : w69.cell? ⟨gb198, 3, none⟩ = some (.int .i64 t194) := (blk_cell BK198.out 3).trans rfl; have hcz71_4 : w69.cell? ⟨gb198, 4, none⟩ = some (.int .i64 t195) := (blk_cell BK198.out 4).trans rfl; have hcz71_5 : w69.cell? ⟨gb198, 5, none⟩ = some (.int .i64 t196) := (blk_cell BK198.out 5).trans rfl; have hfz71_0 := blk_frozen BK198.out 0; have hfz71_1 := blk_frozen BK198.out 1; have hfz71_2 := blk_frozen BK198.out 2; have hfz71_3 := blk_frozen BK198.out 3; have hfz71_4 := blk_frozen BK198.out 4; have hfz71_5 := blk_frozen BK198.out 5; have hcz72_0 : w69.cell? ⟨gb226, 0, none⟩ = some (.int .i64 t219) := (blk_cell BK226.out 0).trans rfl; have hcz72_1 : w69.cell? ⟨gb226, 1, none⟩ = some (.int .i64 t220) := (blk_cell BK226.out 1).trans rfl; have hcz72_2 : w69.cell? ⟨gb226, 2, none⟩ = some (.int .i64 t221) := (blk_cell BK226.out 2).trans rfl; have hcz72_3 : w69.cell? ⟨gb226, 3, none⟩ = some (.int .i64 t222) := (blk_cell BK226.out 3).trans rfl; have hcz72_4 : w69.cell? ⟨gb226, 4, none⟩ = some (.int .i64 t223) := (blk_cell BK226.out 4).trans rfl; have hcz72_5 : w69.cell? ⟨gb226, 5, none⟩ = some (.int .i64 t224) := (blk_cell BK226.out 5).trans rfl; have hfz72_0 := blk_frozen BK226.out 0; have hfz72_1 := blk_frozen BK226.out 1; have hfz72_2 := blk_frozen BK226.out 2; have hfz72_3 := blk_frozen BK226.out 3; have hfz72_4 := blk_frozen BK226.out 4; have hfz72_5 := blk_frozen BK226.out 5) | (go_at_call 37; (with_reducible refine (montageref41_Text.calls kj5 t191 t192 t193 t194 t195 t196 t238 _ A39.out).mono ?_); rintro e w73 ⟨rfl, hb⟩; have n0_ := Aside0.mk (blk_below (g := gb198) (o := .cells #[.int .i64 t191, .int .i64 t192, .int .i64 t193, .int .i64 t194, .int .i64 t195, .int .i64 t196] 38 (0, 0)) (by (with_reducible repeat (first | refine blk_drewN ?_ _ | refine blk_drew ?_ | refine blk_alloc ?_ _)); exact BK198.out) hb); have n1_ := Aside0.mk (blk_below (g := gb206) (o := .cells #[.int .i64 t199, .int .i64 t200, .int .i64 t201, .int .i64 t202, .int .i64 t203, .int .i64 t204] 38 (0, 0)) (by (with_reducible repeat (first | refine blk_drewN ?_ _ | refine blk_drew ?_ | refine blk_alloc ?_ _)); exact BK206.out) hb); have n2_ := Aside0.mk (blk_below (g := gb218) (o := .cells #[.int .i64 t211, .int .i64 t212, .int .i64 t213, .int .i64 t214, .int .i64 t215, .int .i64 t216] 38 (0, 0)) (by (with_reducible repeat (first | refine blk_drewN ?_ _ | refine blk_drew ?_ | refine blk_alloc ?_ _)); exact BK218.out) hb); have n3_ := Aside0.mk (blk_below (g := gb226) (o := .cells #[.int .i64 t219, .int .i64 t220, .int .i64 t221, .int .i64 t222, .int .i64 t223, .int .i64 t224] 38 (0, 0)) (by (with_reducible repeat (first | refine blk_drewN ?_ _ | refine blk_drew ?_ | refine blk_alloc ?_ _)); exact BK226.out) hb); have n4_ := Aside0.mk (blk_below (g := gb236) (o := .cells #[.int .i64 t229, .int .i64 t230, .int .i64 t231, .int .i64 t232, .int .i64 t233, .int .i64 t234] 38 (0, 0)) (by (with_reducible repeat (first | refine blk_drewN ?_ _ | refine blk_drew ?_ | refine blk_alloc ?_ _)); exact BK236.out) hb); have n5_ := Aside0.mk (below_step (by repeat (first | (with_reducible first | exact HB.out | apply below_alloc | apply pw_below_drewN | apply below_drew1 | refine below_set ?_ GE198.out | refine below_set ?_ GE206.out | refine below_set ?_ GE218.out | refine below_set ?_ GE226.out | refine below_set ?_ GE236.out) | exact HB.out)) hb); clear BK198; clear BK206; clear BK218; clear BK226; clear BK236; clear HB; have BK198 := n0_; have BK206 := n1_; have BK218 := n2_; have BK226 := n3_; have BK236 := n4_; have HB := n5_; clear n0_ n1_ n2_ n3_ n4_ n5_; (try clear hb); (try clear hb2); (try clear hk); (try clear hi); have hcz74_0 : w73.cell? ⟨gb236, 0, none⟩ = some (.int .i64 t229) := (blk_cell BK236.out 0).trans rfl; have hcz74_1 : w73.cell? ⟨gb236, 1, none⟩ = some (.int .i64 t230) := (blk_cell BK236.out 1).trans rfl; have hcz74_2 : w73.cell? ⟨gb236, 2, none⟩ = some (.int .i64 t231) := (blk_cell BK236.out 2).trans rfl; have hcz74_3 : w73.cell? ⟨gb236, 3, none⟩ = some (.int .i64 t232) := (blk_cell BK236.out 3).trans rfl; have hcz74_4 : w73.cell? ⟨gb236, 4, none⟩ = some (.int .i64 t233) := (blk_cell BK236.out 4).trans rfl; have hcz74_5 : w73.cell? ⟨gb236, 5, none⟩ = some (.int .i64 t234) := (blk_cell BK236.out 5).trans rfl; have hfz74_0 := blk_frozen BK236.out 0; have hfz74_1 := blk_frozen BK236.out 1; have hfz74_2 := blk_frozen BK236.out 2; have hfz74_3 := blk_frozen BK236.out 3; have hfz74_4 := blk_frozen BK236.out 4; have hfz74_5 := blk_frozen BK236.out 5; have hcz75_0 : w73.cell? ⟨gb198, 0, none⟩ = some (.int .i64 t191) := (blk_cell BK198.out 0).trans rfl; have hcz75_1 : w73.cell? ⟨gb198, 1, none⟩ = some (.int .i64 t192) := (blk_cell BK198.out 1).trans rfl; have hcz75_2 : w73.cell? ⟨gb198, 2, none⟩ = some (.int .i64 t193) := (blk_cell BK198.out 2).trans rfl; have hcz75_3 : w73.cell? ⟨gb198, 3, none⟩ = some (.int .i64 t194) := (blk_cell BK198.out 3).trans rfl; have hcz75_4 : w73.cell? ⟨gb198, 4, none⟩ = some (.int .i64 t195) := (blk_cell BK198.out 4).trans rfl; have hcz75_5 : w73.cell? ⟨gb198, 5, none⟩ = some (.int .i64 t196) := (blk_cell BK198.out 5).trans rfl; have hfz75_0 := blk_frozen BK198.out 0; have hfz75_1 := blk_frozen BK198.out 1; have hfz75_2 := blk_frozen BK198.out 2; have hfz75_3 := blk_frozen BK198.out 3; have hfz75_4 := blk_frozen BK198.out 4; have hfz75_5 := blk_frozen BK198.out 5))
                                  go_ret
                                  exact ⟨by first | rfl | (simp [errW_none, errW_some] <;> rfl) | (simp [*, errW_none, errW_some] <;> rfl), by repeat (first | (with_reducible first | exact HB.out | apply below_alloc | apply pw_below_drewN | apply below_drew1 | refine below_set ?_ GE198.out | refine below_set ?_ GE206.out | refine below_set ?_ GE218.out | refine below_set ?_ GE226.out | refine below_set ?_ GE236.out) | exact HB.out)⟩
                                · rw [if_neg c42] at H
                                  have c42b0 : (t229 == t191 && (t230 == t192 && (t231 == t193 && (t232 == t194 && (t233 == t195 && (t234 == t196)))))) = false := by simpa using c42
                                  (try (have c42b1 : decide (t229 = t191 && (t230 == t192 && (t231 == t193 && (t232 == t194 && (t233 == t195 && (t234 == t196)))))) = false := by simpa using c42))
                                  (try (have c42b2 : (t229 == t191 && (t230 == t192 && (t231 == t193 && (t232 == t194 && (t233 == t195 && (t234 == t196)))))) = false := by simpa using c42))
                                  (try (have c42b3 : ¬ (t229 = t191 && (t230 == t192 && (t231 == t193 && (t232 == t194 && (t233 == t195 && (t234 == t196)))))) := by simpa using c42))
                                  clear c42
                                  obtain rfl := Option.some.inj H
                                  cases hr_.out
                              · rw [if_neg c41] at H
                                have c41b0 : (t228 == 0) = false := beq_eq_false_iff_ne.mpr c41
                                have c41b1 : (t228 != 0) = true := bne_iff_ne.mpr c41
                                obtain rfl := Option.some.inj H
                                cases hr_.out
                            · rw [if_neg c40] at H
                              have c40b0 : (t227.toList == t238.toList) = false := beq_eq_false_iff_ne.mpr c40
                              have c40b1 : (t227.toList != t238.toList) = true := bne_iff_ne.mpr c40
                              obtain rfl := Option.some.inj H
                              cases hr_.out
                          · rw [if_neg c38] at H
                            have c38b0 : (t225 == 0) = false := beq_eq_false_iff_ne.mpr c38
                            have c38b1 : (t225 != 0) = true := bne_iff_ne.mpr c38
                            obtain rfl := Option.some.inj H
                            cases hr_.out
                        · rw [if_neg c37] at H
                          have c37b0 : (t219 == t191 && (t220 == t192 && (t221 == t193 && (t222 == t194 && (t223 == t195 && (t224 == t196)))))) = false := by simpa using c37
                          (try (have c37b1 : decide (t219 = t191 && (t220 == t192 && (t221 == t193 && (t222 == t194 && (t223 == t195 && (t224 == t196)))))) = false := by simpa using c37))
                          (try (have c37b2 : (t219 == t191 && (t220 == t192 && (t221 == t193 && (t222 == t194 && (t223 == t195 && (t224 == t196)))))) = false := by simpa using c37))
                          (try (have c37b3 : ¬ (t219 = t191 && (t220 == t192 && (t221 == t193 && (t222 == t194 && (t223 == t195 && (t224 == t196)))))) := by simpa using c37))
                          clear c37
                          obtain rfl := Option.some.inj H
                          cases hr_.out
                      · rw [if_neg c36] at H
                        have c36b0 : (t217 == 0) = false := beq_eq_false_iff_ne.mpr c36
                        have c36b1 : (t217 != 0) = true := bne_iff_ne.mpr c36
                        obtain rfl := Option.some.inj H
                        cases hr_.out
                    · rw [if_neg c35] at H
                      have c35b0 : (t211 == t191 && (t212 == t192 && (t213 == t193 && (t214 == t194 && (t215 == t195 && (t216 == t196)))))) = false := by simpa using c35
                      (try (have c35b1 : decide (t211 = t191 && (t212 == t192 && (t213 == t193 && (t214 == t194 && (t215 == t195 && (t216 == t196)))))) = false := by simpa using c35))
                      (try (have c35b2 : (t211 == t191 && (t212 == t192 && (t213 == t193 && (t214 == t194 && (t215 == t195 && (t216 == t196)))))) = false := by simpa using c35))
                      (try (have c35b3 : ¬ (t211 = t191 && (t212 == t192 && (t213 == t193 && (t214 == t194 && (t215 == t195 && (t216 == t196)))))) := by simpa using c35))
                      clear c35
                      obtain rfl := Option.some.inj H
                      cases hr_.out
                  · rw [if_neg c34] at H
                    have c34b0 : (t210 == 0) = false := beq_eq_false_iff_ne.mpr c34
                    have c34b1 : (t210 != 0) = true := bne_iff_ne.mpr c34
                    obtain rfl := Option.some.inj H
                    cases hr_.out
                · rw [if_neg c33] at H
                  have c33b0 : (t209 == t237) = false := beq_eq_false_iff_ne.mpr c33
                  have c33b1 : (t209 != t237) = true := bne_iff_ne.mpr c33
                  obtain rfl := Option.some.inj H
                  cases hr_.out
              · rw [if_neg c31] at H
                have c31b0 : (t208 == 0) = false := beq_eq_false_iff_ne.mpr c31
                have c31b1 : (t208 != 0) = true := bne_iff_ne.mpr c31
                obtain rfl := Option.some.inj H
                cases hr_.out
            · rw [if_neg c30] at H
              have c30b0 : (t207 == a0) = false := beq_eq_false_iff_ne.mpr c30
              have c30b1 : (t207 != a0) = true := bne_iff_ne.mpr c30
              obtain rfl := Option.some.inj H
              cases hr_.out
          · replace c23 := Bool.eq_false_iff.mpr c23
            subst c23
            have H1 : (some true) = some r := by rw [if_neg (show ¬ (false = true) by decide)] at H; exact H
            clear H
            have H := H1
            clear H1
            obtain rfl := Option.some.inj H
            simp only [Option.some.injEq, Prod.mk.injEq] at H
            obtain ⟨rfl⟩ := H
            go_wp2
            go_ret
            exact ⟨by first | rfl | (simp [errW_none, errW_some] <;> rfl) | (simp [*, errW_none, errW_some] <;> rfl), by repeat (first | (with_reducible first | exact HB.out | apply below_alloc | apply pw_below_drewN | apply below_drew1 | refine below_set ?_ GE198.out | refine below_set ?_ GE206.out) | exact HB.out)⟩
  · replace c3 := Bool.eq_false_iff.mpr c3
    subst c3
    have H1 : (some false) = some r := by rw [if_neg (show ¬ (false = true) by decide)] at H; exact H
    clear H
    have H := H1
    clear H1
    obtain rfl := Option.some.inj H
    cases hr_.out

/-- THE ONE PURE STATEMENT of montagelaw41_ClockTimes: yours. -/
def montagelaw41_ClockTimes.Pure : Prop := ∀ (a0 : Int), (Lit.int .i64 a0).wf = true → ∃ k, montagelaw41_ClockTimes.f k a0 = some true
theorem montagelaw41_ClockTimes.walk (P : montagelaw41_ClockTimes.Pure) (a0 : Int) (w : World) (w0 : (Lit.int .i64 a0).wf = true) (hL : XGlob.Laid w) :
    Calls Tryd.prog 9 #[.int .i64 a0] w fun e w' => e = .returned (.bool true) ∧ Below w.heap.size w w' := by
  obtain ⟨k, h⟩ := P a0 w0
  refine (montagelaw41_ClockTimes.calls k a0 true w h ⟨rfl⟩ hL).mono ?_
  rintro e w' ⟨rfl, hd⟩
  exact ⟨rfl, hd⟩

/-! ### montageref41_At: function 42 -/
mutual
def montageref41_At.l0 : Nat → Int → Int → Int → Option (Int × Int × Int × Int × Int × Int × Int)
  | 0, _, _, _ => none
  | k + 1, x4, x5, x6 => if x6 ≤ 2107 then (montageref41_At.l1 k x4 x5 x6 1) else (some (0, 0, 0, 0, 0, 0, 7))
def montageref41_At.l1 : Nat → Int → Int → Int → Int → Option (Int × Int × Int × Int × Int × Int × Int)
  | 0, _, _, _, _ => none
  | k + 1, x4, x5, x6, x7 => if x7 ≤ 12 then ((montageref41_days.f k x6 x7).bind fun t240 => (if x5 < t240 then (some (x6, x7, wrap64 (x5 + 1), wrap64 (Int.tdiv x4 3600), Int.tmod (wrap64 (Int.tdiv x4 60)) 60, wrap64 ((wrap64 (Int.tdiv (Int.tmod x4 60) 2)) * 2), 0)) else ((montageref41_days.f k x6 x7).bind fun t241 => (montageref41_At.l1 k x4 (wrap64 (x5 - t241)) x6 (wrap64 (x7 + 1)))))) else (montageref41_At.l0 k x4 x5 (wrap64 (x6 + 1)))
end
def montageref41_At.f (k : Nat) (a0 : Int) : Option (Int × Int × Int × Int × Int × Int × Int) := if a0 < 0 then (some (0, 0, 0, 0, 0, 0, 7)) else (montageref41_At.l0 k (Int.tmod a0 86400) (wrap64 (Int.tdiv a0 86400)) 1980)
theorem montageref41_At.mono_l : ∀ k, (∀ y0 y1 y2, LeO (montageref41_At.l0 k y0 y1 y2) (montageref41_At.l0 (k + 1) y0 y1 y2)) ∧ (∀ y0 y1 y2 y3, LeO (montageref41_At.l1 k y0 y1 y2 y3) (montageref41_At.l1 (k + 1) y0 y1 y2 y3))
  | 0 => ⟨fun _ _ _ r h => by simp [montageref41_At.l0] at h, fun _ _ _ _ r h => by simp [montageref41_At.l1] at h⟩
  | k + 1 => by
    obtain ⟨ih0, ih1⟩ := montageref41_At.mono_l k
    refine ⟨?_, ?_⟩
    · intro y0 y1 y2
      unfold montageref41_At.l0
      repeat' first
      | (with_reducible exact ih0 _ _ _)
      | (with_reducible exact ih1 _ _ _ _)
      | (with_reducible exact montageref41_days.mono _ _ _)
      | (with_reducible exact LeO.refl _)
      | (with_reducible exact LeO.none _)
      | (with_reducible refine LeO.ite ?_ ?_)
      | (with_reducible refine LeO.bind ?_ (fun _ => ?_))
      | exact ih0 _ _ _
      | exact ih1 _ _ _ _
      | exact montageref41_days.mono _ _ _
      | exact LeO.none _
      | refine LeO.ite ?_ ?_
      | refine LeO.bind ?_ (fun _ => ?_)
    · intro y0 y1 y2 y3
      unfold montageref41_At.l1
      repeat' first
      | (with_reducible exact ih0 _ _ _)
      | (with_reducible exact ih1 _ _ _ _)
      | (with_reducible exact montageref41_days.mono _ _ _)
      | (with_reducible exact LeO.refl _)
      | (with_reducible exact LeO.none _)
      | (with_reducible refine LeO.ite ?_ ?_)
      | (with_reducible refine LeO.bind ?_ (fun _ => ?_))
      | exact ih0 _ _ _
      | exact ih1 _ _ _ _
      | exact montageref41_days.mono _ _ _
      | exact LeO.none _
      | refine LeO.ite ?_ ?_
      | refine LeO.bind ?_ (fun _ => ?_)
theorem montageref41_At.mono : ∀ a0 k, LeO (montageref41_At.f k a0) (montageref41_At.f (k + 1) a0) := by
  intro a0 k
  obtain ⟨ih0, ih1⟩ := montageref41_At.mono_l k
  unfold montageref41_At.f
  repeat' first
      | (with_reducible exact ih0 _ _ _)
      | (with_reducible exact ih1 _ _ _ _)
      | (with_reducible exact montageref41_days.mono _ _ _)
      | (with_reducible exact LeO.refl _)
      | (with_reducible exact LeO.none _)
      | (with_reducible refine LeO.ite ?_ ?_)
      | (with_reducible refine LeO.bind ?_ (fun _ => ?_))
      | exact ih0 _ _ _
      | exact ih1 _ _ _ _
      | exact montageref41_days.mono _ _ _
      | exact LeO.none _
      | refine LeO.ite ?_ ?_
      | refine LeO.bind ?_ (fun _ => ?_)
set_option maxHeartbeats 8000000 in
set_option maxRecDepth 100000 in
theorem montageref41_At.calls (k : Nat) (a0 : Int) (r1 : Int) (r2 : Int) (r3 : Int) (r4 : Int) (r5 : Int) (r6 : Int) (r7 : Int) (w : World) (h : montageref41_At.f k a0 = some (r1, r2, r3, r4, r5, r6, r7)) :
    Calls Tryd.prog 42 #[.int .i64 a0] w fun e w' => e = .returned (.tuple #[.agg #[.int .i64 r1, .int .i64 r2, .int .i64 r3, .int .i64 r4, .int .i64 r5, .int .i64 r6], .int .i64 r7]) ∧ Below w.heap.size w w' := by
  have hu38 := Tryd.underlying38
  have HB := Aside0.mk (Below.refl w.heap.size w)
  have H : (if a0 < 0 then (some (0, 0, 0, 0, 0, 0, 7)) else (montageref41_At.l0 k (Int.tmod a0 86400) (wrap64 (Int.tdiv a0 86400)) 1980)) = some (r1, r2, r3, r4, r5, r6, r7) := h
  clear h
  obtain ⟨rest_, hrest_⟩ : ∃ r_ : Int, Int.tmod a0 86400 = r_ := ⟨_, rfl⟩
  rw [hrest_] at H
  by_cases c2 : a0 < 0
  · rw [if_pos c2] at H
    have c2b0 : decide (a0 < 0) = true := decide_eq_true c2
    clear c2
    simp only [Option.some.injEq, Prod.mk.injEq] at H
    obtain ⟨rfl, rfl, rfl, rfl, rfl, rfl, rfl⟩ := H
    go_enter Tryd.func42, Tryd.ntmps42
    go_wp2_with (first | ((with_reducible refine gate_dst (N := 2) rfl ?_); refine box_event ?hg (N := 2) ?hd (cs := #[.int .i64 0, .int .i64 0, .int .i64 0, .int .i64 0, .int .i64 0, .int .i64 0]) (t := 38) ?hr ?_; (case hd => rfl); (case hg => rfl); (case hr => first | (go_simp; done) | (go_simp; rfl)); intro gb239 hg w3 hbox hb; have n0_ := Aside0.mk (below_step (by repeat (first | (with_reducible first | exact HB.out | apply below_alloc | apply pw_below_drewN | apply below_drew1) | exact HB.out)) hb); have n1_ := Aside0.mk (hbox); have n2_ := Aside0.mk ((by rw [hg]; exact (below_size (by repeat (first | (with_reducible first | exact HB.out | apply below_alloc | apply pw_below_drewN | apply below_drew1) | exact HB.out))) : w.heap.size ≤ gb239)); have n3_ := Aside0.mk ((by rw [hg]; exact (below_size (by repeat (first | (with_reducible first | exact HB.out | apply below_alloc | apply pw_below_drewN | apply below_drew1) | exact HB.out))) : w.heap.size ≤ gb239)); clear HB; have HB := n0_; have BK239 := n1_; have GW239 := n2_; have GE239 := n3_; clear n0_ n1_ n2_ n3_; clear hb hbox hg; have hcz4_0 : w3.cell? ⟨gb239, 0, none⟩ = some (.int .i64 0) := (blk_cell BK239.out 0).trans rfl; have hcz4_1 : w3.cell? ⟨gb239, 1, none⟩ = some (.int .i64 0) := (blk_cell BK239.out 1).trans rfl; have hcz4_2 : w3.cell? ⟨gb239, 2, none⟩ = some (.int .i64 0) := (blk_cell BK239.out 2).trans rfl; have hcz4_3 : w3.cell? ⟨gb239, 3, none⟩ = some (.int .i64 0) := (blk_cell BK239.out 3).trans rfl; have hcz4_4 : w3.cell? ⟨gb239, 4, none⟩ = some (.int .i64 0) := (blk_cell BK239.out 4).trans rfl; have hcz4_5 : w3.cell? ⟨gb239, 5, none⟩ = some (.int .i64 0) := (blk_cell BK239.out 5).trans rfl; have hfz4_0 := blk_frozen BK239.out 0; have hfz4_1 := blk_frozen BK239.out 1; have hfz4_2 := blk_frozen BK239.out 2; have hfz4_3 := blk_frozen BK239.out 3; have hfz4_4 := blk_frozen BK239.out 4; have hfz4_5 := blk_frozen BK239.out 5))
    refine bodyPost_ret (results_ct rfl _ _ gb239 38 #[.int .i64 0, .int .i64 0, .int .i64 0, .int .i64 0, .int .i64 0, .int .i64 0] (0, 0) _ rfl (by (with_reducible repeat (first | refine blk_drewN ?_ _ | refine blk_drew ?_ | refine blk_alloc ?_ _)); refine blk_put (cs := #[.int .i64 0, .int .i64 0, .int .i64 0, .int .i64 0, .int .i64 0, .int .i64 0]) ?_ 5 _ rfl; (with_reducible repeat (first | refine blk_drewN ?_ _ | refine blk_drew ?_ | refine blk_alloc ?_ _)); refine blk_put (cs := #[.int .i64 0, .int .i64 0, .int .i64 0, .int .i64 0, .int .i64 0, .int .i64 0]) ?_ 4 _ rfl; (with_reducible repeat (first | refine blk_drewN ?_ _ | refine blk_drew ?_ | refine blk_alloc ?_ _)); refine blk_put (cs := #[.int .i64 0, .int .i64 0, .int .i64 0, .int .i64 0, .int .i64 0, .int .i64 0]) ?_ 3 _ rfl; (with_reducible repeat (first | refine blk_drewN ?_ _ | refine blk_drew ?_ | refine blk_alloc ?_ _)); refine blk_put (cs := #[.int .i64 0, .int .i64 0, .int .i64 0, .int .i64 0, .int .i64 0, .int .i64 0]) ?_ 2 _ rfl; (with_reducible repeat (first | refine blk_drewN ?_ _ | refine blk_drew ?_ | refine blk_alloc ?_ _)); refine blk_put (cs := #[.int .i64 0, .int .i64 0, .int .i64 0, .int .i64 0, .int .i64 0, .int .i64 0]) ?_ 1 _ rfl; (with_reducible repeat (first | refine blk_drewN ?_ _ | refine blk_drew ?_ | refine blk_alloc ?_ _)); refine blk_put (cs := #[.int .i64 0, .int .i64 0, .int .i64 0, .int .i64 0, .int .i64 0, .int .i64 0]) ?_ 0 _ rfl; (with_reducible repeat (first | refine blk_drewN ?_ _ | refine blk_drew ?_ | refine blk_alloc ?_ _)); exact BK239.out) Tryd.underlying38 rfl (by kernel_rfl)) rfl ?_
    exact ⟨by first | rfl | (simp [errW_none, errW_some] <;> rfl) | (simp [*, errW_none, errW_some] <;> rfl), by repeat (first | (with_reducible first | exact HB.out | apply below_alloc | apply pw_below_drewN | apply below_drew1 | refine below_set ?_ GE239.out) | exact HB.out)⟩
  · rw [if_neg c2] at H
    have c2b0 : decide (a0 < 0) = false := decide_eq_false c2
    clear c2
    have H' := Aside0.mk H
    clear H
    go_enter Tryd.func42, Tryd.ntmps42
    go_wp2_with (first | ((with_reducible refine gate_dst (N := 2) rfl ?_); refine box_event ?hg (N := 2) ?hd (cs := #[.int .i64 0, .int .i64 0, .int .i64 0, .int .i64 0, .int .i64 0, .int .i64 0]) (t := 38) ?hr ?_; (case hd => rfl); (case hg => rfl); (case hr => first | (go_simp; done) | (go_simp; rfl)); intro gb239 hg w5 hbox hb; have n0_ := Aside0.mk (below_step (by repeat (first | (with_reducible first | exact HB.out | apply below_alloc | apply pw_below_drewN | apply below_drew1) | exact HB.out)) hb); have n1_ := Aside0.mk (hbox); have n2_ := Aside0.mk ((by rw [hg]; exact (below_size (by repeat (first | (with_reducible first | exact HB.out | apply below_alloc | apply pw_below_drewN | apply below_drew1) | exact HB.out))) : w.heap.size ≤ gb239)); have n3_ := Aside0.mk ((by rw [hg]; exact (below_size (by repeat (first | (with_reducible first | exact HB.out | apply below_alloc | apply pw_below_drewN | apply below_drew1) | exact HB.out))) : w.heap.size ≤ gb239)); clear HB; have HB := n0_; have BK239 := n1_; have GW239 := n2_; have GE239 := n3_; clear n0_ n1_ n2_ n3_; clear hb hbox hg))
    go_loopg [5, 6] k (fun kq v5 v6 w' => ∃ (x5_1 : Int) (x6_1 : Int) (x240000_1 : Int) (x240001_1 : Int) (x240002_1 : Int) (x240003_1 : Int) (x240004_1 : Int) (x240005_1 : Int), v5 = .int .i64 x5_1 ∧ v6 = .int .i64 x6_1 ∧ Aside0 (montageref41_At.l0 kq rest_ x5_1 x6_1 = some (r1, r2, r3, r4, r5, r6, r7)) ∧ Aside0 (kq ≤ k) ∧ Aside0 (w'.heap[gb239]? = some (.cells #[.int .i64 x240000_1, .int .i64 x240001_1, .int .i64 x240002_1, .int .i64 x240003_1, .int .i64 x240004_1, .int .i64 x240005_1] 38 (0, 0))) ∧ Aside0 (Below w.heap.size w w'))
    case atStart => exact ⟨(wrap64 (Int.tdiv a0 86400)), (1980), (0), (0), (0), (0), (0), (0), (by first | rfl | (simp; done) | (simp [*]; done)), (by first | rfl | (simp; done) | (simp [*]; done)), H', ⟨Nat.le_refl _⟩, ⟨by (with_reducible repeat (first | refine blk_drewN ?_ _ | refine blk_drew ?_ | refine blk_alloc ?_ _)); exact BK239.out⟩, ⟨by repeat (first | (with_reducible first | exact HB.out | apply below_alloc | apply pw_below_drewN | apply below_drew1 | refine below_set ?_ GE239.out) | exact HB.out)⟩⟩
    case round =>
      clear H'
      try clear c2
      try clear c2b0
      try clear p2
      try clear c4
      try clear hcz4_0
      try clear hcz4_1
      try clear hcz4_2
      try clear hcz4_3
      try clear hcz4_4
      try clear hcz4_5
      try clear hfz4_0
      try clear hfz4_1
      try clear hfz4_2
      try clear hfz4_3
      try clear hfz4_4
      try clear hfz4_5
      obtain ⟨x5_1, x6_1, x240000_1, x240001_1, x240002_1, x240003_1, x240004_1, x240005_1, rfl, rfl, HA, HK1, BK239, HB⟩ := hrel
      cases gk with
      | zero => exact absurd HA.out (by simp [montageref41_At.l0])
      | succ k1 =>
        have H := HA.out
        clear HA
        simp only [montageref41_At.l0] at H
        by_cases c6 : x6_1 ≤ 2107
        · rw [if_pos c6] at H
          have c6b0 : decide (x6_1 ≤ 2107) = true := decide_eq_true c6
          clear c6
          have H' := Aside0.mk H
          clear H
          go_wp2
          go_loopg [5, 7] k1 (fun kq v5 v7 w' => ∃ (x5_2 : Int) (x7_2 : Int) (x240000_2 : Int) (x240001_2 : Int) (x240002_2 : Int) (x240003_2 : Int) (x240004_2 : Int) (x240005_2 : Int), v5 = .int .i64 x5_2 ∧ v7 = .int .i64 x7_2 ∧ Aside0 (montageref41_At.l1 kq rest_ x5_2 x6_1 x7_2 = some (r1, r2, r3, r4, r5, r6, r7)) ∧ Aside0 (kq ≤ k1) ∧ Aside0 (w'.heap[gb239]? = some (.cells #[.int .i64 x240000_2, .int .i64 x240001_2, .int .i64 x240002_2, .int .i64 x240003_2, .int .i64 x240004_2, .int .i64 x240005_2] 38 (0, 0))) ∧ Aside0 (Below w.heap.size w w'))
          case atStart => exact ⟨(x5_1), (1), (x240000_1), (x240001_1), (x240002_1), (x240003_1), (x240004_1), (x240005_1), (by first | rfl | (simp; done) | (simp [*]; done)), (by first | rfl | (simp; done) | (simp [*]; done)), H', ⟨Nat.le_refl _⟩, ⟨by (with_reducible repeat (first | refine blk_drewN ?_ _ | refine blk_drew ?_ | refine blk_alloc ?_ _)); exact BK239.out⟩, ⟨by repeat (first | (with_reducible first | exact HB.out | apply below_alloc | apply pw_below_drewN | apply below_drew1 | refine below_set ?_ GE239.out) | exact HB.out)⟩⟩
          case round =>
            clear H'
            try clear c2
            try clear c2b0
            try clear p2
            try clear c4
            try clear c6
            try clear c6b0
            try clear p6
            try clear hcz4_0
            try clear hcz4_1
            try clear hcz4_2
            try clear hcz4_3
            try clear hcz4_4
            try clear hcz4_5
            try clear hfz4_0
            try clear hfz4_1
            try clear hfz4_2
            try clear hfz4_3
            try clear hfz4_4
            try clear hfz4_5
            try clear p2
            obtain ⟨x5_2, x7_2, x240000_2, x240001_2, x240002_2, x240003_2, x240004_2, x240005_2, rfl, rfl, HA, HK2, BK239, HB⟩ := hrel
            cases gk with
            | zero => exact absurd HA.out (by simp [montageref41_At.l1])
            | succ k2 =>
              have H := HA.out
              clear HA
              simp only [montageref41_At.l1] at H
              by_cases c7 : x7_2 ≤ 12
              · rw [if_pos c7] at H
                have c7b0 : decide (x7_2 ≤ 12) = true := decide_eq_true c7
                clear c7
                replace H := Option.bind_eq_some_iff.mp H
                obtain ⟨t240, A80, H⟩ := H
                replace H : (if x5_2 < t240 then (some (x6_1, x7_2, wrap64 (x5_2 + 1), wrap64 (Int.tdiv rest_ 3600), Int.tmod (wrap64 (Int.tdiv rest_ 60)) 60, wrap64 ((wrap64 (Int.tdiv (Int.tmod rest_ 60) 2)) * 2), 0)) else ((montageref41_days.f k2 x6_1 x7_2).bind fun t241 => (montageref41_At.l1 k2 rest_ (wrap64 (x5_2 - t241)) x6_1 (wrap64 (x7_2 + 1))))) = some (r1, r2, r3, r4, r5, r6, r7) := H
                have A8 := Aside0.mk A80
                clear A80
                by_cases c9 : x5_2 < t240
                · rw [if_pos c9] at H
                  have c9b0 : decide (x5_2 < t240) = true := decide_eq_true c9
                  clear c9
                  simp only [Option.some.injEq, Prod.mk.injEq] at H
                  obtain ⟨rfl, rfl, rfl, rfl, rfl, rfl, rfl⟩ := H
                  go_wp2_with (first | ((with_reducible refine gate_callee (f := 81) rfl ?_); refine goesL_ (some 26) rfl rfl Tryd.func81 (by kernel_rfl) rfl #[.int .i64 x6_1, .int .i64 x7_2] rfl (by (try simp only [List.map_toArray, List.map_cons, List.map_nil]); first | done | rfl | (simp only [List.length_drop, List.length_take]; rfl)) ?_; (with_reducible refine (montageref41_days.calls k2 x6_1 x7_2 t240 _ A8.out).mono ?_); rintro e w' ⟨rfl, ⟨nd, rfl⟩⟩; refine ⟨_, rfl, ?_⟩; (try (rw [drewN_self wr]; generalize hq_ : World.drewN wr _ = wr; have n0_ : Aside0 (wr.heap[gb239]? = some (.cells #[.int .i64 x240000_2, .int .i64 x240001_2, .int .i64 x240002_2, .int .i64 x240003_2, .int .i64 x240004_2, .int .i64 x240005_2] 38 (0, 0))) := ⟨by rw [← hq_]; exact (by (with_reducible repeat (first | refine blk_drewN ?_ _ | refine blk_drew ?_ | refine blk_alloc ?_ _)); exact BK239.out)⟩; have n1_ : Aside0 (Below w.heap.size w wr) := ⟨by rw [← hq_]; exact (by repeat (first | (with_reducible first | exact HB.out | apply below_alloc | apply pw_below_drewN | apply below_drew1 | refine below_set ?_ GE239.out) | exact HB.out))⟩; clear BK239 HB hq_; have BK239 := n0_; have HB := n1_; clear n0_ n1_)); have hcz10_0 : wr.cell? ⟨gb239, 0, none⟩ = some (.int .i64 x240000_2) := (blk_cell BK239.out 0).trans rfl; have hcz10_1 : wr.cell? ⟨gb239, 1, none⟩ = some (.int .i64 x240001_2) := (blk_cell BK239.out 1).trans rfl; have hcz10_2 : wr.cell? ⟨gb239, 2, none⟩ = some (.int .i64 x240002_2) := (blk_cell BK239.out 2).trans rfl; have hcz10_3 : wr.cell? ⟨gb239, 3, none⟩ = some (.int .i64 x240003_2) := (blk_cell BK239.out 3).trans rfl; have hcz10_4 : wr.cell? ⟨gb239, 4, none⟩ = some (.int .i64 x240004_2) := (blk_cell BK239.out 4).trans rfl; have hcz10_5 : wr.cell? ⟨gb239, 5, none⟩ = some (.int .i64 x240005_2) := (blk_cell BK239.out 5).trans rfl; have hfz10_0 := blk_frozen BK239.out 0; have hfz10_1 := blk_frozen BK239.out 1; have hfz10_2 := blk_frozen BK239.out 2; have hfz10_3 := blk_frozen BK239.out 3; have hfz10_4 := blk_frozen BK239.out 4; have hfz10_5 := blk_frozen BK239.out 5))
                  refine bodyPost_ret (results_ct rfl _ _ gb239 38 #[.int .i64 x6_1, .int .i64 x7_2, .int .i64 (wrap64 (x5_2 + 1)), .int .i64 (wrap64 (Int.tdiv rest_ 3600)), .int .i64 (Int.tmod (wrap64 (Int.tdiv rest_ 60)) 60), .int .i64 (wrap64 ((wrap64 (Int.tdiv (Int.tmod rest_ 60) 2)) * 2))] (0, 0) _ rfl (by (with_reducible repeat (first | refine blk_drewN ?_ _ | refine blk_drew ?_ | refine blk_alloc ?_ _)); refine blk_put (cs := #[.int .i64 x6_1, .int .i64 x7_2, .int .i64 (wrap64 (x5_2 + 1)), .int .i64 (wrap64 (Int.tdiv rest_ 3600)), .int .i64 (Int.tmod (wrap64 (Int.tdiv rest_ 60)) 60), .int .i64 x240005_2]) ?_ 5 _ rfl; (with_reducible repeat (first | refine blk_drewN ?_ _ | refine blk_drew ?_ | refine blk_alloc ?_ _)); refine blk_put (cs := #[.int .i64 x6_1, .int .i64 x7_2, .int .i64 (wrap64 (x5_2 + 1)), .int .i64 (wrap64 (Int.tdiv rest_ 3600)), .int .i64 x240004_2, .int .i64 x240005_2]) ?_ 4 _ rfl; (with_reducible repeat (first | refine blk_drewN ?_ _ | refine blk_drew ?_ | refine blk_alloc ?_ _)); refine blk_put (cs := #[.int .i64 x6_1, .int .i64 x7_2, .int .i64 (wrap64 (x5_2 + 1)), .int .i64 x240003_2, .int .i64 x240004_2, .int .i64 x240005_2]) ?_ 3 _ rfl; (with_reducible repeat (first | refine blk_drewN ?_ _ | refine blk_drew ?_ | refine blk_alloc ?_ _)); refine blk_put (cs := #[.int .i64 x6_1, .int .i64 x7_2, .int .i64 x240002_2, .int .i64 x240003_2, .int .i64 x240004_2, .int .i64 x240005_2]) ?_ 2 _ rfl; (with_reducible repeat (first | refine blk_drewN ?_ _ | refine blk_drew ?_ | refine blk_alloc ?_ _)); refine blk_put (cs := #[.int .i64 x6_1, .int .i64 x240001_2, .int .i64 x240002_2, .int .i64 x240003_2, .int .i64 x240004_2, .int .i64 x240005_2]) ?_ 1 _ rfl; (with_reducible repeat (first | refine blk_drewN ?_ _ | refine blk_drew ?_ | refine blk_alloc ?_ _)); refine blk_put (cs := #[.int .i64 x240000_2, .int .i64 x240001_2, .int .i64 x240002_2, .int .i64 x240003_2, .int .i64 x240004_2, .int .i64 x240005_2]) ?_ 0 _ rfl; (with_reducible repeat (first | refine blk_drewN ?_ _ | refine blk_drew ?_ | refine blk_alloc ?_ _)); exact BK239.out) Tryd.underlying38 rfl (by kernel_rfl)) rfl ?_
                  exact ⟨by first | rfl | (simp [errW_none, errW_some] <;> rfl) | (simp [*, errW_none, errW_some] <;> rfl), by repeat (first | (with_reducible first | exact HB.out | apply below_alloc | apply pw_below_drewN | apply below_drew1 | refine below_set ?_ GE239.out) | exact HB.out)⟩
                · rw [if_neg c9] at H
                  have c9b0 : decide (x5_2 < t240) = false := decide_eq_false c9
                  clear c9
                  replace H := Option.bind_eq_some_iff.mp H
                  obtain ⟨t241, A110, H⟩ := H
                  replace H : (montageref41_At.l1 k2 rest_ (wrap64 (x5_2 - t241)) x6_1 (wrap64 (x7_2 + 1))) = some (r1, r2, r3, r4, r5, r6, r7) := H
                  have A11 := Aside0.mk A110
                  clear A110
                  have H' := Aside0.mk H
                  clear H
                  go_wp2_with (first | ((with_reducible refine gate_callee (f := 81) rfl ?_); refine goesL_ (some 26) rfl rfl Tryd.func81 (by kernel_rfl) rfl #[.int .i64 x6_1, .int .i64 x7_2] rfl (by (try simp only [List.map_toArray, List.map_cons, List.map_nil]); first | done | rfl | (simp only [List.length_drop, List.length_take]; rfl)) ?_; (with_reducible refine (montageref41_days.calls k2 x6_1 x7_2 t240 _ A8.out).mono ?_); rintro e w' ⟨rfl, ⟨nd, rfl⟩⟩; refine ⟨_, rfl, ?_⟩) | ((with_reducible refine gate_callee (f := 81) rfl ?_); refine goesL_ (some 45) rfl rfl Tryd.func81 (by kernel_rfl) rfl #[.int .i64 x6_1, .int .i64 x7_2] rfl (by (try simp only [List.map_toArray, List.map_cons, List.map_nil]); first | done | rfl | (simp only [List.length_drop, List.length_take]; rfl)) ?_; (with_reducible refine (montageref41_days.calls k2 x6_1 x7_2 t241 _ A11.out).mono ?_); rintro e w' ⟨rfl, ⟨nd, rfl⟩⟩; refine ⟨_, rfl, ?_⟩))
                  go_roundg k2
                  case measure => have := HK1.out; have := HK2.out; omega
                  case rel => exact ⟨(wrap64 (x5_2 - t241)), (wrap64 (x7_2 + 1)), (x240000_2), (x240001_2), (x240002_2), (x240003_2), (x240004_2), (x240005_2), (by first | rfl | (simp; done) | (simp [*]; done)), (by first | rfl | (simp; done) | (simp [*]; done)), H', ⟨by have := HK1.out; have := HK2.out; omega⟩, ⟨by (with_reducible repeat (first | refine blk_drewN ?_ _ | refine blk_drew ?_ | refine blk_alloc ?_ _)); exact BK239.out⟩, ⟨by repeat (first | (with_reducible first | exact HB.out | apply below_alloc | apply pw_below_drewN | apply below_drew1 | refine below_set ?_ GE239.out) | exact HB.out)⟩⟩
              · rw [if_neg c7] at H
                have c7b0 : decide (x7_2 ≤ 12) = false := decide_eq_false c7
                clear c7
                have H' := Aside0.mk H
                clear H
                go_wp2
                go_roundg k2
                case measure => have := HK1.out; have := HK2.out; omega
                case rel => exact ⟨(x5_2), (wrap64 (x6_1 + 1)), (x240000_2), (x240001_2), (x240002_2), (x240003_2), (x240004_2), (x240005_2), (by first | rfl | (simp; done) | (simp [*]; done)), (by first | rfl | (simp; done) | (simp [*]; done)), H', ⟨by have := HK1.out; have := HK2.out; omega⟩, ⟨by (with_reducible repeat (first | refine blk_drewN ?_ _ | refine blk_drew ?_ | refine blk_alloc ?_ _)); exact BK239.out⟩, ⟨by repeat (first | (with_reducible first | exact HB.out | apply below_alloc | apply pw_below_drewN | apply below_drew1 | refine below_set ?_ GE239.out) | exact HB.out)⟩⟩
        · rw [if_neg c6] at H
          have c6b0 : decide (x6_1 ≤ 2107) = false := decide_eq_false c6
          clear c6
          simp only [Option.some.injEq, Prod.mk.injEq] at H
          obtain ⟨rfl, rfl, rfl, rfl, rfl, rfl, rfl⟩ := H
          have hcz12_0 : wr.cell? ⟨gb239, 0, none⟩ = some (.int .i64 x240000_1) := (blk_cell BK239.out 0).trans rfl
          have hcz12_1 : wr.cell? ⟨gb239, 1, none⟩ = some (.int .i64 x240001_1) := (blk_cell BK239.out 1).trans rfl
          have hcz12_2 : wr.cell? ⟨gb239, 2, none⟩ = some (.int .i64 x240002_1) := (blk_cell BK239.out 2).trans rfl
          have hcz12_3 : wr.cell? ⟨gb239, 3, none⟩ = some (.int .i64 x240003_1) := (blk_cell BK239.out 3).trans rfl
          have hcz12_4 : wr.cell? ⟨gb239, 4, none⟩ = some (.int .i64 x240004_1) := (blk_cell BK239.out 4).trans rfl
          have hcz12_5 : wr.cell? ⟨gb239, 5, none⟩ = some (.int .i64 x240005_1) := (blk_cell BK239.out 5).trans rfl
          have hfz12_0 := blk_frozen BK239.out 0
          have hfz12_1 := blk_frozen BK239.out 1
          have hfz12_2 := blk_frozen BK239.out 2
          have hfz12_3 := blk_frozen BK239.out 3
          have hfz12_4 := blk_frozen BK239.out 4
          have hfz12_5 := blk_frozen BK239.out 5
          go_wp2
          refine bodyPost_ret (results_ct rfl _ _ gb239 38 #[.int .i64 0, .int .i64 0, .int .i64 0, .int .i64 0, .int .i64 0, .int .i64 0] (0, 0) _ rfl (by (with_reducible repeat (first | refine blk_drewN ?_ _ | refine blk_drew ?_ | refine blk_alloc ?_ _)); refine blk_put (cs := #[.int .i64 0, .int .i64 0, .int .i64 0, .int .i64 0, .int .i64 0, .int .i64 x240005_1]) ?_ 5 _ rfl; (with_reducible repeat (first | refine blk_drewN ?_ _ | refine blk_drew ?_ | refine blk_alloc ?_ _)); refine blk_put (cs := #[.int .i64 0, .int .i64 0, .int .i64 0, .int .i64 0, .int .i64 x240004_1, .int .i64 x240005_1]) ?_ 4 _ rfl; (with_reducible repeat (first | refine blk_drewN ?_ _ | refine blk_drew ?_ | refine blk_alloc ?_ _)); refine blk_put (cs := #[.int .i64 0, .int .i64 0, .int .i64 0, .int .i64 x240003_1, .int .i64 x240004_1, .int .i64 x240005_1]) ?_ 3 _ rfl; (with_reducible repeat (first | refine blk_drewN ?_ _ | refine blk_drew ?_ | refine blk_alloc ?_ _)); refine blk_put (cs := #[.int .i64 0, .int .i64 0, .int .i64 x240002_1, .int .i64 x240003_1, .int .i64 x240004_1, .int .i64 x240005_1]) ?_ 2 _ rfl; (with_reducible repeat (first | refine blk_drewN ?_ _ | refine blk_drew ?_ | refine blk_alloc ?_ _)); refine blk_put (cs := #[.int .i64 0, .int .i64 x240001_1, .int .i64 x240002_1, .int .i64 x240003_1, .int .i64 x240004_1, .int .i64 x240005_1]) ?_ 1 _ rfl; (with_reducible repeat (first | refine blk_drewN ?_ _ | refine blk_drew ?_ | refine blk_alloc ?_ _)); refine blk_put (cs := #[.int .i64 x240000_1, .int .i64 x240001_1, .int .i64 x240002_1, .int .i64 x240003_1, .int .i64 x240004_1, .int .i64 x240005_1]) ?_ 0 _ rfl; (with_reducible repeat (first | refine blk_drewN ?_ _ | refine blk_drew ?_ | refine blk_alloc ?_ _)); exact BK239.out) Tryd.underlying38 rfl (by kernel_rfl)) rfl ?_
          exact ⟨by first | rfl | (simp [errW_none, errW_some] <;> rfl) | (simp [*, errW_none, errW_some] <;> rfl), by repeat (first | (with_reducible first | exact HB.out | apply below_alloc | apply pw_below_drewN | apply below_drew1 | refine below_set ?_ GE239.out) | exact HB.out)⟩

/-! ### montageref41_number: function 88 -/
def montageref41_number.l0 : Nat → ByteArray → Int → Int → Option (Int)
  | 0, _, _, _ => none
  | k + 1, x0, x3, x4 => if x4 < (x0.size : Int) then (if 0 ≤ x4 then (montageref41_number.l0 k x0 (wrap64 ((wrap64 ((wrap64 (10 * x3)) + (wrap64 (bt x0 x4)))) - 48)) (wrap64 (x4 + 1))) else (none)) else (some x3)
def montageref41_number.f (k : Nat) (a0 : ByteArray) : Option (Int) := montageref41_number.l0 k a0 0 0
theorem montageref41_number.mono_l : ∀ k, (∀ y0 y1 y2, LeO (montageref41_number.l0 k y0 y1 y2) (montageref41_number.l0 (k + 1) y0 y1 y2))
  | 0 => fun _ _ _ r h => by simp [montageref41_number.l0] at h
  | k + 1 => by
    have ih0 := montageref41_number.mono_l k
    · intro y0 y1 y2
      unfold montageref41_number.l0
      repeat' first
      | (with_reducible exact ih0 _ _ _)
      | (with_reducible exact LeO.refl _)
      | (with_reducible exact LeO.none _)
      | (with_reducible refine LeO.ite ?_ ?_)
      | (with_reducible refine LeO.bind ?_ (fun _ => ?_))
      | exact ih0 _ _ _
      | exact LeO.none _
      | refine LeO.ite ?_ ?_
      | refine LeO.bind ?_ (fun _ => ?_)
theorem montageref41_number.mono : ∀ a0 k, LeO (montageref41_number.f k a0) (montageref41_number.f (k + 1) a0) := by
  intro a0 k
  have ih0 := montageref41_number.mono_l k
  unfold montageref41_number.f
  repeat' first
      | (with_reducible exact ih0 _ _ _)
      | (with_reducible exact LeO.refl _)
      | (with_reducible exact LeO.none _)
      | (with_reducible refine LeO.ite ?_ ?_)
      | (with_reducible refine LeO.bind ?_ (fun _ => ?_))
      | exact ih0 _ _ _
      | exact LeO.none _
      | refine LeO.ite ?_ ?_
      | refine LeO.bind ?_ (fun _ => ?_)
set_option maxHeartbeats 8000000 in
set_option maxRecDepth 100000 in
theorem montageref41_number.calls (k : Nat) (a0 : ByteArray) (r : Int) (w : World) (h : montageref41_number.f k a0 = some r) :
    Calls Tryd.prog 88 #[.string a0] w fun e w' => e = .returned (.int .i64 r) ∧ Drawn0 w w' := by
  have H : (montageref41_number.l0 k a0 0 0) = some r := h
  clear h
  have H' := Aside0.mk H
  clear H
  go_enter Tryd.func88, Tryd.ntmps88
  go_wp2
  go_loopg [3, 4] k (fun kq v3 v4 w' => ∃ (x3_1 : Int) (x4_1 : Int), v3 = .int .i64 x3_1 ∧ v4 = .int .i64 x4_1 ∧ Aside0 (montageref41_number.l0 kq a0 x3_1 x4_1 = some r) ∧ Aside0 (kq ≤ k) ∧ Drawn0 w w')
  case atStart => exact ⟨(0), (0), (by first | rfl | (simp; done) | (simp [*]; done)), (by first | rfl | (simp; done) | (simp [*]; done)), H', ⟨Nat.le_refl _⟩, by repeat (first | exact Drawn0.refl _ | apply Drawn0.step)⟩
  case round =>
    clear H'
    obtain ⟨x3_1, x4_1, rfl, rfl, HA, HK1, ⟨m1, rfl⟩⟩ := hrel
    cases gk with
    | zero => exact absurd HA.out (by simp [montageref41_number.l0])
    | succ k1 =>
      have H := HA.out
      clear HA
      simp only [montageref41_number.l0] at H
      by_cases c2 : x4_1 < (a0.size : Int)
      · rw [if_pos c2] at H
        have c2b0 : decide (x4_1 < (a0.size : Int)) = true := decide_eq_true c2
        clear c2
        by_cases c3 : 0 ≤ x4_1
        · rw [if_pos c3] at H
          have c3b0 : decide (0 ≤ x4_1) = true := decide_eq_true c3
          clear c3
          have H' := Aside0.mk H
          clear H
          have p4 : 0 ≤ (x4_1 : Int) := of_decide_eq_true (by first | (with_reducible assumption) | assumption)
          have q4 : x4_1 < (a0.size : Int) := of_decide_eq_true (by first | (with_reducible assumption) | assumption)
          have hx4 := bt_at a0 x4_1
          replace p4 := eq_true p4
          replace q4 := eq_true q4
          go_wp2
          go_roundg k1
          case measure => have := HK1.out; omega
          case rel => exact ⟨(wrap64 ((wrap64 ((wrap64 (10 * x3_1)) + (wrap64 (bt a0 x4_1)))) - 48)), (wrap64 (x4_1 + 1)), (by first | rfl | (simp; done) | (simp [*]; done)), (by first | rfl | (simp; done) | (simp [*]; done)), H', ⟨by have := HK1.out; omega⟩, by repeat (first | exact Drawn0.refl _ | apply Drawn0.step)⟩
        · rw [if_neg c3] at H
          exact absurd H (by simp)
      · rw [if_neg c2] at H
        have c2b0 : decide (x4_1 < (a0.size : Int)) = false := decide_eq_false c2
        clear c2
        obtain rfl := Option.some.inj H
        simp only [Option.some.injEq, Prod.mk.injEq] at H
        obtain ⟨rfl⟩ := H
        go_wp2
        go_ret
        exact ⟨by first | rfl | (simp; done) | (simp [*]; done), by repeat (first | exact Drawn0.refl _ | apply Drawn0.step)⟩

end Go.Proofs.YtdaofffedfccmaaDoor.XClockDates
-- laidx
