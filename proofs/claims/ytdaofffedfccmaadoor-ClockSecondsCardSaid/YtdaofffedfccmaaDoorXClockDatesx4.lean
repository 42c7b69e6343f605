-- Written by this session's own program wip/xprint.py: a changed copy of the kit's print.
import Derived.Test.YtdaofffedfccmaaDoorXClockDatesx0
import Derived.Test.YtdaofffedfccmaaDoorXClockDatesx1
import Derived.Test.YtdaofffedfccmaaDoorXClockDatesx2
import Derived.Test.YtdaofffedfccmaaDoorXClockDatesx3
namespace Go.Proofs.YtdaofffedfccmaaDoor.XClockDates
open Go.RowKit Go.Proofs.YtdaofffedfccmaaDoorW.PrintWords Go.Proofs.YtdaofffedfccmaaDoorW.PrintLast Go.Proofs.YtdaofffedfccmaaDoorW.PrintMore
attribute [local go_sem] max2_int min2_int max_two min_two max_three min_three max_four min_four   -- for this text's walks alone
set_option linter.unusedVariables false
set_option linter.unusedSimpArgs false

attribute [local go_sem high] eqA38
/-! ### montagelaw41_awake: function 30 -/
def montagelaw41_awake.f (k : Nat)  : Option (Bool) := (clock_Of.f k 2162688).bind fun bt134 => ((clock_Seconds.f k bt134.1 bt134.2.1 bt134.2.2.1 bt134.2.2.2.1 bt134.2.2.2.2.1 bt134.2.2.2.2.2.1).bind fun bt142 => ((clock_Text.f k bt134.1 bt134.2.1 bt134.2.2.1 bt134.2.2.2.1 bt134.2.2.2.2.1 bt134.2.2.2.2.2.1).bind fun bt144 => ((clock_Parse.f k (⟨#[50, 48, 48, 48, 45, 48, 50, 45, 50, 57, 32, 50, 51, 58, 53, 57, 58, 53, 56]⟩ : ByteArray)).bind fun bt146 => (if bt134.2.2.2.2.2.2 = true then (if (bt134.1 == 1980 && (bt134.2.1 == 1 && (bt134.2.2.1 == 1 && (bt134.2.2.2.1 == 0 && (bt134.2.2.2.2.1 == 0 && (bt134.2.2.2.2.2.1 == 0)))))) = true then (if bt142.1 = 0 then (if bt142.2 = 0 then (if bt144.1.toList = ([49, 57, 56, 48, 45, 48, 49, 45, 48, 49, 32, 48, 48, 58, 48, 48, 58, 48, 48] : List UInt8) then (if bt144.2 = 0 then (if bt146.2.2.1 = 29 then (some (bt146.2.2.2.2.2.2 == 0)) else (some false)) else (some false)) else (some false)) else (some false)) else (some false)) else (some false)) else (some false)))))
theorem montagelaw41_awake.mono : ∀ k, LeO (montagelaw41_awake.f k ) (montagelaw41_awake.f (k + 1) ) := by
  intro  k
  unfold montagelaw41_awake.f
  repeat' first
      | (with_reducible exact clock_Of.mono _ _)
      | (with_reducible exact clock_Parse.mono _ _)
      | (with_reducible exact clock_Seconds.mono _ _ _ _ _ _ _)
      | (with_reducible exact clock_Text.mono _ _ _ _ _ _ _)
      | (with_reducible exact LeO.refl _)
      | (with_reducible exact LeO.none _)
      | (with_reducible refine LeO.ite ?_ ?_)
      | (with_reducible refine LeO.bind ?_ (fun _ => ?_))
      | exact clock_Of.mono _ _
      | exact clock_Parse.mono _ _
      | exact clock_Seconds.mono _ _ _ _ _ _ _
      | exact clock_Text.mono _ _ _ _ _ _ _
      | exact LeO.none _
      | refine LeO.ite ?_ ?_
      | refine LeO.bind ?_ (fun _ => ?_)
set_option maxHeartbeats 8000000 in
set_option maxRecDepth 100000 in
theorem montagelaw41_awake.calls (k : Nat)  (r : Bool) (w : World) (h : montagelaw41_awake.f k  = some r) (hr_ : Aside0 (r = true)) (hL : XGlob.Laid w) :
    Calls Tryd.prog 30 #[] w fun e w' => e = .returned (.bool r) ∧ Below w.heap.size w w' := by
  have HL := Aside0.mk hL
  clear hL
  have hu38 := Tryd.underlying38
  have HB := Aside0.mk (Below.refl w.heap.size w)
  have H : ((clock_Of.f k 2162688).bind fun bt134 => ((clock_Seconds.f k bt134.1 bt134.2.1 bt134.2.2.1 bt134.2.2.2.1 bt134.2.2.2.2.1 bt134.2.2.2.2.2.1).bind fun bt142 => ((clock_Text.f k bt134.1 bt134.2.1 bt134.2.2.1 bt134.2.2.2.1 bt134.2.2.2.2.1 bt134.2.2.2.2.2.1).bind fun bt144 => ((clock_Parse.f k (⟨#[50, 48, 48, 48, 45, 48, 50, 45, 50, 57, 32, 50, 51, 58, 53, 57, 58, 53, 56]⟩ : ByteArray)).bind fun bt146 => (if bt134.2.2.2.2.2.2 = true then (if (bt134.1 == 1980 && (bt134.2.1 == 1 && (bt134.2.2.1 == 1 && (bt134.2.2.2.1 == 0 && (bt134.2.2.2.2.1 == 0 && (bt134.2.2.2.2.2.1 == 0)))))) = true then (if bt142.1 = 0 then (if bt142.2 = 0 then (if bt144.1.toList = ([49, 57, 56, 48, 45, 48, 49, 45, 48, 49, 32, 48, 48, 58, 48, 48, 58, 48, 48] : List UInt8) then (if bt144.2 = 0 then (if bt146.2.2.1 = 29 then (some (bt146.2.2.2.2.2.2 == 0)) else (some false)) else (some false)) else (some false)) else (some false)) else (some false)) else (some false)) else (some false)))))) = some r := h
  clear h
  replace H := Option.bind_eq_some_iff.mp H
  obtain ⟨⟨t134, t135, t136, t137, t138, t139, t140⟩, A10, H⟩ := H
  replace H : ((clock_Seconds.f k t134 t135 t136 t137 t138 t139).bind fun bt142 => ((clock_Text.f k t134 t135 t136 t137 t138 t139).bind fun bt144 => ((clock_Parse.f k (⟨#[50, 48, 48, 48, 45, 48, 50, 45, 50, 57, 32, 50, 51, 58, 53, 57, 58, 53, 56]⟩ : ByteArray)).bind fun bt146 => (if t140 = true then (if (t134 == 1980 && (t135 == 1 && (t136 == 1 && (t137 == 0 && (t138 == 0 && (t139 == 0)))))) = true then (if bt142.1 = 0 then (if bt142.2 = 0 then (if bt144.1.toList = ([49, 57, 56, 48, 45, 48, 49, 45, 48, 49, 32, 48, 48, 58, 48, 48, 58, 48, 48] : List UInt8) then (if bt144.2 = 0 then (if bt146.2.2.1 = 29 then (some (bt146.2.2.2.2.2.2 == 0)) else (some false)) else (some false)) else (some false)) else (some false)) else (some false)) else (some false)) else (some false))))) = some r := H
  have A1 := Aside0.mk A10
  clear A10
  replace H := Option.bind_eq_some_iff.mp H
  obtain ⟨⟨t142, t143⟩, A20, H⟩ := H
  replace H : ((clock_Text.f k t134 t135 t136 t137 t138 t139).bind fun bt144 => ((clock_Parse.f k (⟨#[50, 48, 48, 48, 45, 48, 50, 45, 50, 57, 32, 50, 51, 58, 53, 57, 58, 53, 56]⟩ : ByteArray)).bind fun bt146 => (if t140 = true then (if (t134 == 1980 && (t135 == 1 && (t136 == 1 && (t137 == 0 && (t138 == 0 && (t139 == 0)))))) = true then (if t142 = 0 then (if t143 = 0 then (if bt144.1.toList = ([49, 57, 56, 48, 45, 48, 49, 45, 48, 49, 32, 48, 48, 58, 48, 48, 58, 48, 48] : List UInt8) then (if bt144.2 = 0 then (if bt146.2.2.1 = 29 then (some (bt146.2.2.2.2.2.2 == 0)) else (some false)) else (some false)) else (some false)) else (some false)) else (some false)) else (some false)) else (some false)))) = some r := H
  have A2 := Aside0.mk A20
  clear A20
  replace H := Option.bind_eq_some_iff.mp H
  obtain ⟨⟨t144, t145⟩, A30, H⟩ := H
  replace H : ((clock_Parse.f k (⟨#[50, 48, 48, 48, 45, 48, 50, 45, 50, 57, 32, 50, 51, 58, 53, 57, 58, 53, 56]⟩ : ByteArray)).bind fun bt146 => (if t140 = true then (if (t134 == 1980 && (t135 == 1 && (t136 == 1 && (t137 == 0 && (t138 == 0 && (t139 == 0)))))) = true then (if t142 = 0 then (if t143 = 0 then (if t144.toList = ([49, 57, 56, 48, 45, 48, 49, 45, 48, 49, 32, 48, 48, 58, 48, 48, 58, 48, 48] : List UInt8) then (if t145 = 0 then (if bt146.2.2.1 = 29 then (some (bt146.2.2.2.2.2.2 == 0)) else (some false)) else (some false)) else (some false)) else (some false)) else (some false)) else (some false)) else (some false))) = some r := H
  have A3 := Aside0.mk A30
  clear A30
  replace H := Option.bind_eq_some_iff.mp H
  obtain ⟨⟨t146, t147, t148, t149, t150, t151, t152⟩, A40, H⟩ := H
  replace H : (if t140 = true then (if (t134 == 1980 && (t135 == 1 && (t136 == 1 && (t137 == 0 && (t138 == 0 && (t139 == 0)))))) = true then (if t142 = 0 then (if t143 = 0 then (if t144.toList = ([49, 57, 56, 48, 45, 48, 49, 45, 48, 49, 32, 48, 48, 58, 48, 48, 58, 48, 48] : List UInt8) then (if t145 = 0 then (if t148 = 29 then (some (t152 == 0)) else (some false)) else (some false)) else (some false)) else (some false)) else (some false)) else (some false)) else (some false)) = some r := H
  have A4 := Aside0.mk A40
  clear A40
  by_cases c5 : t140 = true
  · subst c5
    have H1 : (if (t134 == 1980 && (t135 == 1 && (t136 == 1 && (t137 == 0 && (t138 == 0 && (t139 == 0)))))) = true then (if t142 = 0 then (if t143 = 0 then (if t144.toList = ([49, 57, 56, 48, 45, 48, 49, 45, 48, 49, 32, 48, 48, 58, 48, 48, 58, 48, 48] : List UInt8) then (if t145 = 0 then (if t148 = 29 then (some (t152 == 0)) else (some false)) else (some false)) else (some false)) else (some false)) else (some false)) else (some false)) = some r := by rw [if_pos rfl] at H; exact H
    clear H
    have H := H1
    clear H1
    by_cases c6 : (t134 == 1980 && (t135 == 1 && (t136 == 1 && (t137 == 0 && (t138 == 0 && (t139 == 0)))))) = true
    · rw [if_pos c6] at H
      have c6b0 : (t134 == 1980 && (t135 == 1 && (t136 == 1 && (t137 == 0 && (t138 == 0 && (t139 == 0)))))) = true := c6
      (try (have c6b1 : decide (t134 = 1980 && (t135 == 1 && (t136 == 1 && (t137 == 0 && (t138 == 0 && (t139 == 0)))))) = true := by simpa using c6))
      (try (have c6b2 : (t134 == 1980 && (t135 == 1 && (t136 == 1 && (t137 == 0 && (t138 == 0 && (t139 == 0)))))) = true := by simpa using c6))
      clear c6
      by_cases c7 : t142 = 0
      · rw [if_pos c7] at H
        have c7b0 : (t142 == 0) = true := beq_iff_eq.mpr c7
        have c7b1 : (t142 != 0) = false := bne_eq_false_iff_eq.mpr c7
        clear c7
        by_cases c8 : t143 = 0
        · rw [if_pos c8] at H
          have c8b0 : (t143 == 0) = true := beq_iff_eq.mpr c8
          have c8b1 : (t143 != 0) = false := bne_eq_false_iff_eq.mpr c8
          clear c8
          by_cases c9 : t144.toList = ([49, 57, 56, 48, 45, 48, 49, 45, 48, 49, 32, 48, 48, 58, 48, 48, 58, 48, 48] : List UInt8)
          · rw [if_pos c9] at H
            have c9b0 : (t144.toList == ([49, 57, 56, 48, 45, 48, 49, 45, 48, 49, 32, 48, 48, 58, 48, 48, 58, 48, 48] : List UInt8)) = true := beq_iff_eq.mpr c9
            have c9b1 : (t144.toList != ([49, 57, 56, 48, 45, 48, 49, 45, 48, 49, 32, 48, 48, 58, 48, 48, 58, 48, 48] : List UInt8)) = false := bne_eq_false_iff_eq.mpr c9
            clear c9
            by_cases c10 : t145 = 0
            · rw [if_pos c10] at H
              have c10b0 : (t145 == 0) = true := beq_iff_eq.mpr c10
              have c10b1 : (t145 != 0) = false := bne_eq_false_iff_eq.mpr c10
              clear c10
              by_cases c11 : t148 = 29
              · rw [if_pos c11] at H
                have c11b0 : (t148 == 29) = true := beq_iff_eq.mpr c11
                have c11b1 : (t148 != 29) = false := bne_eq_false_iff_eq.mpr c11
                clear c11
                obtain rfl := Option.some.inj H
                simp only [Option.some.injEq, Prod.mk.injEq] at H
                obtain ⟨rfl⟩ := H
                go_enter Tryd.func30, Tryd.ntmps30
                go_wp2_with (first | ((with_reducible refine gate_callee (f := 38) rfl ?_); refine goesL_ (some 10) rfl rfl Tryd.func38 (by kernel_rfl) rfl #[.int .i64 2162688] rfl (by (try simp only [List.map_toArray, List.map_cons, List.map_nil]); first | done | rfl | (simp only [List.length_drop, List.length_take]; rfl)) ?_; (with_reducible refine (clock_Of.calls k 2162688 t134 t135 t136 t137 t138 t139 true _ A1.out).mono ?_); rintro e w12 ⟨rfl, hb⟩; refine ⟨_, rfl, ?_⟩; have n0_ := Aside0.mk (below_step (by repeat (first | (with_reducible first | exact HB.out | apply below_alloc | apply pw_below_drewN | apply below_drew1) | exact HB.out)) hb); clear HB; have HB := n0_; clear n0_; (try clear hb); (try clear hb2); (try clear hk); (try clear hi)) | ((with_reducible refine gate_dst (N := 1) rfl ?_); refine box_event ?hg (N := 1) ?hd (cs := #[.int .i64 0, .int .i64 0, .int .i64 0, .int .i64 0, .int .i64 0, .int .i64 0]) (t := 38) ?hr ?_; (case hd => rfl); (case hg => rfl); (case hr => first | (go_simp; done) | (go_simp; rfl)); intro gb141 hg w13 hbox hb; have n0_ := Aside0.mk (below_step (by repeat (first | (with_reducible first | exact HB.out | apply below_alloc | apply pw_below_drewN | apply below_drew1) | exact HB.out)) hb); have n1_ := Aside0.mk (hbox); have n2_ := Aside0.mk ((by rw [hg]; exact (below_size (by repeat (first | (with_reducible first | exact HB.out | apply below_alloc | apply pw_below_drewN | apply below_drew1) | exact HB.out))) : w.heap.size ≤ gb141)); have n3_ := Aside0.mk ((by rw [hg]; exact (below_size (by repeat (first | (with_reducible first | exact HB.out | apply below_alloc | apply pw_below_drewN | apply below_drew1) | exact HB.out))) : w.heap.size ≤ gb141)); clear HB; have HB := n0_; have BK141 := n1_; have GW141 := n2_; have GE141 := n3_; clear n0_ n1_ n2_ n3_; clear hb hbox hg; have hcz14_0 : w13.cell? ⟨gb141, 0, none⟩ = some (.int .i64 0) := (blk_cell BK141.out 0).trans rfl; have hcz14_1 : w13.cell? ⟨gb141, 1, none⟩ = some (.int .i64 0) := (blk_cell BK141.out 1).trans rfl; have hcz14_2 : w13.cell? ⟨gb141, 2, none⟩ = some (.int .i64 0) := (blk_cell BK141.out 2).trans rfl; have hcz14_3 : w13.cell? ⟨gb141, 3, none⟩ = some (.int .i64 0) := (blk_cell BK141.out 3).trans rfl; have hcz14_4 : w13.cell? ⟨gb141, 4, none⟩ = some (.int .i64 0) := (blk_cell BK141.out 4).trans rfl; have hcz14_5 : w13.cell? ⟨gb141, 5, none⟩ = some (.int .i64 0) := (blk_cell BK141.out 5).trans rfl; have hfz14_0 := blk_frozen BK141.out 0; have hfz14_1 := blk_frozen BK141.out 1; have hfz14_2 := blk_frozen BK141.out 2; have hfz14_3 := blk_frozen BK141.out 3; have hfz14_4 := blk_frozen BK141.out 4; have hfz14_5 := blk_frozen BK141.out 5) | ((with_reducible refine gate_callee (f := 32) rfl ?_); refine goesL_ (some 15) rfl rfl Tryd.func32 (by kernel_rfl) rfl #[.agg #[.int .i64 t134, .int .i64 t135, .int .i64 t136, .int .i64 t137, .int .i64 t138, .int .i64 t139]] rfl (by (try simp only [List.map_toArray, List.map_cons, List.map_nil]); first | done | rfl | (simp only [List.length_drop, List.length_take]; rfl)) ?_; (with_reducible refine (clock_Seconds.calls k t134 t135 t136 t137 t138 t139 t142 t143 _ A2.out).mono ?_); rintro e w15 ⟨rfl, hb⟩; refine ⟨_, rfl, ?_⟩; have n0_ := Aside0.mk (blk_below (g := gb141) (o := .cells #[.int .i64 t134, .int .i64 t135, .int .i64 t136, .int .i64 t137, .int .i64 t138, .int .i64 t139] 38 (0, 0)) (by (with_reducible repeat (first | refine blk_drewN ?_ _ | refine blk_drew ?_ | refine blk_alloc ?_ _)); refine blk_put (cs := #[.int .i64 t134, .int .i64 t135, .int .i64 t136, .int .i64 t137, .int .i64 t138, .int .i64 0]) ?_ 5 _ rfl; (with_reducible repeat (first | refine blk_drewN ?_ _ | refine blk_drew ?_ | refine blk_alloc ?_ _)); refine blk_put (cs := #[.int .i64 t134, .int .i64 t135, .int .i64 t136, .int .i64 t137, .int .i64 0, .int .i64 0]) ?_ 4 _ rfl; (with_reducible repeat (first | refine blk_drewN ?_ _ | refine blk_drew ?_ | refine blk_alloc ?_ _)); refine blk_put (cs := #[.int .i64 t134, .int .i64 t135, .int .i64 t136, .int .i64 0, .int .i64 0, .int .i64 0]) ?_ 3 _ rfl; (with_reducible repeat (first | refine blk_drewN ?_ _ | refine blk_drew ?_ | refine blk_alloc ?_ _)); refine blk_put (cs := #[.int .i64 t134, .int .i64 t135, .int .i64 0, .int .i64 0, .int .i64 0, .int .i64 0]) ?_ 2 _ rfl; (with_reducible repeat (first | refine blk_drewN ?_ _ | refine blk_drew ?_ | refine blk_alloc ?_ _)); refine blk_put (cs := #[.int .i64 t134, .int .i64 0, .int .i64 0, .int .i64 0, .int .i64 0, .int .i64 0]) ?_ 1 _ rfl; (with_reducible repeat (first | refine blk_drewN ?_ _ | refine blk_drew ?_ | refine blk_alloc ?_ _)); refine blk_put (cs := #[.int .i64 0, .int .i64 0, .int .i64 0, .int .i64 0, .int .i64 0, .int .i64 0]) ?_ 0 _ rfl; (with_reducible repeat (first | refine blk_drewN ?_ _ | refine blk_drew ?_ | refine blk_alloc ?_ _)); exact BK141.out) hb); have n1_ := Aside0.mk (below_step (by repeat (first | (with_reducible first | exact HB.out | apply below_alloc | apply pw_below_drewN | apply below_drew1 | refine below_set ?_ GE141.out) | exact HB.out)) hb); clear BK141; clear HB; have BK141 := n0_; have HB := n1_; clear n0_ n1_; (try clear hb); (try clear hb2); (try clear hk); (try clear hi); have hcz16_0 : w15.cell? ⟨gb141, 0, none⟩ = some (.int .i64 t134) := (blk_cell BK141.out 0).trans rfl; have hcz16_1 : w15.cell? ⟨gb141, 1, none⟩ = some (.int .i64 t135) := (blk_cell BK141.out 1).trans rfl; have hcz16_2 : w15.cell? ⟨gb141, 2, none⟩ = some (.int .i64 t136) := (blk_cell BK141.out 2).trans rfl; have hcz16_3 : w15.cell? ⟨gb141, 3, none⟩ = some (.int .i64 t137) := (blk_cell BK141.out 3).trans rfl; have hcz16_4 : w15.cell? ⟨gb141, 4, none⟩ = some (.int .i64 t138) := (blk_cell BK141.out 4).trans rfl; have hcz16_5 : w15.cell? ⟨gb141, 5, none⟩ = some (.int .i64 t139) := (blk_cell BK141.out 5).trans rfl; have hfz16_0 := blk_frozen BK141.out 0; have hfz16_1 := blk_frozen BK141.out 1; have hfz16_2 := blk_frozen BK141.out 2; have hfz16_3 := blk_frozen BK141.out 3; have hfz16_4 := blk_frozen BK141.out 4; have hfz16_5 := blk_frozen BK141.out 5) | ((with_reducible refine gate_callee (f := 33) rfl ?_); refine goesL_ (some 20) rfl rfl Tryd.func33 (by kernel_rfl) rfl #[.agg #[.int .i64 t134, .int .i64 t135, .int .i64 t136, .int .i64 t137, .int .i64 t138, .int .i64 t139]] rfl (by (try simp only [List.map_toArray, List.map_cons, List.map_nil]); first | done | rfl | (simp only [List.length_drop, List.length_take]; rfl)) ?_; (with_reducible refine (clock_Text.calls k t134 t135 t136 t137 t138 t139 t144 t145 _ A3.out (XGlob.Laid.below HL.out (by repeat (first | (with_reducible first | exact HB.out | apply below_alloc | apply pw_below_drewN | apply below_drew1 | refine below_set ?_ (Aside0.out (by assumption))) | exact HB.out)))).mono ?_); rintro e w17 ⟨rfl, hb⟩; refine ⟨_, rfl, ?_⟩; have n0_ := Aside0.mk (blk_below (g := gb141) (o := .cells #[.int .i64 t134, .int .i64 t135, .int .i64 t136, .int .i64 t137, .int .i64 t138, .int .i64 t139] 38 (0, 0)) (by (with_reducible repeat (first | refine blk_drewN ?_ _ | refine blk_drew ?_ | refine blk_alloc ?_ _)); exact BK141.out) hb); have n1_ := Aside0.mk (below_step (by repeat (first | (with_reducible first | exact HB.out | apply below_alloc | apply pw_below_drewN | apply below_drew1 | refine below_set ?_ GE141.out) | exact HB.out)) hb); clear BK141; clear HB; have BK141 := n0_; have HB := n1_; clear n0_ n1_; (try clear hb); (try clear hb2); (try clear hk); (try clear hi)) | ((with_reducible refine gate_callee (f := 41) rfl ?_); refine goesL_ (some 24) rfl rfl Tryd.func41 (by kernel_rfl) rfl #[.string (⟨#[50, 48, 48, 48, 45, 48, 50, 45, 50, 57, 32, 50, 51, 58, 53, 57, 58, 53, 56]⟩ : ByteArray)] rfl (by (try simp only [List.map_toArray, List.map_cons, List.map_nil]); first | done | rfl | (simp only [List.length_drop, List.length_take]; rfl)) ?_; (with_reducible refine (clock_Parse.calls k (⟨#[50, 48, 48, 48, 45, 48, 50, 45, 50, 57, 32, 50, 51, 58, 53, 57, 58, 53, 56]⟩ : ByteArray) t146 t147 t148 t149 t150 t151 t152 _ A4.out (XGlob.Laid.below HL.out (by repeat (first | (with_reducible first | exact HB.out | apply below_alloc | apply pw_below_drewN | apply below_drew1 | refine below_set ?_ (Aside0.out (by assumption))) | exact HB.out)))).mono ?_); rintro e w18 ⟨rfl, hb⟩; refine ⟨_, rfl, ?_⟩; have n0_ := Aside0.mk (blk_below (g := gb141) (o := .cells #[.int .i64 t134, .int .i64 t135, .int .i64 t136, .int .i64 t137, .int .i64 t138, .int .i64 t139] 38 (0, 0)) (by (with_reducible repeat (first | refine blk_drewN ?_ _ | refine blk_drew ?_ | refine blk_alloc ?_ _)); exact BK141.out) hb); have n1_ := Aside0.mk (below_step (by repeat (first | (with_reducible first | exact HB.out | apply below_alloc | apply pw_below_drewN | apply below_drew1 | refine below_set ?_ GE141.out) | exact HB.out)) hb); clear BK141; clear HB; have BK141 := n0_; have HB := n1_; clear n0_ n1_; (try clear hb); (try clear hb2); (try clear hk); (try clear hi)) | ((with_reducible refine gate_dst (N := 7) rfl ?_); refine box_event ?hg (N := 7) ?hd (cs := #[.int .i64 0, .int .i64 0, .int .i64 0, .int .i64 0, .int .i64 0, .int .i64 0]) (t := 38) ?hr ?_; (case hd => rfl); (case hg => rfl); (case hr => first | (go_simp; done) | (go_simp; rfl)); intro gb153 hg w19 hbox hb; have n0_ := Aside0.mk (blk_below (g := gb141) (o := .cells #[.int .i64 t134, .int .i64 t135, .int .i64 t136, .int .i64 t137, .int .i64 t138, .int .i64 t139] 38 (0, 0)) (by (with_reducible repeat (first | refine blk_drewN ?_ _ | refine blk_drew ?_ | refine blk_alloc ?_ _)); exact BK141.out) hb); have n1_ := Aside0.mk (below_step (by repeat (first | (with_reducible first | exact HB.out | apply below_alloc | apply pw_below_drewN | apply below_drew1 | refine below_set ?_ GE141.out) | exact HB.out)) hb); have n2_ := Aside0.mk (hbox); have n3_ := Aside0.mk ((by rw [hg]; exact (below_size (by repeat (first | (with_reducible first | exact HB.out | apply below_alloc | apply pw_below_drewN | apply below_drew1 | refine below_set ?_ GE141.out) | exact HB.out))) : w.heap.size ≤ gb153)); have n4_ := Aside0.mk ((by rw [hg]; exact (below_size (by repeat (first | (with_reducible first | exact HB.out | apply below_alloc | apply pw_below_drewN | apply below_drew1 | refine below_set ?_ GE141.out) | exact HB.out))) : w.heap.size ≤ gb153)); have n5_ := Aside0.mk ((by rw [hg]; exact Nat.ne_of_lt (blk_lt (g := gb141) (o := .cells #[.int .i64 t134, .int .i64 t135, .int .i64 t136, .int .i64 t137, .int .i64 t138, .int .i64 t139] 38 (0, 0)) (by (with_reducible repeat (first | refine blk_drewN ?_ _ | refine blk_drew ?_ | refine blk_alloc ?_ _)); exact BK141.out)) : gb141 ≠ gb153)); have n6_ := Aside0.mk ((by rw [hg]; exact Nat.ne_of_gt (blk_lt (g := gb141) (o := .cells #[.int .i64 t134, .int .i64 t135, .int .i64 t136, .int .i64 t137, .int .i64 t138, .int .i64 t139] 38 (0, 0)) (by (with_reducible repeat (first | refine blk_drewN ?_ _ | refine blk_drew ?_ | refine blk_alloc ?_ _)); exact BK141.out)) : gb153 ≠ gb141)); clear BK141; clear HB; have BK141 := n0_; have HB := n1_; have BK153 := n2_; have GW153 := n3_; have GE153 := n4_; have NB141_153 := n5_; have NB153_141 := n6_; clear n0_ n1_ n2_ n3_ n4_ n5_ n6_; clear hb hbox hg; have hnb20 := NB153_141.out; have hnc20 := NB141_153.out; have hcz21_0 : w19.cell? ⟨gb153, 0, none⟩ = some (.int .i64 0) := (blk_cell BK153.out 0).trans rfl; have hcz21_1 : w19.cell? ⟨gb153, 1, none⟩ = some (.int .i64 0) := (blk_cell BK153.out 1).trans rfl; have hcz21_2 : w19.cell? ⟨gb153, 2, none⟩ = some (.int .i64 0) := (blk_cell BK153.out 2).trans rfl; have hcz21_3 : w19.cell? ⟨gb153, 3, none⟩ = some (.int .i64 0) := (blk_cell BK153.out 3).trans rfl; have hcz21_4 : w19.cell? ⟨gb153, 4, none⟩ = some (.int .i64 0) := (blk_cell BK153.out 4).trans rfl; have hcz21_5 : w19.cell? ⟨gb153, 5, none⟩ = some (.int .i64 0) := (blk_cell BK153.out 5).trans rfl; have hfz21_0 := blk_frozen BK153.out 0; have hfz21_1 := blk_frozen BK153.out 1; have hfz21_2 := blk_frozen BK153.out 2; have hfz21_3 := blk_frozen BK153.out 3; have hfz21_4 := blk_frozen BK153.out 4; have hfz21_5 := blk_frozen BK153.out 5; have hcz22_0 : w19.cell? ⟨gb141, 0, none⟩ = some (.int .i64 t134) := (blk_cell BK141.out 0).trans rfl; have hcz22_1 : w19.cell? ⟨gb141, 1, none⟩ = some (.int .i64 t135) := (blk_cell BK141.out 1).trans rfl; have hcz22_2 : w19.cell? ⟨gb141, 2, none⟩ = some (.int .i64 t136) := (blk_cell BK141.out 2).trans rfl; have hcz22_3 : w19.cell? ⟨gb141, 3, none⟩ = some (.int .i64 t137) := (blk_cell BK141.out 3).trans rfl; have hcz22_4 : w19.cell? ⟨gb141, 4, none⟩ = some (.int .i64 t138) := (blk_cell BK141.out 4).trans rfl; have hcz22_5 : w19.cell? ⟨gb141, 5, none⟩ = some (.int .i64 t139) := (blk_cell BK141.out 5).trans rfl; have hfz22_0 := blk_frozen BK141.out 0; have hfz22_1 := blk_frozen BK141.out 1; have hfz22_2 := blk_frozen BK141.out 2; have hfz22_3 := blk_frozen BK141.out 3; have hfz22_4 := blk_frozen BK141.out 4; have hfz22_5 := blk_frozen BK141.out 5))
                go_ret
                exact ⟨by first | rfl | (simp [errW_none, errW_some] <;> rfl) | (simp [*, errW_none, errW_some] <;> rfl), by repeat (first | (with_reducible first | exact HB.out | apply below_alloc | apply pw_below_drewN | apply below_drew1 | refine below_set ?_ GE141.out | refine below_set ?_ GE153.out) | exact HB.out)⟩
              · rw [if_neg c11] at H
                have c11b0 : (t148 == 29) = false := beq_eq_false_iff_ne.mpr c11
                have c11b1 : (t148 != 29) = true := bne_iff_ne.mpr c11
                obtain rfl := Option.some.inj H
                cases hr_.out
            · rw [if_neg c10] at H
              have c10b0 : (t145 == 0) = false := beq_eq_false_iff_ne.mpr c10
              have c10b1 : (t145 != 0) = true := bne_iff_ne.mpr c10
              obtain rfl := Option.some.inj H
              cases hr_.out
          · rw [if_neg c9] at H
            have c9b0 : (t144.toList == ([49, 57, 56, 48, 45, 48, 49, 45, 48, 49, 32, 48, 48, 58, 48, 48, 58, 48, 48] : List UInt8)) = false := beq_eq_false_iff_ne.mpr c9
            have c9b1 : (t144.toList != ([49, 57, 56, 48, 45, 48, 49, 45, 48, 49, 32, 48, 48, 58, 48, 48, 58, 48, 48] : List UInt8)) = true := bne_iff_ne.mpr c9
            obtain rfl := Option.some.inj H
            cases hr_.out
        · rw [if_neg c8] at H
          have c8b0 : (t143 == 0) = false := beq_eq_false_iff_ne.mpr c8
          have c8b1 : (t143 != 0) = true := bne_iff_ne.mpr c8
          obtain rfl := Option.some.inj H
          cases hr_.out
      · rw [if_neg c7] at H
        have c7b0 : (t142 == 0) = false := beq_eq_false_iff_ne.mpr c7
        have c7b1 : (t142 != 0) = true := bne_iff_ne.mpr c7
        obtain rfl := Option.some.inj H
        cases hr_.out
    · rw [if_neg c6] at H
      have c6b0 : (t134 == 1980 && (t135 == 1 && (t136 == 1 && (t137 == 0 && (t138 == 0 && (t139 == 0)))))) = false := by simpa using c6
      (try (have c6b1 : decide (t134 = 1980 && (t135 == 1 && (t136 == 1 && (t137 == 0 && (t138 == 0 && (t139 == 0)))))) = false := by simpa using c6))
      (try (have c6b2 : (t134 == 1980 && (t135 == 1 && (t136 == 1 && (t137 == 0 && (t138 == 0 && (t139 == 0)))))) = false := by simpa using c6))
      (try (have c6b3 : ¬ (t134 = 1980 && (t135 == 1 && (t136 == 1 && (t137 == 0 && (t138 == 0 && (t139 == 0)))))) := by simpa using c6))
      clear c6
      obtain rfl := Option.some.inj H
      cases hr_.out
  · replace c5 := Bool.eq_false_iff.mpr c5
    subst c5
    have H1 : (some false) = some r := by rw [if_neg (show ¬ (false = true) by decide)] at H; exact H
    clear H
    have H := H1
    clear H1
    obtain rfl := Option.some.inj H
    cases hr_.out

/-! ### clock_Put: function 31 -/
def clock_Put.f (k : Nat) (a0_0 : Int) (a0_1 : Int) (a0_2 : Int) (a0_3 : Int) (a0_4 : Int) (a0_5 : Int) : Option (Int × Int) := (clock_right.f k a0_0 a0_1 a0_2 a0_3 a0_4 a0_5).bind fun t155 => (if t155 = true then (some (Go.bits .or .i64 (Go.bits .or .i64 (Go.bits .or .i64 (Go.bits .or .i64 (Go.bits .or .i64 (wrap64 ((wrap64 (a0_0 - 1980)) * 33554432)) (wrap64 (a0_1 * 2097152))) (wrap64 (a0_2 * 65536))) (wrap64 (a0_3 * 2048))) (wrap64 (a0_4 * 32))) (wrap64 (Int.tdiv a0_5 2)), 0)) else (some (0, 1)))
theorem clock_Put.mono : ∀ a0 a1 a2 a3 a4 a5 k, LeO (clock_Put.f k a0 a1 a2 a3 a4 a5) (clock_Put.f (k + 1) a0 a1 a2 a3 a4 a5) := by
  intro a0 a1 a2 a3 a4 a5 k
  unfold clock_Put.f
  repeat' first
      | (with_reducible exact clock_right.mono _ _ _ _ _ _ _)
      | (with_reducible exact LeO.refl _)
      | (with_reducible exact LeO.none _)
      | (with_reducible refine LeO.ite ?_ ?_)
      | (with_reducible refine LeO.bind ?_ (fun _ => ?_))
      | exact clock_right.mono _ _ _ _ _ _ _
      | exact LeO.none _
      | refine LeO.ite ?_ ?_
      | refine LeO.bind ?_ (fun _ => ?_)
set_option maxHeartbeats 8000000 in
set_option maxRecDepth 100000 in
theorem clock_Put.calls (k : Nat) (a0_0 : Int) (a0_1 : Int) (a0_2 : Int) (a0_3 : Int) (a0_4 : Int) (a0_5 : Int) (r1 : Int) (r2 : Int) (w : World) (h : clock_Put.f k a0_0 a0_1 a0_2 a0_3 a0_4 a0_5 = some (r1, r2)) :
    Calls Tryd.prog 31 #[.agg #[.int .i64 a0_0, .int .i64 a0_1, .int .i64 a0_2, .int .i64 a0_3, .int .i64 a0_4, .int .i64 a0_5]] w fun e w' => e = .returned (.tuple #[.int .i64 r1, .int .i64 r2]) ∧ Below w.heap.size w w' := by
  have hu38 := Tryd.underlying38
  have HB := Aside0.mk (Below.refl w.heap.size w)
  have H : ((clock_right.f k a0_0 a0_1 a0_2 a0_3 a0_4 a0_5).bind fun t155 => (if t155 = true then (some (Go.bits .or .i64 (Go.bits .or .i64 (Go.bits .or .i64 (Go.bits .or .i64 (Go.bits .or .i64 (wrap64 ((wrap64 (a0_0 - 1980)) * 33554432)) (wrap64 (a0_1 * 2097152))) (wrap64 (a0_2 * 65536))) (wrap64 (a0_3 * 2048))) (wrap64 (a0_4 * 32))) (wrap64 (Int.tdiv a0_5 2)), 0)) else (some (0, 1)))) = some (r1, r2) := h
  clear h
  replace H := Option.bind_eq_some_iff.mp H
  obtain ⟨t155, A20, H⟩ := H
  replace H : (if t155 = true then (some (Go.bits .or .i64 (Go.bits .or .i64 (Go.bits .or .i64 (Go.bits .or .i64 (Go.bits .or .i64 (wrap64 ((wrap64 (a0_0 - 1980)) * 33554432)) (wrap64 (a0_1 * 2097152))) (wrap64 (a0_2 * 65536))) (wrap64 (a0_3 * 2048))) (wrap64 (a0_4 * 32))) (wrap64 (Int.tdiv a0_5 2)), 0)) else (some (0, 1))) = some (r1, r2) := H
  have A2 := Aside0.mk A20
  clear A20
  by_cases c3 : t155 = true
  · subst c3
    have H1 : (some (Go.bits .or .i64 (Go.bits .or .i64 (Go.bits .or .i64 (Go.bits .or .i64 (Go.bits .or .i64 (wrap64 ((wrap64 (a0_0 - 1980)) * 33554432)) (wrap64 (a0_1 * 2097152))) (wrap64 (a0_2 * 65536))) (wrap64 (a0_3 * 2048))) (wrap64 (a0_4 * 32))) (wrap64 (Int.tdiv a0_5 2)), 0)) = some (r1, r2) := by rw [if_pos rfl] at H; exact H
    clear H
    have H := H1
    clear H1
    simp only [Option.some.injEq, Prod.mk.injEq] at H
    obtain ⟨rfl, rfl⟩ := H
    go_enter Tryd.func31, Tryd.ntmps31
    go_wp2_with (first | ((with_reducible refine gate_dst (N := 1) rfl ?_); refine box_event ?hg (N := 1) ?hd (cs := #[.int .i64 a0_0, .int .i64 a0_1, .int .i64 a0_2, .int .i64 a0_3, .int .i64 a0_4, .int .i64 a0_5]) (t := 38) ?hr ?_; (case hd => rfl); (case hg => rfl); (case hr => first | (go_simp; done) | (go_simp; rfl)); intro gb154 hg w4 hbox hb; have n0_ := Aside0.mk (below_step (by repeat (first | (with_reducible first | exact HB.out | apply below_alloc | apply pw_below_drewN | apply below_drew1) | exact HB.out)) hb); have n1_ := Aside0.mk (hbox); have n2_ := Aside0.mk ((by rw [hg]; exact (below_size (by repeat (first | (with_reducible first | exact HB.out | apply below_alloc | apply pw_below_drewN | apply below_drew1) | exact HB.out))) : w.heap.size ≤ gb154)); have n3_ := Aside0.mk ((by rw [hg]; exact (below_size (by repeat (first | (with_reducible first | exact HB.out | apply below_alloc | apply pw_below_drewN | apply below_drew1) | exact HB.out))) : w.heap.size ≤ gb154)); clear HB; have HB := n0_; have BK154 := n1_; have GW154 := n2_; have GE154 := n3_; clear n0_ n1_ n2_ n3_; clear hb hbox hg; have hcz5_0 : w4.cell? ⟨gb154, 0, none⟩ = some (.int .i64 a0_0) := (blk_cell BK154.out 0).trans rfl; have hcz5_1 : w4.cell? ⟨gb154, 1, none⟩ = some (.int .i64 a0_1) := (blk_cell BK154.out 1).trans rfl; have hcz5_2 : w4.cell? ⟨gb154, 2, none⟩ = some (.int .i64 a0_2) := (blk_cell BK154.out 2).trans rfl; have hcz5_3 : w4.cell? ⟨gb154, 3, none⟩ = some (.int .i64 a0_3) := (blk_cell BK154.out 3).trans rfl; have hcz5_4 : w4.cell? ⟨gb154, 4, none⟩ = some (.int .i64 a0_4) := (blk_cell BK154.out 4).trans rfl; have hcz5_5 : w4.cell? ⟨gb154, 5, none⟩ = some (.int .i64 a0_5) := (blk_cell BK154.out 5).trans rfl; have hfz5_0 := blk_frozen BK154.out 0; have hfz5_1 := blk_frozen BK154.out 1; have hfz5_2 := blk_frozen BK154.out 2; have hfz5_3 := blk_frozen BK154.out 3; have hfz5_4 := blk_frozen BK154.out 4; have hfz5_5 := blk_frozen BK154.out 5) | ((with_reducible refine gate_callee (f := 77) rfl ?_); refine goesL_ (some 5) rfl rfl Tryd.func77 (by kernel_rfl) rfl #[.agg #[.int .i64 a0_0, .int .i64 a0_1, .int .i64 a0_2, .int .i64 a0_3, .int .i64 a0_4, .int .i64 a0_5]] rfl (by (try simp only [List.map_toArray, List.map_cons, List.map_nil]); first | done | rfl | (simp only [List.length_drop, List.length_take]; rfl)) ?_; (with_reducible refine (clock_right.calls k a0_0 a0_1 a0_2 a0_3 a0_4 a0_5 true _ A2.out).mono ?_); rintro e w6 ⟨rfl, hb⟩; refine ⟨_, rfl, ?_⟩; have n0_ := Aside0.mk (blk_below (g := gb154) (o := .cells #[.int .i64 a0_0, .int .i64 a0_1, .int .i64 a0_2, .int .i64 a0_3, .int .i64 a0_4, .int .i64 a0_5] 38 (0, 0)) (by (with_reducible repeat (first | refine blk_drewN ?_ _ | refine blk_drew ?_ | refine blk_alloc ?_ _)); exact BK154.out) hb); have n1_ := Aside0.mk (below_step (by repeat (first | (with_reducible first | exact HB.out | apply below_alloc | apply pw_below_drewN | apply below_drew1 | refine below_set ?_ GE154.out) | exact HB.out)) hb); clear BK154; clear HB; have BK154 := n0_; have HB := n1_; clear n0_ n1_; (try clear hb); (try clear hb2); (try clear hk); (try clear hi); have hcz7_0 : w6.cell? ⟨gb154, 0, none⟩ = some (.int .i64 a0_0) := (blk_cell BK154.out 0).trans rfl; have hcz7_1 : w6.cell? ⟨gb154, 1, none⟩ = some (.int .i64 a0_1) := (blk_cell BK154.out 1).trans rfl; have hcz7_2 : w6.cell? ⟨gb154, 2, none⟩ = some (.int .i64 a0_2) := (blk_cell BK154.out 2).trans rfl; have hcz7_3 : w6.cell? ⟨gb154, 3, none⟩ = some (.int .i64 a0_3) := (blk_cell BK154.out 3).trans rfl; have hcz7_4 : w6.cell? ⟨gb154, 4, none⟩ = some (.int .i64 a0_4) := (blk_cell BK154.out 4).trans rfl; have hcz7_5 : w6.cell? ⟨gb154, 5, none⟩ = some (.int .i64 a0_5) := (blk_cell BK154.out 5).trans rfl; have hfz7_0 := blk_frozen BK154.out 0; have hfz7_1 := blk_frozen BK154.out 1; have hfz7_2 := blk_frozen BK154.out 2; have hfz7_3 := blk_frozen BK154.out 3; have hfz7_4 := blk_frozen BK154.out 4; have hfz7_5 := blk_frozen BK154.out 5))
    go_ret2
    exact ⟨by first | rfl | (simp [errW_none, errW_some] <;> rfl) | (simp [*, errW_none, errW_some] <;> rfl), by repeat (first | (with_reducible first | exact HB.out | apply below_alloc | apply pw_below_drewN | apply below_drew1 | refine below_set ?_ GE154.out) | exact HB.out)⟩
  · replace c3 := Bool.eq_false_iff.mpr c3
    subst c3
    have H1 : (some (0, 1)) = some (r1, r2) := by rw [if_neg (show ¬ (false = true) by decide)] at H; exact H
    clear H
    have H := H1
    clear H1
    simp only [Option.some.injEq, Prod.mk.injEq] at H
    obtain ⟨rfl, rfl⟩ := H
    go_enter Tryd.func31, Tryd.ntmps31
    go_wp2_with (first | ((with_reducible refine gate_dst (N := 1) rfl ?_); refine box_event ?hg (N := 1) ?hd (cs := #[.int .i64 a0_0, .int .i64 a0_1, .int .i64 a0_2, .int .i64 a0_3, .int .i64 a0_4, .int .i64 a0_5]) (t := 38) ?hr ?_; (case hd => rfl); (case hg => rfl); (case hr => first | (go_simp; done) | (go_simp; rfl)); intro gb154 hg w8 hbox hb; have n0_ := Aside0.mk (below_step (by repeat (first | (with_reducible first | exact HB.out | apply below_alloc | apply pw_below_drewN | apply below_drew1) | exact HB.out)) hb); have n1_ := Aside0.mk (hbox); have n2_ := Aside0.mk ((by rw [hg]; exact (below_size (by repeat (first | (with_reducible first | exact HB.out | apply below_alloc | apply pw_below_drewN | apply below_drew1) | exact HB.out))) : w.heap.size ≤ gb154)); have n3_ := Aside0.mk ((by rw [hg]; exact (below_size (by repeat (first | (with_reducible first | exact HB.out | apply below_alloc | apply pw_below_drewN | apply below_drew1) | exact HB.out))) : w.heap.size ≤ gb154)); clear HB; have HB := n0_; have BK154 := n1_; have GW154 := n2_; have GE154 := n3_; clear n0_ n1_ n2_ n3_; clear hb hbox hg; have hcz9_0 : w8.cell? ⟨gb154, 0, none⟩ = some (.int .i64 a0_0) := (blk_cell BK154.out 0).trans rfl; have hcz9_1 : w8.cell? ⟨gb154, 1, none⟩ = some (.int .i64 a0_1) := (blk_cell BK154.out 1).trans rfl; have hcz9_2 : w8.cell? ⟨gb154, 2, none⟩ = some (.int .i64 a0_2) := (blk_cell BK154.out 2).trans rfl; have hcz9_3 : w8.cell? ⟨gb154, 3, none⟩ = some (.int .i64 a0_3) := (blk_cell BK154.out 3).trans rfl; have hcz9_4 : w8.cell? ⟨gb154, 4, none⟩ = some (.int .i64 a0_4) := (blk_cell BK154.out 4).trans rfl; have hcz9_5 : w8.cell? ⟨gb154, 5, none⟩ = some (.int .i64 a0_5) := (blk_cell BK154.out 5).trans rfl; have hfz9_0 := blk_frozen BK154.out 0; have hfz9_1 := blk_frozen BK154.out 1; have hfz9_2 := blk_frozen BK154.out 2; have hfz9_3 := blk_frozen BK154.out 3; have hfz9_4 := blk_frozen BK154.out 4; have hfz9_5 := blk_frozen BK154.out 5) | ((with_reducible refine gate_callee (f := 77) rfl ?_); refine goesL_ (some 5) rfl rfl Tryd.func77 (by kernel_rfl) rfl #[.agg #[.int .i64 a0_0, .int .i64 a0_1, .int .i64 a0_2, .int .i64 a0_3, .int .i64 a0_4, .int .i64 a0_5]] rfl (by (try simp only [List.map_toArray, List.map_cons, List.map_nil]); first | done | rfl | (simp only [List.length_drop, List.length_take]; rfl)) ?_; (with_reducible refine (clock_right.calls k a0_0 a0_1 a0_2 a0_3 a0_4 a0_5 false _ A2.out).mono ?_); rintro e w10 ⟨rfl, hb⟩; refine ⟨_, rfl, ?_⟩; have n0_ := Aside0.mk (blk_below (g := gb154) (o := .cells #[.int .i64 a0_0, .int .i64 a0_1, .int .i64 a0_2, .int .i64 a0_3, .int .i64 a0_4, .int .i64 a0_5] 38 (0, 0)) (by (with_reducible repeat (first | refine blk_drewN ?_ _ | refine blk_drew ?_ | refine blk_alloc ?_ _)); exact BK154.out) hb); have n1_ := Aside0.mk (below_step (by repeat (first | (with_reducible first | exact HB.out | apply below_alloc | apply pw_below_drewN | apply below_drew1 | refine below_set ?_ GE154.out) | exact HB.out)) hb); clear BK154; clear HB; have BK154 := n0_; have HB := n1_; clear n0_ n1_; (try clear hb); (try clear hb2); (try clear hk); (try clear hi)))
    go_ret2
    exact ⟨by first | rfl | (simp [errW_none, errW_some] <;> rfl) | (simp [*, errW_none, errW_some] <;> rfl), by repeat (first | (with_reducible first | exact HB.out | apply below_alloc | apply pw_below_drewN | apply below_drew1 | refine below_set ?_ GE154.out) | exact HB.out)⟩

/-! ### montageref41_days: function 81 -/
def montageref41_days.j0 : Nat → Bool → Option (Int)
  | 0, _ => none
  | k + 1, x19 => if x19 = true then (some 29) else (some 28)
def montageref41_days.f (k : Nat) (a0 : Int) (a1 : Int) : Option (Int) := if a1 = 2 then (if (Int.tmod a0 4) = 0 then (if (Int.tmod a0 100) = 0 then (montageref41_days.j0 k ((Int.tmod a0 400) == 0)) else (montageref41_days.j0 k true)) else (montageref41_days.j0 k ((Int.tmod a0 400) == 0))) else (if a1 = 4 then (some 30) else (if a1 = 6 then (some 30) else (if a1 = 9 then (some 30) else (if a1 = 11 then (some 30) else (some 31)))))
theorem montageref41_days.mono_l : ∀ k, (∀ y0, LeO (montageref41_days.j0 k y0) (montageref41_days.j0 (k + 1) y0))
  | 0 => fun _ r h => by simp [montageref41_days.j0] at h
  | k + 1 => by
    have ih0 := montageref41_days.mono_l k
    · intro y0
      unfold montageref41_days.j0
      repeat' first
      | (with_reducible exact ih0 _)
      | (with_reducible exact LeO.refl _)
      | (with_reducible exact LeO.none _)
      | (with_reducible refine LeO.ite ?_ ?_)
      | (with_reducible refine LeO.bind ?_ (fun _ => ?_))
      | exact ih0 _
      | exact LeO.none _
      | refine LeO.ite ?_ ?_
      | refine LeO.bind ?_ (fun _ => ?_)
theorem montageref41_days.mono : ∀ a0 a1 k, LeO (montageref41_days.f k a0 a1) (montageref41_days.f (k + 1) a0 a1) := by
  intro a0 a1 k
  have ih0 := montageref41_days.mono_l k
  unfold montageref41_days.f
  repeat' first
      | (with_reducible exact ih0 _)
      | (with_reducible exact LeO.refl _)
      | (with_reducible exact LeO.none _)
      | (with_reducible refine LeO.ite ?_ ?_)
      | (with_reducible refine LeO.bind ?_ (fun _ => ?_))
      | exact ih0 _
      | exact LeO.none _
      | refine LeO.ite ?_ ?_
      | refine LeO.bind ?_ (fun _ => ?_)
set_option maxHeartbeats 8000000 in
set_option maxRecDepth 100000 in
theorem montageref41_days.calls (k : Nat) (a0 : Int) (a1 : Int) (r : Int) (w : World) (h : montageref41_days.f k a0 a1 = some r) :
    Calls Tryd.prog 81 #[.int .i64 a0, .int .i64 a1] w fun e w' => e = .returned (.int .i64 r) ∧ Drawn0 w w' := by
  have H : (if a1 = 2 then (if (Int.tmod a0 4) = 0 then (if (Int.tmod a0 100) = 0 then (montageref41_days.j0 k ((Int.tmod a0 400) == 0)) else (montageref41_days.j0 k true)) else (montageref41_days.j0 k ((Int.tmod a0 400) == 0))) else (if a1 = 4 then (some 30) else (if a1 = 6 then (some 30) else (if a1 = 9 then (some 30) else (if a1 = 11 then (some 30) else (some 31)))))) = some r := h
  clear h
  by_cases c3 : a1 = 2
  · rw [if_pos c3] at H
    have c3b0 : (a1 == 2) = true := beq_iff_eq.mpr c3
    have c3b1 : (a1 != 2) = false := bne_eq_false_iff_eq.mpr c3
    clear c3
    have HC4 := Aside0.mk H
    clear H
    go_enter Tryd.func81, Tryd.ntmps81
    go_upto_region 2 with (fail)
    go_cut [19] (fun v19 wc => ∃ (kq : Nat) (x19_3 : Bool), v19 = .bool x19_3 ∧ Aside0 (montageref41_days.j0 kq x19_3 = some r) ∧ Aside0 (kq ≤ k) ∧ Drawn0 w wc)
    case first =>
      have H := HC4.out
      clear HC4
      by_cases c5 : (Int.tmod a0 4) = 0
      · rw [if_pos c5] at H
        have c5b0 : ((Int.tmod a0 4) == 0) = true := beq_iff_eq.mpr c5
        have c5b1 : ((Int.tmod a0 4) != 0) = false := bne_eq_false_iff_eq.mpr c5
        clear c5
        (first | rw [c5b0] | (simp only [i64_w, i32_w]; rw [c5b0]) | skip)
        by_cases c6 : (Int.tmod a0 100) = 0
        · rw [if_pos c6] at H
          have c6b0 : ((Int.tmod a0 100) == 0) = true := beq_iff_eq.mpr c6
          have c6b1 : ((Int.tmod a0 100) != 0) = false := bne_eq_false_iff_eq.mpr c6
          clear c6
          have H' := Aside0.mk H
          clear H
          go_wp2
          go_meet
          case rel => exact ⟨_, (((Int.tmod a0 400) == 0)), (by first | rfl | (simp; done) | (simp [*]; done)), H', ⟨by first | omega | exact Nat.le_refl _⟩, by repeat (first | exact Drawn0.refl _ | apply Drawn0.step)⟩
        · rw [if_neg c6] at H
          have c6b0 : ((Int.tmod a0 100) == 0) = false := beq_eq_false_iff_ne.mpr c6
          have c6b1 : ((Int.tmod a0 100) != 0) = true := bne_iff_ne.mpr c6
          have H' := Aside0.mk H
          clear H
          go_wp2
          go_meet
          case rel => exact ⟨_, (true), (by first | rfl | (simp; done) | (simp [*]; done)), H', ⟨by first | omega | exact Nat.le_refl _⟩, by repeat (first | exact Drawn0.refl _ | apply Drawn0.step)⟩
      · rw [if_neg c5] at H
        have c5b0 : ((Int.tmod a0 4) == 0) = false := beq_eq_false_iff_ne.mpr c5
        have c5b1 : ((Int.tmod a0 4) != 0) = true := bne_iff_ne.mpr c5
        (first | rw [c5b0] | (simp only [i64_w, i32_w]; rw [c5b0]) | skip)
        have H' := Aside0.mk H
        clear H
        go_wp2
        go_meet
        case rel => exact ⟨_, (((Int.tmod a0 400) == 0)), (by first | rfl | (simp; done) | (simp [*]; done)), H', ⟨by first | omega | exact Nat.le_refl _⟩, by repeat (first | exact Drawn0.refl _ | apply Drawn0.step)⟩
    case rest =>
      clear HC4
      try clear p2
      try clear c3
      try clear c3b0
      try clear c3b1
      try clear c5
      try clear c5b0
      try clear c5b1
      try clear c6
      try clear c6b0
      try clear c6b1
      obtain ⟨kq, x19_3, rfl, HA, HJ3, ⟨mc3, rfl⟩⟩ := hcut
      cases kq with
      | zero => exact absurd HA.out (by simp [montageref41_days.j0])
      | succ kj3 =>
        have H := HA.out
        clear HA
        simp only [montageref41_days.j0] at H
        by_cases c7 : x19_3 = true
        · subst c7
          have H1 : (some 29) = some r := by rw [if_pos rfl] at H; exact H
          clear H
          have H := H1
          clear H1
          obtain rfl := Option.some.inj H
          simp only [Option.some.injEq, Prod.mk.injEq] at H
          obtain ⟨rfl⟩ := H
          go_wp2
          go_ret
          exact ⟨by first | rfl | (simp; done) | (simp [*]; done), by repeat (first | exact Drawn0.refl _ | apply Drawn0.step)⟩
        · replace c7 := Bool.eq_false_iff.mpr c7
          subst c7
          have H1 : (some 28) = some r := by rw [if_neg (show ¬ (false = true) by decide)] at H; exact H
          clear H
          have H := H1
          clear H1
          obtain rfl := Option.some.inj H
          simp only [Option.some.injEq, Prod.mk.injEq] at H
          obtain ⟨rfl⟩ := H
          go_wp2
          go_ret
          exact ⟨by first | rfl | (simp; done) | (simp [*]; done), by repeat (first | exact Drawn0.refl _ | apply Drawn0.step)⟩
  · rw [if_neg c3] at H
    have c3b0 : (a1 == 2) = false := beq_eq_false_iff_ne.mpr c3
    have c3b1 : (a1 != 2) = true := bne_iff_ne.mpr c3
    by_cases c8 : a1 = 4
    · rw [if_pos c8] at H
      have c8b0 : (a1 == 4) = true := beq_iff_eq.mpr c8
      have c8b1 : (a1 != 4) = false := bne_eq_false_iff_eq.mpr c8
      clear c8
      obtain rfl := Option.some.inj H
      simp only [Option.some.injEq, Prod.mk.injEq] at H
      obtain ⟨rfl⟩ := H
      go_enter Tryd.func81, Tryd.ntmps81
      go_wp2
      go_ret
      exact ⟨by first | rfl | (simp; done) | (simp [*]; done), by repeat (first | exact Drawn0.refl _ | apply Drawn0.step)⟩
    · rw [if_neg c8] at H
      have c8b0 : (a1 == 4) = false := beq_eq_false_iff_ne.mpr c8
      have c8b1 : (a1 != 4) = true := bne_iff_ne.mpr c8
      by_cases c9 : a1 = 6
      · rw [if_pos c9] at H
        have c9b0 : (a1 == 6) = true := beq_iff_eq.mpr c9
        have c9b1 : (a1 != 6) = false := bne_eq_false_iff_eq.mpr c9
        clear c9
        obtain rfl := Option.some.inj H
        simp only [Option.some.injEq, Prod.mk.injEq] at H
        obtain ⟨rfl⟩ := H
        go_enter Tryd.func81, Tryd.ntmps81
        go_wp2
        go_ret
        exact ⟨by first | rfl | (simp; done) | (simp [*]; done), by repeat (first | exact Drawn0.refl _ | apply Drawn0.step)⟩
      · rw [if_neg c9] at H
        have c9b0 : (a1 == 6) = false := beq_eq_false_iff_ne.mpr c9
        have c9b1 : (a1 != 6) = true := bne_iff_ne.mpr c9
        by_cases c10 : a1 = 9
        · rw [if_pos c10] at H
          have c10b0 : (a1 == 9) = true := beq_iff_eq.mpr c10
          have c10b1 : (a1 != 9) = false := bne_eq_false_iff_eq.mpr c10
          clear c10
          obtain rfl := Option.some.inj H
          simp only [Option.some.injEq, Prod.mk.injEq] at H
          obtain ⟨rfl⟩ := H
          go_enter Tryd.func81, Tryd.ntmps81
          go_wp2
          go_ret
          exact ⟨by first | rfl | (simp; done) | (simp [*]; done), by repeat (first | exact Drawn0.refl _ | apply Drawn0.step)⟩
        · rw [if_neg c10] at H
          have c10b0 : (a1 == 9) = false := beq_eq_false_iff_ne.mpr c10
          have c10b1 : (a1 != 9) = true := bne_iff_ne.mpr c10
          by_cases c11 : a1 = 11
          · rw [if_pos c11] at H
            have c11b0 : (a1 == 11) = true := beq_iff_eq.mpr c11
            have c11b1 : (a1 != 11) = false := bne_eq_false_iff_eq.mpr c11
            clear c11
            obtain rfl := Option.some.inj H
            simp only [Option.some.injEq, Prod.mk.injEq] at H
            obtain ⟨rfl⟩ := H
            go_enter Tryd.func81, Tryd.ntmps81
            go_wp2
            go_ret
            exact ⟨by first | rfl | (simp; done) | (simp [*]; done), by repeat (first | exact Drawn0.refl _ | apply Drawn0.step)⟩
          · rw [if_neg c11] at H
            have c11b0 : (a1 == 11) = false := beq_eq_false_iff_ne.mpr c11
            have c11b1 : (a1 != 11) = true := bne_iff_ne.mpr c11
            obtain rfl := Option.some.inj H
            simp only [Option.some.injEq, Prod.mk.injEq] at H
            obtain ⟨rfl⟩ := H
            go_enter Tryd.func81, Tryd.ntmps81
            go_wp2
            go_ret
            exact ⟨by first | rfl | (simp; done) | (simp [*]; done), by repeat (first | exact Drawn0.refl _ | apply Drawn0.step)⟩

/-! ### montageref41_May: function 34 -/
-- rounds: yes making: yes
-- uses: montage/montageref41.days
def mayB (n h mi s d : Int) : Bool := decide (1 ≤ d) && (decide (d ≤ n) && (decide (0 ≤ h) && (decide (h ≤ 23) && (decide (0 ≤ mi) && (decide (mi ≤ 59) && (decide (0 ≤ s) && (decide (s ≤ 58) && (s % 2 == 0))))))))
def montageref41_May.f (k : Nat) (y mo d h mi s : Int) : Option Bool := if y < 1980 ∨ 2107 < y ∨ mo < 1 ∨ 12 < mo then some false else (montageref41_days.f k y mo).bind fun n => some (mayB n h mi s d)
theorem montageref41_May.mono : ∀ a0 a1 a2 a3 a4 a5 k, LeO (montageref41_May.f k a0 a1 a2 a3 a4 a5) (montageref41_May.f (k + 1) a0 a1 a2 a3 a4 a5) := by
  intro a0 a1 a2 a3 a4 a5 k
  unfold montageref41_May.f
  exact LeO.ite (LeO.refl _) (LeO.bind (montageref41_days.mono _ _ _) fun _ => LeO.refl _)
set_option maxHeartbeats 1600000 in
set_option maxRecDepth 100000 in
theorem may_no0 (y mo d h mi s n : Int) (w : World) (t0 : y < 1980) :
    Calls Tryd.prog 34 #[.agg #[.int .i64 y, .int .i64 mo, .int .i64 d, .int .i64 h, .int .i64 mi, .int .i64 s]] w fun e w' => e = .returned (.bool false) ∧ Below w.heap.size w w' := by
  have e0 : decide (y < 1980) = true := decide_eq_true t0
  go_enter Tryd.func34, Tryd.ntmps34
  go_wp2
  go_ret
  exact ⟨rfl, below_alloc (Below.refl _ _) _⟩
set_option maxHeartbeats 1600000 in
set_option maxRecDepth 100000 in
theorem may_no1 (y mo d h mi s n : Int) (w : World) (t0 : ¬ y < 1980) (t1 : y > 2107) :
    Calls Tryd.prog 34 #[.agg #[.int .i64 y, .int .i64 mo, .int .i64 d, .int .i64 h, .int .i64 mi, .int .i64 s]] w fun e w' => e = .returned (.bool false) ∧ Below w.heap.size w w' := by
  have e0 : decide (y < 1980) = false := decide_eq_false t0
  have e1 : decide (y > 2107) = true := decide_eq_true t1
  go_enter Tryd.func34, Tryd.ntmps34
  go_wp2
  go_ret
  exact ⟨rfl, below_alloc (Below.refl _ _) _⟩
set_option maxHeartbeats 1600000 in
set_option maxRecDepth 100000 in
theorem may_no2 (y mo d h mi s n : Int) (w : World) (t0 : ¬ y < 1980) (t1 : ¬ y > 2107) (t2 : mo < 1) :
    Calls Tryd.prog 34 #[.agg #[.int .i64 y, .int .i64 mo, .int .i64 d, .int .i64 h, .int .i64 mi, .int .i64 s]] w fun e w' => e = .returned (.bool false) ∧ Below w.heap.size w w' := by
  have e0 : decide (y < 1980) = false := decide_eq_false t0
  have e1 : decide (y > 2107) = false := decide_eq_false t1
  have e2 : decide (mo < 1) = true := decide_eq_true t2
  go_enter Tryd.func34, Tryd.ntmps34
  go_wp2
  go_ret
  exact ⟨rfl, below_alloc (Below.refl _ _) _⟩
set_option maxHeartbeats 1600000 in
set_option maxRecDepth 100000 in
theorem may_no3 (y mo d h mi s n : Int) (w : World) (t0 : ¬ y < 1980) (t1 : ¬ y > 2107) (t2 : ¬ mo < 1) (t3 : mo > 12) :
    Calls Tryd.prog 34 #[.agg #[.int .i64 y, .int .i64 mo, .int .i64 d, .int .i64 h, .int .i64 mi, .int .i64 s]] w fun e w' => e = .returned (.bool false) ∧ Below w.heap.size w w' := by
  have e0 : decide (y < 1980) = false := decide_eq_false t0
  have e1 : decide (y > 2107) = false := decide_eq_false t1
  have e2 : decide (mo < 1) = false := decide_eq_false t2
  have e3 : decide (mo > 12) = true := decide_eq_true t3
  go_enter Tryd.func34, Tryd.ntmps34
  go_wp2
  go_ret
  exact ⟨rfl, below_alloc (Below.refl _ _) _⟩
set_option maxHeartbeats 1600000 in
set_option maxRecDepth 100000 in
theorem may_leaf0 (y mo d h mi s n : Int) (w : World) (t0 : ¬ y < 1980) (t1 : ¬ y > 2107) (t2 : ¬ mo < 1) (t3 : ¬ mo > 12) (HD : Aside0 (∀ W : World, Calls Tryd.prog 81 #[.int .i64 y, .int .i64 mo] W fun e w' => e = .returned (.int .i64 n) ∧ Drawn0 W w')) (c0 : ¬ 1 ≤ d) :
    Calls Tryd.prog 34 #[.agg #[.int .i64 y, .int .i64 mo, .int .i64 d, .int .i64 h, .int .i64 mi, .int .i64 s]] w fun e w' => e = .returned (.bool false) ∧ Below w.heap.size w w' := by
  have e0 : decide (y < 1980) = false := decide_eq_false t0
  have e1 : decide (y > 2107) = false := decide_eq_false t1
  have e2 : decide (mo < 1) = false := decide_eq_false t2
  have e3 : decide (mo > 12) = false := decide_eq_false t3
  have d0 : decide (1 ≤ d) = false := decide_eq_false c0
  have d0b : decide (d ≥ 1) = false := decide_eq_false c0
  go_enter Tryd.func34, Tryd.ntmps34
  go_wp2
  go_quiet ((go_at_call 81; exact Calls.quiet_of ((HD.out _).mono fun e w' h => ⟨h.1, h.2.out⟩)))
  go_wp2
  go_ret
  exact ⟨by first | rfl | simp [*], pw_below_drewN (below_alloc (Below.refl _ _) _) _⟩
set_option maxHeartbeats 1600000 in
set_option maxRecDepth 100000 in
theorem may_leaf1 (y mo d h mi s n : Int) (w : World) (t0 : ¬ y < 1980) (t1 : ¬ y > 2107) (t2 : ¬ mo < 1) (t3 : ¬ mo > 12) (HD : Aside0 (∀ W : World, Calls Tryd.prog 81 #[.int .i64 y, .int .i64 mo] W fun e w' => e = .returned (.int .i64 n) ∧ Drawn0 W w')) (c0 : 1 ≤ d) (c1 : ¬ d ≤ n) :
    Calls Tryd.prog 34 #[.agg #[.int .i64 y, .int .i64 mo, .int .i64 d, .int .i64 h, .int .i64 mi, .int .i64 s]] w fun e w' => e = .returned (.bool false) ∧ Below w.heap.size w w' := by
  have e0 : decide (y < 1980) = false := decide_eq_false t0
  have e1 : decide (y > 2107) = false := decide_eq_false t1
  have e2 : decide (mo < 1) = false := decide_eq_false t2
  have e3 : decide (mo > 12) = false := decide_eq_false t3
  have d0 : decide (1 ≤ d) = true := decide_eq_true c0
  have d0b : decide (d ≥ 1) = true := decide_eq_true c0
  have d1 : decide (d ≤ n) = false := decide_eq_false c1
  go_enter Tryd.func34, Tryd.ntmps34
  go_wp2
  go_quiet ((go_at_call 81; exact Calls.quiet_of ((HD.out _).mono fun e w' h => ⟨h.1, h.2.out⟩)))
  go_wp2
  go_ret
  exact ⟨by first | rfl | simp [*], pw_below_drewN (below_alloc (Below.refl _ _) _) _⟩
set_option maxHeartbeats 1600000 in
set_option maxRecDepth 100000 in
theorem may_leaf2 (y mo d h mi s n : Int) (w : World) (t0 : ¬ y < 1980) (t1 : ¬ y > 2107) (t2 : ¬ mo < 1) (t3 : ¬ mo > 12) (HD : Aside0 (∀ W : World, Calls Tryd.prog 81 #[.int .i64 y, .int .i64 mo] W fun e w' => e = .returned (.int .i64 n) ∧ Drawn0 W w')) (c0 : 1 ≤ d) (c1 : d ≤ n) (c2 : ¬ 0 ≤ h) :
    Calls Tryd.prog 34 #[.agg #[.int .i64 y, .int .i64 mo, .int .i64 d, .int .i64 h, .int .i64 mi, .int .i64 s]] w fun e w' => e = .returned (.bool false) ∧ Below w.heap.size w w' := by
  have e0 : decide (y < 1980) = false := decide_eq_false t0
  have e1 : decide (y > 2107) = false := decide_eq_false t1
  have e2 : decide (mo < 1) = false := decide_eq_false t2
  have e3 : decide (mo > 12) = false := decide_eq_false t3
  have d0 : decide (1 ≤ d) = true := decide_eq_true c0
  have d0b : decide (d ≥ 1) = true := decide_eq_true c0
  have d1 : decide (d ≤ n) = true := decide_eq_true c1
  have d2 : decide (0 ≤ h) = false := decide_eq_false c2
  have d2b : decide (h ≥ 0) = false := decide_eq_false c2
  go_enter Tryd.func34, Tryd.ntmps34
  go_wp2
  go_quiet ((go_at_call 81; exact Calls.quiet_of ((HD.out _).mono fun e w' h => ⟨h.1, h.2.out⟩)))
  go_wp2
  go_ret
  exact ⟨by first | rfl | simp [*], pw_below_drewN (below_alloc (Below.refl _ _) _) _⟩
set_option maxHeartbeats 1600000 in
set_option maxRecDepth 100000 in
theorem may_leaf3 (y mo d h mi s n : Int) (w : World) (t0 : ¬ y < 1980) (t1 : ¬ y > 2107) (t2 : ¬ mo < 1) (t3 : ¬ mo > 12) (HD : Aside0 (∀ W : World, Calls Tryd.prog 81 #[.int .i64 y, .int .i64 mo] W fun e w' => e = .returned (.int .i64 n) ∧ Drawn0 W w')) (c0 : 1 ≤ d) (c1 : d ≤ n) (c2 : 0 ≤ h) (c3 : ¬ h ≤ 23) :
    Calls Tryd.prog 34 #[.agg #[.int .i64 y, .int .i64 mo, .int .i64 d, .int .i64 h, .int .i64 mi, .int .i64 s]] w fun e w' => e = .returned (.bool false) ∧ Below w.heap.size w w' := by
  have e0 : decide (y < 1980) = false := decide_eq_false t0
  have e1 : decide (y > 2107) = false := decide_eq_false t1
  have e2 : decide (mo < 1) = false := decide_eq_false t2
  have e3 : decide (mo > 12) = false := decide_eq_false t3
  have d0 : decide (1 ≤ d) = true := decide_eq_true c0
  have d0b : decide (d ≥ 1) = true := decide_eq_true c0
  have d1 : decide (d ≤ n) = true := decide_eq_true c1
  have d2 : decide (0 ≤ h) = true := decide_eq_true c2
  have d2b : decide (h ≥ 0) = true := decide_eq_true c2
  have d3 : decide (h ≤ 23) = false := decide_eq_false c3
  go_enter Tryd.func34, Tryd.ntmps34
  go_wp2
  go_quiet ((go_at_call 81; exact Calls.quiet_of ((HD.out _).mono fun e w' h => ⟨h.1, h.2.out⟩)))
  go_wp2
  go_ret
  exact ⟨by first | rfl | simp [*], pw_below_drewN (below_alloc (Below.refl _ _) _) _⟩
set_option maxHeartbeats 1600000 in
set_option maxRecDepth 100000 in
theorem may_leaf4 (y mo d h mi s n : Int) (w : World) (t0 : ¬ y < 1980) (t1 : ¬ y > 2107) (t2 : ¬ mo < 1) (t3 : ¬ mo > 12) (HD : Aside0 (∀ W : World, Calls Tryd.prog 81 #[.int .i64 y, .int .i64 mo] W fun e w' => e = .returned (.int .i64 n) ∧ Drawn0 W w')) (c0 : 1 ≤ d) (c1 : d ≤ n) (c2 : 0 ≤ h) (c3 : h ≤ 23) (c4 : ¬ 0 ≤ mi) :
    Calls Tryd.prog 34 #[.agg #[.int .i64 y, .int .i64 mo, .int .i64 d, .int .i64 h, .int .i64 mi, .int .i64 s]] w fun e w' => e = .returned (.bool false) ∧ Below w.heap.size w w' := by
  have e0 : decide (y < 1980) = false := decide_eq_false t0
  have e1 : decide (y > 2107) = false := decide_eq_false t1
  have e2 : decide (mo < 1) = false := decide_eq_false t2
  have e3 : decide (mo > 12) = false := decide_eq_false t3
  have d0 : decide (1 ≤ d) = true := decide_eq_true c0
  have d0b : decide (d ≥ 1) = true := decide_eq_true c0
  have d1 : decide (d ≤ n) = true := decide_eq_true c1
  have d2 : decide (0 ≤ h) = true := decide_eq_true c2
  have d2b : decide (h ≥ 0) = true := decide_eq_true c2
  have d3 : decide (h ≤ 23) = true := decide_eq_true c3
  have d4 : decide (0 ≤ mi) = false := decide_eq_false c4
  have d4b : decide (mi ≥ 0) = false := decide_eq_false c4
  go_enter Tryd.func34, Tryd.ntmps34
  go_wp2
  go_quiet ((go_at_call 81; exact Calls.quiet_of ((HD.out _).mono fun e w' h => ⟨h.1, h.2.out⟩)))
  go_wp2
  go_ret
  exact ⟨by first | rfl | simp [*], pw_below_drewN (below_alloc (Below.refl _ _) _) _⟩
set_option maxHeartbeats 1600000 in
set_option maxRecDepth 100000 in
theorem may_leaf5 (y mo d h mi s n : Int) (w : World) (t0 : ¬ y < 1980) (t1 : ¬ y > 2107) (t2 : ¬ mo < 1) (t3 : ¬ mo > 12) (HD : Aside0 (∀ W : World, Calls Tryd.prog 81 #[.int .i64 y, .int .i64 mo] W fun e w' => e = .returned (.int .i64 n) ∧ Drawn0 W w')) (c0 : 1 ≤ d) (c1 : d ≤ n) (c2 : 0 ≤ h) (c3 : h ≤ 23) (c4 : 0 ≤ mi) (c5 : ¬ mi ≤ 59) :
    Calls Tryd.prog 34 #[.agg #[.int .i64 y, .int .i64 mo, .int .i64 d, .int .i64 h, .int .i64 mi, .int .i64 s]] w fun e w' => e = .returned (.bool false) ∧ Below w.heap.size w w' := by
  have e0 : decide (y < 1980) = false := decide_eq_false t0
  have e1 : decide (y > 2107) = false := decide_eq_false t1
  have e2 : decide (mo < 1) = false := decide_eq_false t2
  have e3 : decide (mo > 12) = false := decide_eq_false t3
  have d0 : decide (1 ≤ d) = true := decide_eq_true c0
  have d0b : decide (d ≥ 1) = true := decide_eq_true c0
  have d1 : decide (d ≤ n) = true := decide_eq_true c1
  have d2 : decide (0 ≤ h) = true := decide_eq_true c2
  have d2b : decide (h ≥ 0) = true := decide_eq_true c2
  have d3 : decide (h ≤ 23) = true := decide_eq_true c3
  have d4 : decide (0 ≤ mi) = true := decide_eq_true c4
  have d4b : decide (mi ≥ 0) = true := decide_eq_true c4
  have d5 : decide (mi ≤ 59) = false := decide_eq_false c5
  go_enter Tryd.func34, Tryd.ntmps34
  go_wp2
  go_quiet ((go_at_call 81; exact Calls.quiet_of ((HD.out _).mono fun e w' h => ⟨h.1, h.2.out⟩)))
  go_wp2
  go_ret
  exact ⟨by first | rfl | simp [*], pw_below_drewN (below_alloc (Below.refl _ _) _) _⟩
set_option maxHeartbeats 1600000 in
set_option maxRecDepth 100000 in
theorem may_leaf6 (y mo d h mi s n : Int) (w : World) (t0 : ¬ y < 1980) (t1 : ¬ y > 2107) (t2 : ¬ mo < 1) (t3 : ¬ mo > 12) (HD : Aside0 (∀ W : World, Calls Tryd.prog 81 #[.int .i64 y, .int .i64 mo] W fun e w' => e = .returned (.int .i64 n) ∧ Drawn0 W w')) (c0 : 1 ≤ d) (c1 : d ≤ n) (c2 : 0 ≤ h) (c3 : h ≤ 23) (c4 : 0 ≤ mi) (c5 : mi ≤ 59) (c6 : ¬ 0 ≤ s) :
    Calls Tryd.prog 34 #[.agg #[.int .i64 y, .int .i64 mo, .int .i64 d, .int .i64 h, .int .i64 mi, .int .i64 s]] w fun e w' => e = .returned (.bool false) ∧ Below w.heap.size w w' := by
  have e0 : decide (y < 1980) = false := decide_eq_false t0
  have e1 : decide (y > 2107) = false := decide_eq_false t1
  have e2 : decide (mo < 1) = false := decide_eq_false t2
  have e3 : decide (mo > 12) = false := decide_eq_false t3
  have d0 : decide (1 ≤ d) = true := decide_eq_true c0
  have d0b : decide (d ≥ 1) = true := decide_eq_true c0
  have d1 : decide (d ≤ n) = true := decide_eq_true c1
  have d2 : decide (0 ≤ h) = true := decide_eq_true c2
  have d2b : decide (h ≥ 0) = true := decide_eq_true c2
  have d3 : decide (h ≤ 23) = true := decide_eq_true c3
  have d4 : decide (0 ≤ mi) = true := decide_eq_true c4
  have d4b : decide (mi ≥ 0) = true := decide_eq_true c4
  have d5 : decide (mi ≤ 59) = true := decide_eq_true c5
  have d6 : decide (0 ≤ s) = false := decide_eq_false c6
  have d6b : decide (s ≥ 0) = false := decide_eq_false c6
  go_enter Tryd.func34, Tryd.ntmps34
  go_wp2
  go_quiet ((go_at_call 81; exact Calls.quiet_of ((HD.out _).mono fun e w' h => ⟨h.1, h.2.out⟩)))
  go_wp2
  go_ret
  exact ⟨by first | rfl | simp [*], pw_below_drewN (below_alloc (Below.refl _ _) _) _⟩
set_option maxHeartbeats 1600000 in
set_option maxRecDepth 100000 in
theorem may_leaf7 (y mo d h mi s n : Int) (w : World) (t0 : ¬ y < 1980) (t1 : ¬ y > 2107) (t2 : ¬ mo < 1) (t3 : ¬ mo > 12) (HD : Aside0 (∀ W : World, Calls Tryd.prog 81 #[.int .i64 y, .int .i64 mo] W fun e w' => e = .returned (.int .i64 n) ∧ Drawn0 W w')) (c0 : 1 ≤ d) (c1 : d ≤ n) (c2 : 0 ≤ h) (c3 : h ≤ 23) (c4 : 0 ≤ mi) (c5 : mi ≤ 59) (c6 : 0 ≤ s) (c7 : ¬ s ≤ 58) :
    Calls Tryd.prog 34 #[.agg #[.int .i64 y, .int .i64 mo, .int .i64 d, .int .i64 h, .int .i64 mi, .int .i64 s]] w fun e w' => e = .returned (.bool false) ∧ Below w.heap.size w w' := by
  have e0 : decide (y < 1980) = false := decide_eq_false t0
  have e1 : decide (y > 2107) = false := decide_eq_false t1
  have e2 : decide (mo < 1) = false := decide_eq_false t2
  have e3 : decide (mo > 12) = false := decide_eq_false t3
  have d0 : decide (1 ≤ d) = true := decide_eq_true c0
  have d0b : decide (d ≥ 1) = true := decide_eq_true c0
  have d1 : decide (d ≤ n) = true := decide_eq_true c1
  have d2 : decide (0 ≤ h) = true := decide_eq_true c2
  have d2b : decide (h ≥ 0) = true := decide_eq_true c2
  have d3 : decide (h ≤ 23) = true := decide_eq_true c3
  have d4 : decide (0 ≤ mi) = true := decide_eq_true c4
  have d4b : decide (mi ≥ 0) = true := decide_eq_true c4
  have d5 : decide (mi ≤ 59) = true := decide_eq_true c5
  have d6 : decide (0 ≤ s) = true := decide_eq_true c6
  have d6b : decide (s ≥ 0) = true := decide_eq_true c6
  have d7 : decide (s ≤ 58) = false := decide_eq_false c7
  go_enter Tryd.func34, Tryd.ntmps34
  go_wp2
  go_quiet ((go_at_call 81; exact Calls.quiet_of ((HD.out _).mono fun e w' h => ⟨h.1, h.2.out⟩)))
  go_wp2
  go_ret
  exact ⟨by first | rfl | simp [*], pw_below_drewN (below_alloc (Below.refl _ _) _) _⟩
set_option maxHeartbeats 1600000 in
set_option maxRecDepth 100000 in
theorem may_leaf8 (y mo d h mi s n : Int) (w : World) (t0 : ¬ y < 1980) (t1 : ¬ y > 2107) (t2 : ¬ mo < 1) (t3 : ¬ mo > 12) (HD : Aside0 (∀ W : World, Calls Tryd.prog 81 #[.int .i64 y, .int .i64 mo] W fun e w' => e = .returned (.int .i64 n) ∧ Drawn0 W w')) (c0 : 1 ≤ d) (c1 : d ≤ n) (c2 : 0 ≤ h) (c3 : h ≤ 23) (c4 : 0 ≤ mi) (c5 : mi ≤ 59) (c6 : 0 ≤ s) (c7 : s ≤ 58) :
    Calls Tryd.prog 34 #[.agg #[.int .i64 y, .int .i64 mo, .int .i64 d, .int .i64 h, .int .i64 mi, .int .i64 s]] w fun e w' => e = .returned (.bool ((s % 2 == 0))) ∧ Below w.heap.size w w' := by
  have e0 : decide (y < 1980) = false := decide_eq_false t0
  have e1 : decide (y > 2107) = false := decide_eq_false t1
  have e2 : decide (mo < 1) = false := decide_eq_false t2
  have e3 : decide (mo > 12) = false := decide_eq_false t3
  have d0 : decide (1 ≤ d) = true := decide_eq_true c0
  have d0b : decide (d ≥ 1) = true := decide_eq_true c0
  have d1 : decide (d ≤ n) = true := decide_eq_true c1
  have d2 : decide (0 ≤ h) = true := decide_eq_true c2
  have d2b : decide (h ≥ 0) = true := decide_eq_true c2
  have d3 : decide (h ≤ 23) = true := decide_eq_true c3
  have d4 : decide (0 ≤ mi) = true := decide_eq_true c4
  have d4b : decide (mi ≥ 0) = true := decide_eq_true c4
  have d5 : decide (mi ≤ 59) = true := decide_eq_true c5
  have d6 : decide (0 ≤ s) = true := decide_eq_true c6
  have d6b : decide (s ≥ 0) = true := decide_eq_true c6
  have d7 : decide (s ≤ 58) = true := decide_eq_true c7
  go_enter Tryd.func34, Tryd.ntmps34
  go_wp2
  go_quiet ((go_at_call 81; exact Calls.quiet_of ((HD.out _).mono fun e w' h => ⟨h.1, h.2.out⟩)))
  go_wp2
  go_ret
  exact ⟨by first | rfl | simp [*], pw_below_drewN (below_alloc (Below.refl _ _) _) _⟩
theorem montageref41_May.calls (k : Nat) (a0_0 : Int) (a0_1 : Int) (a0_2 : Int) (a0_3 : Int) (a0_4 : Int) (a0_5 : Int) (r : Bool) (w : World) (h : montageref41_May.f k a0_0 a0_1 a0_2 a0_3 a0_4 a0_5 = some r) :
    Calls Tryd.prog 34 #[.agg #[.int .i64 a0_0, .int .i64 a0_1, .int .i64 a0_2, .int .i64 a0_3, .int .i64 a0_4, .int .i64 a0_5]] w fun e w' => e = .returned (.bool r) ∧ Below w.heap.size w w' := by
  unfold montageref41_May.f at h
  by_cases t0 : a0_0 < 1980
  · rw [if_pos (.inl t0)] at h; obtain rfl := Option.some.inj h; exact may_no0 _ _ _ _ _ _ 0 w t0
  by_cases t1 : a0_0 > 2107
  · rw [if_pos (.inr (.inl t1))] at h; obtain rfl := Option.some.inj h; exact may_no1 _ _ _ _ _ _ 0 w t0 t1
  by_cases t2 : a0_1 < 1
  · rw [if_pos (.inr (.inr (.inl t2)))] at h; obtain rfl := Option.some.inj h; exact may_no2 _ _ _ _ _ _ 0 w t0 t1 t2
  by_cases t3 : a0_1 > 12
  · rw [if_pos (.inr (.inr (.inr t3)))] at h; obtain rfl := Option.some.inj h; exact may_no3 _ _ _ _ _ _ 0 w t0 t1 t2 t3
  rw [if_neg (by omega)] at h
  obtain ⟨n, hn, h⟩ := Option.bind_eq_some_iff.1 h
  have HD : Aside0 (∀ W : World, Calls Tryd.prog 81 #[.int .i64 a0_0, .int .i64 a0_1] W fun e w' => e = .returned (.int .i64 n) ∧ Drawn0 W w') := ⟨fun W => montageref41_days.calls k _ _ n W hn⟩
  obtain rfl := Option.some.inj h
  clear h hn
  unfold mayB
  by_cases c0 : 1 ≤ a0_2
  case neg => rw [decide_eq_false c0]; exact may_leaf0 _ _ _ _ _ _ n w t0 t1 t2 t3 HD c0
  by_cases c1 : a0_2 ≤ n
  case neg => rw [decide_eq_true c0, decide_eq_false c1]; exact may_leaf1 _ _ _ _ _ _ n w t0 t1 t2 t3 HD c0 c1
  by_cases c2 : 0 ≤ a0_3
  case neg => rw [decide_eq_true c0, decide_eq_true c1, decide_eq_false c2]; exact may_leaf2 _ _ _ _ _ _ n w t0 t1 t2 t3 HD c0 c1 c2
  by_cases c3 : a0_3 ≤ 23
  case neg => rw [decide_eq_true c0, decide_eq_true c1, decide_eq_true c2, decide_eq_false c3]; exact may_leaf3 _ _ _ _ _ _ n w t0 t1 t2 t3 HD c0 c1 c2 c3
  by_cases c4 : 0 ≤ a0_4
  case neg => rw [decide_eq_true c0, decide_eq_true c1, decide_eq_true c2, decide_eq_true c3, decide_eq_false c4]; exact may_leaf4 _ _ _ _ _ _ n w t0 t1 t2 t3 HD c0 c1 c2 c3 c4
  by_cases c5 : a0_4 ≤ 59
  case neg => rw [decide_eq_true c0, decide_eq_true c1, decide_eq_true c2, decide_eq_true c3, decide_eq_true c4, decide_eq_false c5]; exact may_leaf5 _ _ _ _ _ _ n w t0 t1 t2 t3 HD c0 c1 c2 c3 c4 c5
  by_cases c6 : 0 ≤ a0_5
  case neg => rw [decide_eq_true c0, decide_eq_true c1, decide_eq_true c2, decide_eq_true c3, decide_eq_true c4, decide_eq_true c5, decide_eq_false c6]; exact may_leaf6 _ _ _ _ _ _ n w t0 t1 t2 t3 HD c0 c1 c2 c3 c4 c5 c6
  by_cases c7 : a0_5 ≤ 58
  case neg => rw [decide_eq_true c0, decide_eq_true c1, decide_eq_true c2, decide_eq_true c3, decide_eq_true c4, decide_eq_true c5, decide_eq_true c6, decide_eq_false c7]; exact may_leaf7 _ _ _ _ _ _ n w t0 t1 t2 t3 HD c0 c1 c2 c3 c4 c5 c6 c7
  rw [decide_eq_true c0, decide_eq_true c1, decide_eq_true c2, decide_eq_true c3, decide_eq_true c4, decide_eq_true c5, decide_eq_true c6, decide_eq_true c7]; simp only [Bool.true_and]; exact may_leaf8 _ _ _ _ _ _ n w t0 t1 t2 t3 HD c0 c1 c2 c3 c4 c5 c6 c7


/-! ### montageref41_Put: function 35 -/
def montageref41_Put.f (a0_0 : Int) (a0_1 : Int) (a0_2 : Int) (a0_3 : Int) (a0_4 : Int) (a0_5 : Int) : Option (Int) := some (wrap64 ((wrap64 ((wrap64 ((wrap64 ((wrap64 ((wrap64 (Int.tdiv a0_5 2)) + (wrap64 (a0_4 * 32)))) + (wrap64 (a0_3 * 2048)))) + (wrap64 (a0_2 * 65536)))) + (wrap64 (a0_1 * 2097152)))) + (wrap64 ((wrap64 (a0_0 - 1980)) * 33554432))))
set_option maxHeartbeats 8000000 in
set_option maxRecDepth 100000 in
theorem montageref41_Put.calls (a0_0 : Int) (a0_1 : Int) (a0_2 : Int) (a0_3 : Int) (a0_4 : Int) (a0_5 : Int) (r : Int) (w : World) (h : montageref41_Put.f a0_0 a0_1 a0_2 a0_3 a0_4 a0_5 = some r) :
    Calls Tryd.prog 35 #[.agg #[.int .i64 a0_0, .int .i64 a0_1, .int .i64 a0_2, .int .i64 a0_3, .int .i64 a0_4, .int .i64 a0_5]] w fun e w' => e = .returned (.int .i64 r) ∧ Below w.heap.size w w' := by
  have hu38 := Tryd.underlying38
  have HB := Aside0.mk (Below.refl w.heap.size w)
  have H : (some (wrap64 ((wrap64 ((wrap64 ((wrap64 ((wrap64 ((wrap64 (Int.tdiv a0_5 2)) + (wrap64 (a0_4 * 32)))) + (wrap64 (a0_3 * 2048)))) + (wrap64 (a0_2 * 65536)))) + (wrap64 (a0_1 * 2097152)))) + (wrap64 ((wrap64 (a0_0 - 1980)) * 33554432))))) = some r := h
  clear h
  obtain rfl := Option.some.inj H
  simp only [Option.some.injEq, Prod.mk.injEq] at H
  obtain ⟨rfl⟩ := H
  go_enter Tryd.func35, Tryd.ntmps35
  go_wp2_with (first | ((with_reducible refine gate_dst (N := 1) rfl ?_); refine box_event ?hg (N := 1) ?hd (cs := #[.int .i64 a0_0, .int .i64 a0_1, .int .i64 a0_2, .int .i64 a0_3, .int .i64 a0_4, .int .i64 a0_5]) (t := 38) ?hr ?_; (case hd => rfl); (case hg => rfl); (case hr => first | (go_simp; done) | (go_simp; rfl)); intro gb156 hg w2 hbox hb; have n0_ := Aside0.mk (below_step (by repeat (first | (with_reducible first | exact HB.out | apply below_alloc | apply pw_below_drewN | apply below_drew1) | exact HB.out)) hb); have n1_ := Aside0.mk (hbox); have n2_ := Aside0.mk ((by rw [hg]; exact (below_size (by repeat (first | (with_reducible first | exact HB.out | apply below_alloc | apply pw_below_drewN | apply below_drew1) | exact HB.out))) : w.heap.size ≤ gb156)); have n3_ := Aside0.mk ((by rw [hg]; exact (below_size (by repeat (first | (with_reducible first | exact HB.out | apply below_alloc | apply pw_below_drewN | apply below_drew1) | exact HB.out))) : w.heap.size ≤ gb156)); clear HB; have HB := n0_; have BK156 := n1_; have GW156 := n2_; have GE156 := n3_; clear n0_ n1_ n2_ n3_; clear hb hbox hg; have hcz3_0 : w2.cell? ⟨gb156, 0, none⟩ = some (.int .i64 a0_0) := (blk_cell BK156.out 0).trans rfl; have hcz3_1 : w2.cell? ⟨gb156, 1, none⟩ = some (.int .i64 a0_1) := (blk_cell BK156.out 1).trans rfl; have hcz3_2 : w2.cell? ⟨gb156, 2, none⟩ = some (.int .i64 a0_2) := (blk_cell BK156.out 2).trans rfl; have hcz3_3 : w2.cell? ⟨gb156, 3, none⟩ = some (.int .i64 a0_3) := (blk_cell BK156.out 3).trans rfl; have hcz3_4 : w2.cell? ⟨gb156, 4, none⟩ = some (.int .i64 a0_4) := (blk_cell BK156.out 4).trans rfl; have hcz3_5 : w2.cell? ⟨gb156, 5, none⟩ = some (.int .i64 a0_5) := (blk_cell BK156.out 5).trans rfl; have hfz3_0 := blk_frozen BK156.out 0; have hfz3_1 := blk_frozen BK156.out 1; have hfz3_2 := blk_frozen BK156.out 2; have hfz3_3 := blk_frozen BK156.out 3; have hfz3_4 := blk_frozen BK156.out 4; have hfz3_5 := blk_frozen BK156.out 5))
  go_ret
  exact ⟨by first | rfl | (simp [errW_none, errW_some] <;> rfl) | (simp [*, errW_none, errW_some] <;> rfl), by repeat (first | (with_reducible first | exact HB.out | apply below_alloc | apply pw_below_drewN | apply below_drew1 | refine below_set ?_ GE156.out) | exact HB.out)⟩

end Go.Proofs.YtdaofffedfccmaaDoor.XClockDates
-- laidx
