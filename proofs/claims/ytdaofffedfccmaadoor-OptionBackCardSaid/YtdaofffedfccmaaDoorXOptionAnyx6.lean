-- Written by this session's own program wip/xprint.py: a changed copy of the kit's print.
import Derived.Test.YtdaofffedfccmaaDoorXOptionAnyx0
import Derived.Test.YtdaofffedfccmaaDoorXOptionAnyx1
import Derived.Test.YtdaofffedfccmaaDoorXOptionAnyx2
import Derived.Test.YtdaofffedfccmaaDoorXOptionAnyx5
namespace Go.Proofs.YtdaofffedfccmaaDoor.XOptionAny
open Go.RowKit Go.Proofs.YtdaofffedfccmaaDoorW.PrintWords Go.Proofs.YtdaofffedfccmaaDoorW.PrintLast Go.Proofs.YtdaofffedfccmaaDoorW.PrintMore
attribute [local go_sem] max2_int min2_int max_two min_two max_three min_three max_four min_four   -- for this text's walks alone
set_option linter.unusedVariables false
set_option linter.unusedSimpArgs false

attribute [local go_sem high] eqA58
/-! ### montagelaw31_OptionBack: function 12 -/
mutual
def montagelaw31_OptionBack.j0 : Nat → List ByteArray → Int → Bool → Int → Bool → Bool → Bool → Int → Option (Bool)
  | 0, _, _, _, _, _, _, _, _ => none
  | k + 1, x3, x6, x33, x212000, x212001, x212002, x212003, x212004 => if x33 = true then (some false) else (if x6 = 0 then (montagelaw31_OptionBack.l0 k x3 ([] : List ByteArray) (wrap64 ((x3.length : Int) - 1)) x212000 x212001 x212002 x212003 x212004) else (some true))
def montagelaw31_OptionBack.l0 : Nat → List ByteArray → List ByteArray → Int → Int → Bool → Bool → Bool → Int → Option (Bool)
  | 0, _, _, _, _, _, _, _, _ => none
  | k + 1, x3, x7, x8, x212000, x212001, x212002, x212003, x212004 => if x8 ≥ 0 then (if 0 ≤ x8 then (if x8 < (x3.length : Int) then (if x7.length < 8796093022208 then (montagelaw31_OptionBack.l0 k x3 (x7 ++ [rdOf ByteArray.empty x3 x8]) (wrap64 (x8 - 1)) x212000 x212001 x212002 x212003 x212004) else (none)) else (none)) else (none)) else ((option_Parse.f x3).bind fun bt226 => ((option_Parse.f x7).bind fun bt233 => (if (bt226.1 == x212000 && (bt226.2.1 == x212001 && (bt226.2.2.1 == x212002 && (bt226.2.2.2.1 == x212003 && (bt226.2.2.2.2.1 == x212004))))) = true then (if bt226.2.2.2.2.2 = 0 then (if (bt233.1 == x212000 && (bt233.2.1 == x212001 && (bt233.2.2.1 == x212002 && (bt233.2.2.2.1 == x212003 && (bt233.2.2.2.2.1 == x212004))))) = true then (some (bt233.2.2.2.2.2 == 0)) else (some false)) else (some false)) else (some false))))
end
def montagelaw31_OptionBack.f (k : Nat) (a0_0 : Int) (a0_1 : Bool) (a0_2 : Bool) (a0_3 : Bool) (a0_4 : Int) : Option (Bool) := (montagelaw31_awake.f).bind fun t212 => (if t212 = true then ((option_Words.f a0_0 a0_1 a0_2 a0_3 a0_4).bind fun bt213 => ((montageref31_Words.f k a0_0 a0_1 a0_2 a0_3 a0_4).bind fun bt217 => ((montageref23_Texts.f k bt213.1 bt217.1).bind fun t221 => (if t221 = true then (montagelaw31_OptionBack.j0 k bt213.1 bt217.2 (bt213.2 != bt217.2) a0_0 a0_1 a0_2 a0_3 a0_4) else (montagelaw31_OptionBack.j0 k bt213.1 bt217.2 true a0_0 a0_1 a0_2 a0_3 a0_4))))) else (some false))
theorem montagelaw31_OptionBack.mono_l : ∀ k, (∀ y0 y1 y2 y3 y4 y5 y6 y7, LeO (montagelaw31_OptionBack.j0 k y0 y1 y2 y3 y4 y5 y6 y7) (montagelaw31_OptionBack.j0 (k + 1) y0 y1 y2 y3 y4 y5 y6 y7)) ∧ (∀ y0 y1 y2 y3 y4 y5 y6 y7, LeO (montagelaw31_OptionBack.l0 k y0 y1 y2 y3 y4 y5 y6 y7) (montagelaw31_OptionBack.l0 (k + 1) y0 y1 y2 y3 y4 y5 y6 y7))
  | 0 => ⟨fun _ _ _ _ _ _ _ _ r h => by simp [montagelaw31_OptionBack.j0] at h, fun _ _ _ _ _ _ _ _ r h => by simp [montagelaw31_OptionBack.l0] at h⟩
  | k + 1 => by
    obtain ⟨ih0, ih1⟩ := montagelaw31_OptionBack.mono_l k
    refine ⟨?_, ?_⟩
    · intro y0 y1 y2 y3 y4 y5 y6 y7
      unfold montagelaw31_OptionBack.j0
      repeat' first
      | (with_reducible exact ih0 _ _ _ _ _ _ _ _)
      | (with_reducible exact ih1 _ _ _ _ _ _ _ _)
      | (with_reducible exact montageref23_Texts.mono _ _ _)
      | (with_reducible exact montageref31_Words.mono _ _ _ _ _ _)
      | (with_reducible exact LeO.refl _)
      | (with_reducible exact LeO.none _)
      | (with_reducible refine LeO.ite ?_ ?_)
      | (with_reducible refine LeO.bind ?_ (fun _ => ?_))
      | exact ih0 _ _ _ _ _ _ _ _
      | exact ih1 _ _ _ _ _ _ _ _
      | exact montageref23_Texts.mono _ _ _
      | exact montageref31_Words.mono _ _ _ _ _ _
      | exact LeO.none _
      | refine LeO.ite ?_ ?_
      | refine LeO.bind ?_ (fun _ => ?_)
    · intro y0 y1 y2 y3 y4 y5 y6 y7
      unfold montagelaw31_OptionBack.l0
      repeat' first
      | (with_reducible exact ih0 _ _ _ _ _ _ _ _)
      | (with_reducible exact ih1 _ _ _ _ _ _ _ _)
      | (with_reducible exact montageref23_Texts.mono _ _ _)
      | (with_reducible exact montageref31_Words.mono _ _ _ _ _ _)
      | (with_reducible exact LeO.refl _)
      | (with_reducible exact LeO.none _)
      | (with_reducible refine LeO.ite ?_ ?_)
      | (with_reducible refine LeO.bind ?_ (fun _ => ?_))
      | exact ih0 _ _ _ _ _ _ _ _
      | exact ih1 _ _ _ _ _ _ _ _
      | exact montageref23_Texts.mono _ _ _
      | exact montageref31_Words.mono _ _ _ _ _ _
      | exact LeO.none _
      | refine LeO.ite ?_ ?_
      | refine LeO.bind ?_ (fun _ => ?_)
theorem montagelaw31_OptionBack.mono : ∀ a0 a1 a2 a3 a4 k, LeO (montagelaw31_OptionBack.f k a0 a1 a2 a3 a4) (montagelaw31_OptionBack.f (k + 1) a0 a1 a2 a3 a4) := by
  intro a0 a1 a2 a3 a4 k
  obtain ⟨ih0, ih1⟩ := montagelaw31_OptionBack.mono_l k
  unfold montagelaw31_OptionBack.f
  repeat' first
      | (with_reducible exact ih0 _ _ _ _ _ _ _ _)
      | (with_reducible exact ih1 _ _ _ _ _ _ _ _)
      | (with_reducible exact montageref23_Texts.mono _ _ _)
      | (with_reducible exact montageref31_Words.mono _ _ _ _ _ _)
      | (with_reducible exact LeO.refl _)
      | (with_reducible exact LeO.none _)
      | (with_reducible refine LeO.ite ?_ ?_)
      | (with_reducible refine LeO.bind ?_ (fun _ => ?_))
      | exact ih0 _ _ _ _ _ _ _ _
      | exact ih1 _ _ _ _ _ _ _ _
      | exact montageref23_Texts.mono _ _ _
      | exact montageref31_Words.mono _ _ _ _ _ _
      | exact LeO.none _
      | refine LeO.ite ?_ ?_
      | refine LeO.bind ?_ (fun _ => ?_)
set_option maxHeartbeats 8000000 in
set_option maxRecDepth 100000 in
theorem montagelaw31_OptionBack.calls (k : Nat) (a0_0 : Int) (a0_1 : Bool) (a0_2 : Bool) (a0_3 : Bool) (a0_4 : Int) (r : Bool) (w : World) (h : montagelaw31_OptionBack.f k a0_0 a0_1 a0_2 a0_3 a0_4 = some r) (hr_ : Aside0 (r = true)) (hL : XGlob.Laid w) :
    Calls Tryd.prog 12 #[.agg #[.int .i64 a0_0, .bool a0_1, .bool a0_2, .bool a0_3, .int .i64 a0_4]] w fun e w' => e = .returned (.bool r) ∧ Below w.heap.size w w' := by
  have HL := Aside0.mk hL
  clear hL
  have hu58 := Tryd.underlying58
  have HB := Aside0.mk (Below.refl w.heap.size w)
  have H : ((montagelaw31_awake.f).bind fun t212 => (if t212 = true then ((option_Words.f a0_0 a0_1 a0_2 a0_3 a0_4).bind fun bt213 => ((montageref31_Words.f k a0_0 a0_1 a0_2 a0_3 a0_4).bind fun bt217 => ((montageref23_Texts.f k bt213.1 bt217.1).bind fun t221 => (if t221 = true then (montagelaw31_OptionBack.j0 k bt213.1 bt217.2 (bt213.2 != bt217.2) a0_0 a0_1 a0_2 a0_3 a0_4) else (montagelaw31_OptionBack.j0 k bt213.1 bt217.2 true a0_0 a0_1 a0_2 a0_3 a0_4))))) else (some false))) = some r := h
  clear h
  replace H := Option.bind_eq_some_iff.mp H
  obtain ⟨t212, A20, H⟩ := H
  replace H : (if t212 = true then ((option_Words.f a0_0 a0_1 a0_2 a0_3 a0_4).bind fun bt213 => ((montageref31_Words.f k a0_0 a0_1 a0_2 a0_3 a0_4).bind fun bt217 => ((montageref23_Texts.f k bt213.1 bt217.1).bind fun t221 => (if t221 = true then (montagelaw31_OptionBack.j0 k bt213.1 bt217.2 (bt213.2 != bt217.2) a0_0 a0_1 a0_2 a0_3 a0_4) else (montagelaw31_OptionBack.j0 k bt213.1 bt217.2 true a0_0 a0_1 a0_2 a0_3 a0_4))))) else (some false)) = some r := H
  have A2 := Aside0.mk A20
  clear A20
  by_cases c3 : t212 = true
  · subst c3
    have H1 : ((option_Words.f a0_0 a0_1 a0_2 a0_3 a0_4).bind fun bt213 => ((montageref31_Words.f k a0_0 a0_1 a0_2 a0_3 a0_4).bind fun bt217 => ((montageref23_Texts.f k bt213.1 bt217.1).bind fun t221 => (if t221 = true then (montagelaw31_OptionBack.j0 k bt213.1 bt217.2 (bt213.2 != bt217.2) a0_0 a0_1 a0_2 a0_3 a0_4) else (montagelaw31_OptionBack.j0 k bt213.1 bt217.2 true a0_0 a0_1 a0_2 a0_3 a0_4))))) = some r := by rw [if_pos rfl] at H; exact H
    clear H
    have H := H1
    clear H1
    replace H := Option.bind_eq_some_iff.mp H
    obtain ⟨⟨t213, t216⟩, A40, H⟩ := H
    replace H : ((montageref31_Words.f k a0_0 a0_1 a0_2 a0_3 a0_4).bind fun bt217 => ((montageref23_Texts.f k t213 bt217.1).bind fun t221 => (if t221 = true then (montagelaw31_OptionBack.j0 k t213 bt217.2 (t216 != bt217.2) a0_0 a0_1 a0_2 a0_3 a0_4) else (montagelaw31_OptionBack.j0 k t213 bt217.2 true a0_0 a0_1 a0_2 a0_3 a0_4)))) = some r := H
    have A4 := Aside0.mk A40
    clear A40
    replace H := Option.bind_eq_some_iff.mp H
    obtain ⟨⟨t217, t220⟩, A50, H⟩ := H
    replace H : ((montageref23_Texts.f k t213 t217).bind fun t221 => (if t221 = true then (montagelaw31_OptionBack.j0 k t213 t220 (t216 != t220) a0_0 a0_1 a0_2 a0_3 a0_4) else (montagelaw31_OptionBack.j0 k t213 t220 true a0_0 a0_1 a0_2 a0_3 a0_4))) = some r := H
    have A5 := Aside0.mk A50
    clear A50
    have HC6 := Aside0.mk H
    clear H
    go_enter Tryd.func12, Tryd.ntmps12
    go_upto_region 5 with (first | ((with_reducible refine gate_dst (N := 1) rfl ?_); refine box_event ?hg (N := 1) ?hd (cs := #[.int .i64 a0_0, .bool a0_1, .bool a0_2, .bool a0_3, .int .i64 a0_4]) (t := 58) ?hr ?_; (case hd => rfl); (case hg => rfl); (case hr => first | (go_simp; done) | (go_simp; rfl)); intro gb211 hg w7 hbox hb; have n0_ := Aside0.mk (below_step (by repeat (first | (with_reducible first | exact HB.out | apply below_alloc | apply pw_below_drewN | apply below_drew1) | exact HB.out)) hb); have n1_ := Aside0.mk (hbox); have n2_ := Aside0.mk ((by rw [hg]; exact (below_size (by repeat (first | (with_reducible first | exact HB.out | apply below_alloc | apply pw_below_drewN | apply below_drew1) | exact HB.out))) : w.heap.size ≤ gb211)); have n3_ := Aside0.mk ((by rw [hg]; exact (below_size (by repeat (first | (with_reducible first | exact HB.out | apply below_alloc | apply pw_below_drewN | apply below_drew1) | exact HB.out))) : w.heap.size ≤ gb211)); clear HB; have HB := n0_; have BK211 := n1_; have GW211 := n2_; have GE211 := n3_; clear n0_ n1_ n2_ n3_; clear hb hbox hg) | ((with_reducible refine gate_callee (f := 44) rfl ?_); refine goesL_ (some 13) rfl rfl Tryd.func44 (by kernel_rfl) rfl #[] rfl (by (try simp only [List.map_toArray, List.map_cons, List.map_nil]); first | done | rfl | (simp only [List.length_drop, List.length_take]; rfl)) ?_; (with_reducible refine (montagelaw31_awake.calls  true _ A2.out ⟨rfl⟩ (XGlob.Laid.below HL.out (by repeat (first | (with_reducible first | exact HB.out | apply below_alloc | apply pw_below_drewN | apply below_drew1 | refine below_set ?_ (Aside0.out (by assumption))) | exact HB.out)))).mono ?_); rintro e w8 ⟨rfl, hb⟩; refine ⟨_, rfl, ?_⟩; have n0_ := Aside0.mk (blk_below (g := gb211) (o := .cells #[.int .i64 a0_0, .bool a0_1, .bool a0_2, .bool a0_3, .int .i64 a0_4] 58 (0, 0)) (by (with_reducible repeat (first | refine blk_drewN ?_ _ | refine blk_drew ?_ | refine blk_alloc ?_ _)); exact BK211.out) hb); have n1_ := Aside0.mk (below_step (by repeat (first | (with_reducible first | exact HB.out | apply below_alloc | apply pw_below_drewN | apply below_drew1 | refine below_set ?_ GE211.out) | exact HB.out)) hb); clear BK211; clear HB; have BK211 := n0_; have HB := n1_; clear n0_ n1_; (try clear hb); (try clear hb2); (try clear hk); (try clear hi); have hcz9_0 : w8.cell? ⟨gb211, 0, none⟩ = some (.int .i64 a0_0) := (blk_cell BK211.out 0).trans rfl; have hcz9_1 : w8.cell? ⟨gb211, 1, none⟩ = some (.bool a0_1) := (blk_cell BK211.out 1).trans rfl; have hcz9_2 : w8.cell? ⟨gb211, 2, none⟩ = some (.bool a0_2) := (blk_cell BK211.out 2).trans rfl; have hcz9_3 : w8.cell? ⟨gb211, 3, none⟩ = some (.bool a0_3) := (blk_cell BK211.out 3).trans rfl; have hcz9_4 : w8.cell? ⟨gb211, 4, none⟩ = some (.int .i64 a0_4) := (blk_cell BK211.out 4).trans rfl; have hfz9_0 := blk_frozen BK211.out 0; have hfz9_1 := blk_frozen BK211.out 1; have hfz9_2 := blk_frozen BK211.out 2; have hfz9_3 := blk_frozen BK211.out 3; have hfz9_4 := blk_frozen BK211.out 4) | ((with_reducible refine gate_callee (f := 47) rfl ?_); refine goesL_ (some 17) rfl rfl Tryd.func47 (by kernel_rfl) rfl #[.agg #[.int .i64 a0_0, .bool a0_1, .bool a0_2, .bool a0_3, .int .i64 a0_4]] rfl (by (try simp only [List.map_toArray, List.map_cons, List.map_nil]); first | done | rfl | (simp only [List.length_drop, List.length_take]; rfl)) ?_; (with_reducible refine (option_Words.calls a0_0 a0_1 a0_2 a0_3 a0_4 t213 t216 _ A4.out (XGlob.Laid.below HL.out (by repeat (first | (with_reducible first | exact HB.out | apply below_alloc | apply pw_below_drewN | apply below_drew1 | refine below_set ?_ (Aside0.out (by assumption))) | exact HB.out)))).mono ?_); rintro e w10 ⟨v214, rfl, ho0, hb⟩; refine ⟨_, rfl, ?_⟩; have n0_ := Aside0.mk (Kd.R_lower ho0 (below_size (by repeat (first | (with_reducible first | exact HB.out | apply below_alloc | apply pw_below_drewN | apply below_drew1 | refine below_set ?_ GE211.out) | exact HB.out)))); have n1_ := Aside0.mk (blk_below (g := gb211) (o := .cells #[.int .i64 a0_0, .bool a0_1, .bool a0_2, .bool a0_3, .int .i64 a0_4] 58 (0, 0)) (by (with_reducible repeat (first | refine blk_drewN ?_ _ | refine blk_drew ?_ | refine blk_alloc ?_ _)); exact BK211.out) hb); have n2_ := Aside0.mk (below_step (by repeat (first | (with_reducible first | exact HB.out | apply below_alloc | apply pw_below_drewN | apply below_drew1 | refine below_set ?_ GE211.out) | exact HB.out)) hb); clear BK211; clear HB; have HO215 := n0_; have BK211 := n1_; have HB := n2_; clear n0_ n1_ n2_; (try clear hb); (try clear hb2); (try clear hk); (try clear hi); (try clear ho0); have hcz11_0 : w10.cell? ⟨gb211, 0, none⟩ = some (.int .i64 a0_0) := (blk_cell BK211.out 0).trans rfl; have hcz11_1 : w10.cell? ⟨gb211, 1, none⟩ = some (.bool a0_1) := (blk_cell BK211.out 1).trans rfl; have hcz11_2 : w10.cell? ⟨gb211, 2, none⟩ = some (.bool a0_2) := (blk_cell BK211.out 2).trans rfl; have hcz11_3 : w10.cell? ⟨gb211, 3, none⟩ = some (.bool a0_3) := (blk_cell BK211.out 3).trans rfl; have hcz11_4 : w10.cell? ⟨gb211, 4, none⟩ = some (.int .i64 a0_4) := (blk_cell BK211.out 4).trans rfl; have hfz11_0 := blk_frozen BK211.out 0; have hfz11_1 := blk_frozen BK211.out 1; have hfz11_2 := blk_frozen BK211.out 2; have hfz11_3 := blk_frozen BK211.out 3; have hfz11_4 := blk_frozen BK211.out 4) | ((with_reducible refine gate_callee (f := 48) rfl ?_); refine goesL_ (some 22) rfl rfl Tryd.func48 (by kernel_rfl) rfl #[.agg #[.int .i64 a0_0, .bool a0_1, .bool a0_2, .bool a0_3, .int .i64 a0_4]] rfl (by (try simp only [List.map_toArray, List.map_cons, List.map_nil]); first | done | rfl | (simp only [List.length_drop, List.length_take]; rfl)) ?_; (with_reducible refine (montageref31_Words.calls k a0_0 a0_1 a0_2 a0_3 a0_4 t217 t220 _ A5.out).mono ?_); rintro e w12 ⟨v218, rfl, ho0, hb⟩; refine ⟨_, rfl, ?_⟩; have n0_ := Aside0.mk (Kd.R_elder' (by (with_reducible repeat (first | apply Kd.R_alloc | apply Kd.R_drewN | apply Kd.R_drew)); exact HO215.out) (Kd.R_base ho0) hb); have n1_ := Aside0.mk (Kd.R_lower (Kd.R_new' ho0 (Kd.R_lt (by (with_reducible repeat (first | apply Kd.R_alloc | apply Kd.R_drewN | apply Kd.R_drew)); exact HO215.out))) (below_size (by repeat (first | (with_reducible first | exact HB.out | apply below_alloc | apply pw_below_drewN | apply below_drew1 | refine below_set ?_ GE211.out) | exact HB.out)))); have n2_ := Aside0.mk (blk_below (g := gb211) (o := .cells #[.int .i64 a0_0, .bool a0_1, .bool a0_2, .bool a0_3, .int .i64 a0_4] 58 (0, 0)) (by (with_reducible repeat (first | refine blk_drewN ?_ _ | refine blk_drew ?_ | refine blk_alloc ?_ _)); exact BK211.out) hb); have n3_ := Aside0.mk (below_step (by repeat (first | (with_reducible first | exact HB.out | apply below_alloc | apply pw_below_drewN | apply below_drew1 | refine below_set ?_ GE211.out) | exact HB.out)) hb); clear HO215; clear BK211; clear HB; have HO215 := n0_; have HO219 := n1_; have BK211 := n2_; have HB := n3_; clear n0_ n1_ n2_ n3_; (try clear hb); (try clear hb2); (try clear hk); (try clear hi); (try clear ho0)))
    (try simp only [Act.put, List.setIfInBounds_toArray, List.set_cons_zero, List.set_cons_succ])
    go_cut [33] (fun v33 wc => ∃ (kq : Nat) (x33_5 : Bool), v33 = .bool x33_5 ∧ Aside0 (montagelaw31_OptionBack.j0 kq t213 t220 x33_5 a0_0 a0_1 a0_2 a0_3 a0_4 = some r) ∧ Aside0 (kq ≤ k) ∧ Aside0 (Kd.R Kd.string 9 wc w.heap.size (fun _ => True) v214 t213) ∧ Aside0 (wc.heap[gb211]? = some (.cells #[.int .i64 a0_0, .bool a0_1, .bool a0_2, .bool a0_3, .int .i64 a0_4] 58 (0, 0))) ∧ Aside0 (Below w.heap.size w wc))
    case first =>
      have H := HC6.out
      clear HC6
      replace H := Option.bind_eq_some_iff.mp H
      obtain ⟨t221, A130, H⟩ := H
      replace H : (if t221 = true then (montagelaw31_OptionBack.j0 k t213 t220 (t216 != t220) a0_0 a0_1 a0_2 a0_3 a0_4) else (montagelaw31_OptionBack.j0 k t213 t220 true a0_0 a0_1 a0_2 a0_3 a0_4)) = some r := H
      have A13 := Aside0.mk A130
      clear A130
      by_cases c14 : t221 = true
      · subst c14
        have H1 : (montagelaw31_OptionBack.j0 k t213 t220 (t216 != t220) a0_0 a0_1 a0_2 a0_3 a0_4) = some r := by rw [if_pos rfl] at H; exact H
        clear H
        have H := H1
        clear H1
        have H' := Aside0.mk H
        clear H
        obtain ⟨Ao15, co15, eo15⟩ := Kd.R_slice HO215.out
        subst eo15
        obtain ⟨Ao16, co16, eo16⟩ := Kd.R_slice HO219.out
        subst eo16
        go_wp2_with (first | ((with_reducible refine gate_callee (f := 49) rfl ?_); refine goesL_ (some 27) rfl rfl Tryd.func49 (by kernel_rfl) rfl #[.slice Ao15 t213.length co15, .slice Ao16 t217.length co16] rfl (by (try simp only [List.map_toArray, List.map_cons, List.map_nil]); first | done | rfl | (simp only [List.length_drop, List.length_take]; rfl)) ?_; (with_reducible refine (montageref23_Texts.calls k _ _ t213 _ _ t217 true _ ?side1 ?side2 ?side3 ?side4 A13.out).mono ?_); (case side1 => repeat (first | exact (Kd.R_reads' HO215.out).2.2 | (with_reducible refine Kd.C_alloc ?_ _) | (with_reducible refine Kd.C_drewN ?_ _) | (with_reducible refine Kd.C_drew ?_))); (case side2 => exact (Kd.R_reads' HO215.out).2.1); (case side3 => repeat (first | exact (Kd.R_reads' HO219.out).2.2 | (with_reducible refine Kd.C_alloc ?_ _) | (with_reducible refine Kd.C_drewN ?_ _) | (with_reducible refine Kd.C_drew ?_))); (case side4 => exact (Kd.R_reads' HO219.out).2.1); rintro e w' ⟨rfl, ⟨nd, rfl⟩⟩; refine ⟨_, rfl, ?_⟩))
        go_meet
        case rel => exact ⟨_, ((t216 != t220)), (by first | rfl | (simp; done) | (simp [*]; done)), H', ⟨by first | omega | exact Nat.le_refl _⟩, ⟨by (with_reducible repeat (first | apply Kd.R_alloc | apply Kd.R_drewN | apply Kd.R_drew)); exact Kd.R_mono HO215.out (fun _ hk => trivial)⟩, ⟨by (with_reducible repeat (first | refine blk_drewN ?_ _ | refine blk_drew ?_ | refine blk_alloc ?_ _)); exact BK211.out⟩, ⟨by repeat (first | (with_reducible first | exact HB.out | apply below_alloc | apply pw_below_drewN | apply below_drew1 | refine below_set ?_ GE211.out) | exact HB.out)⟩⟩
      · replace c14 := Bool.eq_false_iff.mpr c14
        subst c14
        have H1 : (montagelaw31_OptionBack.j0 k t213 t220 true a0_0 a0_1 a0_2 a0_3 a0_4) = some r := by rw [if_neg (show ¬ (false = true) by decide)] at H; exact H
        clear H
        have H := H1
        clear H1
        have H' := Aside0.mk H
        clear H
        obtain ⟨Ao17, co17, eo17⟩ := Kd.R_slice HO215.out
        subst eo17
        obtain ⟨Ao18, co18, eo18⟩ := Kd.R_slice HO219.out
        subst eo18
        go_wp2_with (first | ((with_reducible refine gate_callee (f := 49) rfl ?_); refine goesL_ (some 27) rfl rfl Tryd.func49 (by kernel_rfl) rfl #[.slice Ao17 t213.length co17, .slice Ao18 t217.length co18] rfl (by (try simp only [List.map_toArray, List.map_cons, List.map_nil]); first | done | rfl | (simp only [List.length_drop, List.length_take]; rfl)) ?_; (with_reducible refine (montageref23_Texts.calls k _ _ t213 _ _ t217 false _ ?side1 ?side2 ?side3 ?side4 A13.out).mono ?_); (case side1 => repeat (first | exact (Kd.R_reads' HO215.out).2.2 | (with_reducible refine Kd.C_alloc ?_ _) | (with_reducible refine Kd.C_drewN ?_ _) | (with_reducible refine Kd.C_drew ?_))); (case side2 => exact (Kd.R_reads' HO215.out).2.1); (case side3 => repeat (first | exact (Kd.R_reads' HO219.out).2.2 | (with_reducible refine Kd.C_alloc ?_ _) | (with_reducible refine Kd.C_drewN ?_ _) | (with_reducible refine Kd.C_drew ?_))); (case side4 => exact (Kd.R_reads' HO219.out).2.1); rintro e w' ⟨rfl, ⟨nd, rfl⟩⟩; refine ⟨_, rfl, ?_⟩))
        go_meet
        case rel => exact ⟨_, (true), (by first | rfl | (simp; done) | (simp [*]; done)), H', ⟨by first | omega | exact Nat.le_refl _⟩, ⟨by (with_reducible repeat (first | apply Kd.R_alloc | apply Kd.R_drewN | apply Kd.R_drew)); exact Kd.R_mono HO215.out (fun _ hk => trivial)⟩, ⟨by (with_reducible repeat (first | refine blk_drewN ?_ _ | refine blk_drew ?_ | refine blk_alloc ?_ _)); exact BK211.out⟩, ⟨by repeat (first | (with_reducible first | exact HB.out | apply below_alloc | apply pw_below_drewN | apply below_drew1 | refine below_set ?_ GE211.out) | exact HB.out)⟩⟩
    case rest =>
      clear HC6
      try clear c1
      try clear p2
      try clear c3
      try clear c4
      try clear c12
      try clear c14
      try clear hcz11_0
      try clear hcz11_1
      try clear hcz11_2
      try clear hcz11_3
      try clear hcz11_4
      try clear hcz9_0
      try clear hcz9_1
      try clear hcz9_2
      try clear hcz9_3
      try clear hcz9_4
      try clear hfz11_0
      try clear hfz11_1
      try clear hfz11_2
      try clear hfz11_3
      try clear hfz11_4
      try clear hfz9_0
      try clear hfz9_1
      try clear hfz9_2
      try clear hfz9_3
      try clear hfz9_4
      obtain ⟨kq, x33_5, rfl, HA, HJ5, HO_3, BK211, HB⟩ := hcut
      cases kq with
      | zero => exact absurd HA.out (by simp [montagelaw31_OptionBack.j0])
      | succ kj5 =>
        have H := HA.out
        clear HA
        simp only [montagelaw31_OptionBack.j0] at H
        by_cases c19 : x33_5 = true
        · subst c19
          have H1 : (some false) = some r := by rw [if_pos rfl] at H; exact H
          clear H
          have H := H1
          clear H1
          obtain rfl := Option.some.inj H
          cases hr_.out
        · replace c19 := Bool.eq_false_iff.mpr c19
          subst c19
          have H1 : (if t220 = 0 then (montagelaw31_OptionBack.l0 kj5 t213 ([] : List ByteArray) (wrap64 ((t213.length : Int) - 1)) a0_0 a0_1 a0_2 a0_3 a0_4) else (some true)) = some r := by rw [if_neg (show ¬ (false = true) by decide)] at H; exact H
          clear H
          have H := H1
          clear H1
          by_cases c20 : t220 = 0
          · rw [if_pos c20] at H
            have c20b0 : (t220 == 0) = true := beq_iff_eq.mpr c20
            have c20b1 : (t220 != 0) = false := bne_eq_false_iff_eq.mpr c20
            clear c20
            have H' := Aside0.mk H
            clear H
            obtain ⟨Ao21, co21, eo21⟩ := Kd.R_slice HO_3.out
            subst eo21
            go_wp2
            go_loopg [7, 8] kj5 (fun kq v7 v8 w' => ∃ (x7_2 : List ByteArray) (x8_2 : Int), v8 = .int .i64 x8_2 ∧ Aside0 (montagelaw31_OptionBack.l0 kq t213 x7_2 x8_2 a0_0 a0_1 a0_2 a0_3 a0_4 = some r) ∧ Aside0 (kq ≤ kj5) ∧ Aside0 (Kd.R Kd.string 9 w' w.heap.size (fun k_ => some k_ ≠ (v7 : Value).ownBlock) (.slice Ao21 t213.length co21) t213) ∧ Aside0 (Kd.R Kd.string 9 w' w.heap.size (fun k_ => some k_ ≠ ((.slice Ao21 t213.length co21) : Value).ownBlock) v7 x7_2) ∧ Aside0 (w'.heap[gb211]? = some (.cells #[.int .i64 a0_0, .bool a0_1, .bool a0_2, .bool a0_3, .int .i64 a0_4] 58 (0, 0))) ∧ Aside0 (Below w.heap.size w w'))
            case atStart => exact ⟨(([] : List ByteArray)), (wrap64 ((t213.length : Int) - 1)), (by first | rfl | (simp; done) | (simp [*]; done)), H', ⟨Nat.le_refl _⟩, ⟨by (with_reducible repeat (first | apply Kd.R_alloc | apply Kd.R_drewN | apply Kd.R_drew)); exact Kd.R_mono HO_3.out (fun _ hk => (by simp [Value.ownBlock]))⟩, ⟨by first | exact Kd.R_nil _ _ _ _ _ | exact Kd.N_nil _ _ _ _ _ | exact Kd.V_nil _ _ _ _ _ | exact Kd.Q_nil _ _ _ _ _ | exact Kd.S_nil _ _ _ _ _⟩, ⟨by (with_reducible repeat (first | refine blk_drewN ?_ _ | refine blk_drew ?_ | refine blk_alloc ?_ _)); exact BK211.out⟩, ⟨by repeat (first | (with_reducible first | exact HB.out | apply below_alloc | apply pw_below_drewN | apply below_drew1 | refine below_set ?_ GE211.out) | exact HB.out)⟩⟩
            case round =>
              clear H'
              try clear c1
              try clear c2
              try clear p2
              try clear c3
              try clear c4
              try clear p6
              try clear c12
              try clear c14
              try clear c19
              try clear c20
              try clear c20b0
              try clear c20b1
              try clear hcz11_0
              try clear hcz11_1
              try clear hcz11_2
              try clear hcz11_3
              try clear hcz11_4
              try clear hcz9_0
              try clear hcz9_1
              try clear hcz9_2
              try clear hcz9_3
              try clear hcz9_4
              try clear hfz11_0
              try clear hfz11_1
              try clear hfz11_2
              try clear hfz11_3
              try clear hfz11_4
              try clear hfz9_0
              try clear hfz9_1
              try clear hfz9_2
              try clear hfz9_3
              try clear hfz9_4
              try clear p2
              obtain ⟨x7_2, x8_2, rfl, HA, HK2, HO_3, HO_7, BK211, HB⟩ := hrel
              cases gk with
              | zero => exact absurd HA.out (by simp [montagelaw31_OptionBack.l0])
              | succ k2 =>
                have H := HA.out
                clear HA
                simp only [montagelaw31_OptionBack.l0] at H
                by_cases c22 : x8_2 ≥ 0
                · rw [if_pos c22] at H
                  have c22b0 : decide (0 ≤ x8_2) = true := decide_eq_true c22
                  clear c22
                  by_cases c23 : 0 ≤ x8_2
                  · rw [if_pos c23] at H
                    have c23b0 : decide (0 ≤ x8_2) = true := decide_eq_true c23
                    clear c23
                    by_cases c24 : x8_2 < (t213.length : Int)
                    · rw [if_pos c24] at H
                      have c24b0 : decide (x8_2 < (t213.length : Int)) = true := decide_eq_true c24
                      clear c24
                      by_cases c25 : x7_2.length < 8796093022208
                      · rw [if_pos c25] at H
                        have LMc25 := Aside0.mk c25
                        clear c25
                        obtain ⟨y223, hy223⟩ : ∃ y_ : List ByteArray, y_ = (x7_2 ++ [rdOf ByteArray.empty t213 x8_2]) := ⟨_, rfl⟩
                        replace H : (montagelaw31_OptionBack.l0 k2 t213 y223 (wrap64 (x8_2 - 1)) a0_0 a0_1 a0_2 a0_3 a0_4) = some r := by first | (rw [hy223]; with_reducible exact H) | (have H2_ := (Option.bind_some _ _).symm.trans H; rw [hy223]; with_reducible exact H2_) | (have H2_ := (Option.bind_some _ _).symm.trans H; with_reducible exact H2_) | with_reducible exact H | (rw [hy223]; exact H) | exact H
                        have Ny223 := Aside0.mk hy223
                        clear hy223
                        have H' := Aside0.mk H
                        clear H
                        have p222 : 0 ≤ (x8_2 : Int) := of_decide_eq_true (by first | (with_reducible assumption) | assumption)
                        have q222 : x8_2 < (t213.length : Int) := of_decide_eq_true (by first | (with_reducible assumption) | assumption)
                        obtain ⟨ad222, e222, hx222_0⟩ := Kd.at_string (Kd.R_reads' HO_3.out).2.2 x8_2 p222 q222
                        cases e222
                        replace p222 := eq_true p222
                        replace q222 := eq_true q222
                        go_wp2_with (first | ((with_reducible refine gate_builtin (b := .append) (xs := #[.tmp 43, .tmp 48]) rfl ?_); at_builtin; refine Kd.R_append Kd.string (w0 := w) w.heap.size rfl (.tmp 43) (.tmp 48) 56 9 (.string ⟨#[]⟩) 16 rfl Tryd.underlying56 info9 rfl (by decide) (by omega) u7 x7_2 (rdOf ByteArray.empty t213 x8_2) [.string (rdOf ByteArray.empty t213 x8_2)] (fun k_ => some k_ ≠ (.slice (some ad222) t213.length co21 : Value).ownBlock) (fun _ => False) rfl rfl ?aP (fun _ hk => hk.elim) ?aF ?aO ?aB ?aS ?aL ?_; (case aP => exact rfl); (case aB => exact (by repeat (first | (with_reducible first | exact HB.out | apply below_alloc | apply pw_below_drewN | apply below_drew1 | refine below_set ?_ GE211.out) | exact HB.out))); (case aF => exact (fun k_ hk => Kd.fresh' (Kd.R_lt (by (with_reducible repeat (first | apply Kd.R_alloc | apply Kd.R_drewN | apply Kd.R_drew)); exact HO_3.out)) k_ hk)); (case aO => exact (by (with_reducible repeat (first | apply Kd.R_alloc | apply Kd.R_drewN | apply Kd.R_drew)); exact HO_7.out)); (case aS => exact (below_size (by repeat (first | (with_reducible first | exact HB.out | apply below_alloc | apply pw_below_drewN | apply below_drew1 | refine below_set ?_ GE211.out) | exact HB.out)))); (case aL => have := LMc25.out; omega); intro v224 w26 ho hb hg hat; rw [← Ny223.out] at ho; have n0_ := Aside0.mk (Kd.R_after (ok := (fun _ => True)) (by (with_reducible repeat (first | apply Kd.R_alloc | apply Kd.R_drewN | apply Kd.R_drew)); exact Kd.R_mono HO_3.out (fun _ hk => ⟨trivial, hk⟩)) hg hat); have n1_ := Aside0.mk (blk_grown (g := gb211) (o := .cells #[.int .i64 a0_0, .bool a0_1, .bool a0_2, .bool a0_3, .int .i64 a0_4] 58 (0, 0)) (by (with_reducible repeat (first | refine blk_drewN ?_ _ | refine blk_drew ?_ | refine blk_alloc ?_ _)); exact BK211.out) hg (Kd.R_ne HO_7.out BK211.out (by decide))); have n2_ := Aside0.mk (hb); have n3_ := Aside0.mk (ho); clear HO_3; clear BK211; clear HB; clear HO_7; have HO_3 := n0_; have BK211 := n1_; have HB := n2_; have HO225 := n3_; clear n0_ n1_ n2_ n3_; clear ho hb hg hat))
                        go_roundg k2
                        case measure => have := HJ5.out; have := HK2.out; omega
                        case rel => exact ⟨(y223), (wrap64 (x8_2 - 1)), (by first | rfl | (simp; done) | (simp [*]; done)), H', ⟨by have := HJ5.out; have := HK2.out; omega⟩, ⟨by (with_reducible repeat (first | apply Kd.R_alloc | apply Kd.R_drewN | apply Kd.R_drew)); exact Kd.R_mono HO_3.out (fun _ hk => hk.2)⟩, ⟨by (with_reducible repeat (first | apply Kd.R_alloc | apply Kd.R_drewN | apply Kd.R_drew)); exact HO225.out⟩, ⟨by (with_reducible repeat (first | refine blk_drewN ?_ _ | refine blk_drew ?_ | refine blk_alloc ?_ _)); exact BK211.out⟩, ⟨by repeat (first | (with_reducible first | exact HB.out | apply below_alloc | apply pw_below_drewN | apply below_drew1 | refine below_set ?_ GE211.out) | exact HB.out)⟩⟩
                      · rw [if_neg c25] at H
                        exact absurd H (by simp)
                    · rw [if_neg c24] at H
                      exact absurd H (by simp)
                  · rw [if_neg c23] at H
                    exact absurd H (by simp)
                · rw [if_neg c22] at H
                  have c22b0 : decide (0 ≤ x8_2) = false := decide_eq_false c22
                  clear c22
                  replace H := Option.bind_eq_some_iff.mp H
                  obtain ⟨⟨t226, t227, t228, t229, t230, t231⟩, A270, H⟩ := H
                  replace H : ((option_Parse.f x7_2).bind fun bt233 => (if (t226 == a0_0 && (t227 == a0_1 && (t228 == a0_2 && (t229 == a0_3 && (t230 == a0_4))))) = true then (if t231 = 0 then (if (bt233.1 == a0_0 && (bt233.2.1 == a0_1 && (bt233.2.2.1 == a0_2 && (bt233.2.2.2.1 == a0_3 && (bt233.2.2.2.2.1 == a0_4))))) = true then (some (bt233.2.2.2.2.2 == 0)) else (some false)) else (some false)) else (some false))) = some r := H
                  have A27 := Aside0.mk A270
                  clear A270
                  replace H := Option.bind_eq_some_iff.mp H
                  obtain ⟨⟨t233, t234, t235, t236, t237, t238⟩, A280, H⟩ := H
                  replace H : (if (t226 == a0_0 && (t227 == a0_1 && (t228 == a0_2 && (t229 == a0_3 && (t230 == a0_4))))) = true then (if t231 = 0 then (if (t233 == a0_0 && (t234 == a0_1 && (t235 == a0_2 && (t236 == a0_3 && (t237 == a0_4))))) = true then (some (t238 == 0)) else (some false)) else (some false)) else (some false)) = some r := H
                  have A28 := Aside0.mk A280
                  clear A280
                  by_cases c29 : (t226 == a0_0 && (t227 == a0_1 && (t228 == a0_2 && (t229 == a0_3 && (t230 == a0_4))))) = true
                  · rw [if_pos c29] at H
                    have c29b0 : (t226 == a0_0 && (t227 == a0_1 && (t228 == a0_2 && (t229 == a0_3 && (t230 == a0_4))))) = true := c29
                    (try (have c29b1 : decide (t226 = a0_0 && (t227 == a0_1 && (t228 == a0_2 && (t229 == a0_3 && (t230 == a0_4))))) = true := by simpa using c29))
                    (try (have c29b2 : (t226 == a0_0 && (t227 == a0_1 && (t228 == a0_2 && (t229 == a0_3 && (t230 == a0_4))))) = true := by simpa using c29))
                    clear c29
                    by_cases c30 : t231 = 0
                    · rw [if_pos c30] at H
                      have c30b0 : (t231 == 0) = true := beq_iff_eq.mpr c30
                      have c30b1 : (t231 != 0) = false := bne_eq_false_iff_eq.mpr c30
                      clear c30
                      by_cases c31 : (t233 == a0_0 && (t234 == a0_1 && (t235 == a0_2 && (t236 == a0_3 && (t237 == a0_4))))) = true
                      · rw [if_pos c31] at H
                        have c31b0 : (t233 == a0_0 && (t234 == a0_1 && (t235 == a0_2 && (t236 == a0_3 && (t237 == a0_4))))) = true := c31
                        (try (have c31b1 : decide (t233 = a0_0 && (t234 == a0_1 && (t235 == a0_2 && (t236 == a0_3 && (t237 == a0_4))))) = true := by simpa using c31))
                        (try (have c31b2 : (t233 == a0_0 && (t234 == a0_1 && (t235 == a0_2 && (t236 == a0_3 && (t237 == a0_4))))) = true := by simpa using c31))
                        clear c31
                        obtain rfl := Option.some.inj H
                        simp only [Option.some.injEq, Prod.mk.injEq] at H
                        obtain ⟨rfl⟩ := H
                        go_wp2_with (first | ((with_reducible refine gate_callee (f := 45) rfl ?_); refine goesL_ (some 52) rfl rfl Tryd.func45 (by kernel_rfl) rfl #[.slice Ao21 t213.length co21] rfl (by (try simp only [List.map_toArray, List.map_cons, List.map_nil]); first | done | rfl | (simp only [List.length_drop, List.length_take]; rfl)) ?_; (with_reducible refine (option_Parse.calls _ _ t213 t226 t227 t228 t229 t230 t231 _ ?side1 ?side2 A27.out (XGlob.Laid.below HL.out (by repeat (first | (with_reducible first | exact HB.out | apply below_alloc | apply pw_below_drewN | apply below_drew1 | refine below_set ?_ (Aside0.out (by assumption))) | exact HB.out)))).mono ?_); (case side1 => repeat (first | exact (Kd.R_reads' HO_3.out).2.2 | (with_reducible refine Kd.C_alloc ?_ _) | (with_reducible refine Kd.C_drewN ?_ _) | (with_reducible refine Kd.C_drew ?_))); (case side2 => exact (Kd.R_reads' HO_3.out).2.1); rintro e w32 ⟨rfl, hb⟩; refine ⟨_, rfl, ?_⟩; have n0_ := Aside0.mk (Kd.R_below (by (with_reducible repeat (first | apply Kd.R_alloc | apply Kd.R_drewN | apply Kd.R_drew)); exact HO_3.out) hb); have n1_ := Aside0.mk (Kd.R_below (by (with_reducible repeat (first | apply Kd.R_alloc | apply Kd.R_drewN | apply Kd.R_drew)); exact HO_7.out) hb); have n2_ := Aside0.mk (blk_below (g := gb211) (o := .cells #[.int .i64 a0_0, .bool a0_1, .bool a0_2, .bool a0_3, .int .i64 a0_4] 58 (0, 0)) (by (with_reducible repeat (first | refine blk_drewN ?_ _ | refine blk_drew ?_ | refine blk_alloc ?_ _)); exact BK211.out) hb); have n3_ := Aside0.mk (below_step (by repeat (first | (with_reducible first | exact HB.out | apply below_alloc | apply pw_below_drewN | apply below_drew1 | refine below_set ?_ GE211.out) | exact HB.out)) hb); clear HO_3; clear HO_7; clear BK211; clear HB; have HO_3 := n0_; have HO_7 := n1_; have BK211 := n2_; have HB := n3_; clear n0_ n1_ n2_ n3_; (try clear hb); (try clear hb2); (try clear hk); (try clear hi)) | ((with_reducible refine gate_dst (N := 9) rfl ?_); refine box_event ?hg (N := 9) ?hd (cs := #[.int .i64 0, .bool false, .bool false, .bool false, .int .i64 0]) (t := 58) ?hr ?_; (case hd => rfl); (case hg => rfl); (case hr => first | (go_simp; done) | (go_simp; rfl)); intro gb232 hg w33 hbox hb; have n0_ := Aside0.mk (Kd.R_below (by (with_reducible repeat (first | apply Kd.R_alloc | apply Kd.R_drewN | apply Kd.R_drew)); exact HO_3.out) hb); have n1_ := Aside0.mk (Kd.R_below (by (with_reducible repeat (first | apply Kd.R_alloc | apply Kd.R_drewN | apply Kd.R_drew)); exact HO_7.out) hb); have n2_ := Aside0.mk (blk_below (g := gb211) (o := .cells #[.int .i64 a0_0, .bool a0_1, .bool a0_2, .bool a0_3, .int .i64 a0_4] 58 (0, 0)) (by (with_reducible repeat (first | refine blk_drewN ?_ _ | refine blk_drew ?_ | refine blk_alloc ?_ _)); exact BK211.out) hb); have n3_ := Aside0.mk (below_step (by repeat (first | (with_reducible first | exact HB.out | apply below_alloc | apply pw_below_drewN | apply below_drew1 | refine below_set ?_ GE211.out) | exact HB.out)) hb); have n4_ := Aside0.mk (hbox); have n5_ := Aside0.mk ((by rw [hg]; exact (below_size (by repeat (first | (with_reducible first | exact HB.out | apply below_alloc | apply pw_below_drewN | apply below_drew1 | refine below_set ?_ GE211.out) | exact HB.out))) : w.heap.size ≤ gb232)); have n6_ := Aside0.mk ((by rw [hg]; exact (below_size (by repeat (first | (with_reducible first | exact HB.out | apply below_alloc | apply pw_below_drewN | apply below_drew1 | refine below_set ?_ GE211.out) | exact HB.out))) : w.heap.size ≤ gb232)); have n7_ := Aside0.mk ((by rw [hg]; exact Nat.ne_of_lt (blk_lt (g := gb211) (o := .cells #[.int .i64 a0_0, .bool a0_1, .bool a0_2, .bool a0_3, .int .i64 a0_4] 58 (0, 0)) (by (with_reducible repeat (first | refine blk_drewN ?_ _ | refine blk_drew ?_ | refine blk_alloc ?_ _)); exact BK211.out)) : gb211 ≠ gb232)); have n8_ := Aside0.mk ((by rw [hg]; exact Nat.ne_of_gt (blk_lt (g := gb211) (o := .cells #[.int .i64 a0_0, .bool a0_1, .bool a0_2, .bool a0_3, .int .i64 a0_4] 58 (0, 0)) (by (with_reducible repeat (first | refine blk_drewN ?_ _ | refine blk_drew ?_ | refine blk_alloc ?_ _)); exact BK211.out)) : gb232 ≠ gb211)); clear HO_3; clear HO_7; clear BK211; clear HB; have HO_3 := n0_; have HO_7 := n1_; have BK211 := n2_; have HB := n3_; have BK232 := n4_; have GW232 := n5_; have GE232 := n6_; have NB211_232 := n7_; have NB232_211 := n8_; clear n0_ n1_ n2_ n3_ n4_ n5_ n6_ n7_ n8_; clear hb hbox hg; have hnb34 := NB232_211.out; have hnc34 := NB211_232.out; have hcz35_0 : w33.cell? ⟨gb232, 0, none⟩ = some (.int .i64 0) := (blk_cell BK232.out 0).trans rfl; have hcz35_1 : w33.cell? ⟨gb232, 1, none⟩ = some (.bool false) := (blk_cell BK232.out 1).trans rfl; have hcz35_2 : w33.cell? ⟨gb232, 2, none⟩ = some (.bool false) := (blk_cell BK232.out 2).trans rfl; have hcz35_3 : w33.cell? ⟨gb232, 3, none⟩ = some (.bool false) := (blk_cell BK232.out 3).trans rfl; have hcz35_4 : w33.cell? ⟨gb232, 4, none⟩ = some (.int .i64 0) := (blk_cell BK232.out 4).trans rfl; have hfz35_0 := blk_frozen BK232.out 0; have hfz35_1 := blk_frozen BK232.out 1; have hfz35_2 := blk_frozen BK232.out 2; have hfz35_3 := blk_frozen BK232.out 3; have hfz35_4 := blk_frozen BK232.out 4; obtain ⟨Ao36, co36, eo36⟩ := Kd.R_slice HO_7.out; subst eo36) | ((with_reducible refine gate_callee (f := 45) rfl ?_); refine goesL_ (some 57) rfl rfl Tryd.func45 (by kernel_rfl) rfl #[.slice Ao36 x7_2.length co36] rfl (by (try simp only [List.map_toArray, List.map_cons, List.map_nil]); first | done | rfl | (simp only [List.length_drop, List.length_take]; rfl)) ?_; (with_reducible refine (option_Parse.calls _ _ x7_2 t233 t234 t235 t236 t237 t238 _ ?side1 ?side2 A28.out (XGlob.Laid.below HL.out (by repeat (first | (with_reducible first | exact HB.out | apply below_alloc | apply pw_below_drewN | apply below_drew1 | refine below_set ?_ (Aside0.out (by assumption))) | exact HB.out)))).mono ?_); (case side1 => refine (Kd.R_reads' (e := 9) (base := w.heap.size) (ok := fun k_ => some k_ ≠ (.slice Ao21 t213.length co21 : Value).ownBlock) (n := x7_2.length) (c := co36) ?_).2.2; exact (by (with_reducible repeat (first | apply Kd.R_alloc | apply Kd.R_drewN | apply Kd.R_drew)); exact (Kd.R_mono (Kd.R_far (p := ⟨gb232, 4, none⟩) (Kd.R_far (p := ⟨gb232, 3, none⟩) (Kd.R_far (p := ⟨gb232, 2, none⟩) (Kd.R_far (p := ⟨gb232, 1, none⟩) (Kd.R_far (p := ⟨gb232, 0, none⟩) (Kd.R_types HO_7.out BK232.out (by decide)) (fun _ hk => hk.2) (.int .i64 t226)) (fun _ hk => hk.2) (.bool t227)) (fun _ hk => hk.2) (.bool t228)) (fun _ hk => hk.2) (.bool t229)) (fun _ hk => hk.2) (.int .i64 t230)) (fun _ h_ => h_.1)))); (case side2 => exact (Kd.R_reads' HO_7.out).2.1); rintro e w37 ⟨rfl, hb⟩; refine ⟨_, rfl, ?_⟩; have n0_ := Aside0.mk (Kd.R_below (by (with_reducible repeat (first | apply Kd.R_alloc | apply Kd.R_drewN | apply Kd.R_drew)); exact (Kd.R_mono (Kd.R_far (p := ⟨gb232, 4, none⟩) (Kd.R_far (p := ⟨gb232, 3, none⟩) (Kd.R_far (p := ⟨gb232, 2, none⟩) (Kd.R_far (p := ⟨gb232, 1, none⟩) (Kd.R_far (p := ⟨gb232, 0, none⟩) (Kd.R_types HO_3.out BK232.out (by decide)) (fun _ hk => hk.2) (.int .i64 t226)) (fun _ hk => hk.2) (.bool t227)) (fun _ hk => hk.2) (.bool t228)) (fun _ hk => hk.2) (.bool t229)) (fun _ hk => hk.2) (.int .i64 t230)) (fun _ h_ => h_.1))) hb); have n1_ := Aside0.mk (Kd.R_below (by (with_reducible repeat (first | apply Kd.R_alloc | apply Kd.R_drewN | apply Kd.R_drew)); exact (Kd.R_mono (Kd.R_far (p := ⟨gb232, 4, none⟩) (Kd.R_far (p := ⟨gb232, 3, none⟩) (Kd.R_far (p := ⟨gb232, 2, none⟩) (Kd.R_far (p := ⟨gb232, 1, none⟩) (Kd.R_far (p := ⟨gb232, 0, none⟩) (Kd.R_types HO_7.out BK232.out (by decide)) (fun _ hk => hk.2) (.int .i64 t226)) (fun _ hk => hk.2) (.bool t227)) (fun _ hk => hk.2) (.bool t228)) (fun _ hk => hk.2) (.bool t229)) (fun _ hk => hk.2) (.int .i64 t230)) (fun _ h_ => h_.1))) hb); have n2_ := Aside0.mk (blk_below (g := gb211) (o := .cells #[.int .i64 a0_0, .bool a0_1, .bool a0_2, .bool a0_3, .int .i64 a0_4] 58 (0, 0)) (by (with_reducible repeat (first | refine blk_drewN ?_ _ | refine blk_drew ?_ | refine blk_alloc ?_ _)); refine blk_far ?_ NB211_232.out _; (with_reducible repeat (first | refine blk_drewN ?_ _ | refine blk_drew ?_ | refine blk_alloc ?_ _)); refine blk_far ?_ NB211_232.out _; (with_reducible repeat (first | refine blk_drewN ?_ _ | refine blk_drew ?_ | refine blk_alloc ?_ _)); refine blk_far ?_ NB211_232.out _; (with_reducible repeat (first | refine blk_drewN ?_ _ | refine blk_drew ?_ | refine blk_alloc ?_ _)); refine blk_far ?_ NB211_232.out _; (with_reducible repeat (first | refine blk_drewN ?_ _ | refine blk_drew ?_ | refine blk_alloc ?_ _)); refine blk_far ?_ NB211_232.out _; (with_reducible repeat (first | refine blk_drewN ?_ _ | refine blk_drew ?_ | refine blk_alloc ?_ _)); exact BK211.out) hb); have n3_ := Aside0.mk (blk_below (g := gb232) (o := .cells #[.int .i64 t226, .bool t227, .bool t228, .bool t229, .int .i64 t230] 58 (0, 0)) (by (with_reducible repeat (first | refine blk_drewN ?_ _ | refine blk_drew ?_ | refine blk_alloc ?_ _)); refine blk_put (cs := #[.int .i64 t226, .bool t227, .bool t228, .bool t229, .int .i64 0]) ?_ 4 _ rfl; (with_reducible repeat (first | refine blk_drewN ?_ _ | refine blk_drew ?_ | refine blk_alloc ?_ _)); refine blk_put (cs := #[.int .i64 t226, .bool t227, .bool t228, .bool false, .int .i64 0]) ?_ 3 _ rfl; (with_reducible repeat (first | refine blk_drewN ?_ _ | refine blk_drew ?_ | refine blk_alloc ?_ _)); refine blk_put (cs := #[.int .i64 t226, .bool t227, .bool false, .bool false, .int .i64 0]) ?_ 2 _ rfl; (with_reducible repeat (first | refine blk_drewN ?_ _ | refine blk_drew ?_ | refine blk_alloc ?_ _)); refine blk_put (cs := #[.int .i64 t226, .bool false, .bool false, .bool false, .int .i64 0]) ?_ 1 _ rfl; (with_reducible repeat (first | refine blk_drewN ?_ _ | refine blk_drew ?_ | refine blk_alloc ?_ _)); refine blk_put (cs := #[.int .i64 0, .bool false, .bool false, .bool false, .int .i64 0]) ?_ 0 _ rfl; (with_reducible repeat (first | refine blk_drewN ?_ _ | refine blk_drew ?_ | refine blk_alloc ?_ _)); exact BK232.out) hb); have n4_ := Aside0.mk (below_step (by repeat (first | (with_reducible first | exact HB.out | apply below_alloc | apply pw_below_drewN | apply below_drew1 | refine below_set ?_ GE211.out | refine below_set ?_ GE232.out) | exact HB.out)) hb); clear HO_3; clear HO_7; clear BK211; clear BK232; clear HB; have HO_3 := n0_; have HO_7 := n1_; have BK211 := n2_; have BK232 := n3_; have HB := n4_; clear n0_ n1_ n2_ n3_ n4_; (try clear hb); (try clear hb2); (try clear hk); (try clear hi)) | ((with_reducible refine gate_dst (N := 11) rfl ?_); refine box_event ?hg (N := 11) ?hd (cs := #[.int .i64 0, .bool false, .bool false, .bool false, .int .i64 0]) (t := 58) ?hr ?_; (case hd => rfl); (case hg => rfl); (case hr => first | (go_simp; done) | (go_simp; rfl)); intro gb239 hg w38 hbox hb; have n0_ := Aside0.mk (Kd.R_below (by (with_reducible repeat (first | apply Kd.R_alloc | apply Kd.R_drewN | apply Kd.R_drew)); exact HO_3.out) hb); have n1_ := Aside0.mk (Kd.R_below (by (with_reducible repeat (first | apply Kd.R_alloc | apply Kd.R_drewN | apply Kd.R_drew)); exact HO_7.out) hb); have n2_ := Aside0.mk (blk_below (g := gb211) (o := .cells #[.int .i64 a0_0, .bool a0_1, .bool a0_2, .bool a0_3, .int .i64 a0_4] 58 (0, 0)) (by (with_reducible repeat (first | refine blk_drewN ?_ _ | refine blk_drew ?_ | refine blk_alloc ?_ _)); exact BK211.out) hb); have n3_ := Aside0.mk (blk_below (g := gb232) (o := .cells #[.int .i64 t226, .bool t227, .bool t228, .bool t229, .int .i64 t230] 58 (0, 0)) (by (with_reducible repeat (first | refine blk_drewN ?_ _ | refine blk_drew ?_ | refine blk_alloc ?_ _)); exact BK232.out) hb); have n4_ := Aside0.mk (below_step (by repeat (first | (with_reducible first | exact HB.out | apply below_alloc | apply pw_below_drewN | apply below_drew1 | refine below_set ?_ GE211.out | refine below_set ?_ GE232.out) | exact HB.out)) hb); have n5_ := Aside0.mk (hbox); have n6_ := Aside0.mk ((by rw [hg]; exact (below_size (by repeat (first | (with_reducible first | exact HB.out | apply below_alloc | apply pw_below_drewN | apply below_drew1 | refine below_set ?_ GE211.out | refine below_set ?_ GE232.out) | exact HB.out))) : w.heap.size ≤ gb239)); have n7_ := Aside0.mk ((by rw [hg]; exact (below_size (by repeat (first | (with_reducible first | exact HB.out | apply below_alloc | apply pw_below_drewN | apply below_drew1 | refine below_set ?_ GE211.out | refine below_set ?_ GE232.out) | exact HB.out))) : w.heap.size ≤ gb239)); have n8_ := Aside0.mk ((by rw [hg]; exact Nat.ne_of_lt (blk_lt (g := gb211) (o := .cells #[.int .i64 a0_0, .bool a0_1, .bool a0_2, .bool a0_3, .int .i64 a0_4] 58 (0, 0)) (by (with_reducible repeat (first | refine blk_drewN ?_ _ | refine blk_drew ?_ | refine blk_alloc ?_ _)); exact BK211.out)) : gb211 ≠ gb239)); have n9_ := Aside0.mk ((by rw [hg]; exact Nat.ne_of_gt (blk_lt (g := gb211) (o := .cells #[.int .i64 a0_0, .bool a0_1, .bool a0_2, .bool a0_3, .int .i64 a0_4] 58 (0, 0)) (by (with_reducible repeat (first | refine blk_drewN ?_ _ | refine blk_drew ?_ | refine blk_alloc ?_ _)); exact BK211.out)) : gb239 ≠ gb211)); have n10_ := Aside0.mk ((by rw [hg]; exact Nat.ne_of_lt (blk_lt (g := gb232) (o := .cells #[.int .i64 t226, .bool t227, .bool t228, .bool t229, .int .i64 t230] 58 (0, 0)) (by (with_reducible repeat (first | refine blk_drewN ?_ _ | refine blk_drew ?_ | refine blk_alloc ?_ _)); exact BK232.out)) : gb232 ≠ gb239)); have n11_ := Aside0.mk ((by rw [hg]; exact Nat.ne_of_gt (blk_lt (g := gb232) (o := .cells #[.int .i64 t226, .bool t227, .bool t228, .bool t229, .int .i64 t230] 58 (0, 0)) (by (with_reducible repeat (first | refine blk_drewN ?_ _ | refine blk_drew ?_ | refine blk_alloc ?_ _)); exact BK232.out)) : gb239 ≠ gb232)); clear HO_3; clear HO_7; clear BK211; clear BK232; clear HB; have HO_3 := n0_; have HO_7 := n1_; have BK211 := n2_; have BK232 := n3_; have HB := n4_; have BK239 := n5_; have GW239 := n6_; have GE239 := n7_; have NB211_239 := n8_; have NB239_211 := n9_; have NB232_239 := n10_; have NB239_232 := n11_; clear n0_ n1_ n2_ n3_ n4_ n5_ n6_ n7_ n8_ n9_ n10_ n11_; clear hb hbox hg; have hnb39 := NB239_211.out; have hnc39 := NB211_239.out; have hnb40 := NB239_232.out; have hnc40 := NB232_239.out; have hcz41_0 : w38.cell? ⟨gb239, 0, none⟩ = some (.int .i64 0) := (blk_cell BK239.out 0).trans rfl; have hcz41_1 : w38.cell? ⟨gb239, 1, none⟩ = some (.bool false) := (blk_cell BK239.out 1).trans rfl; have hcz41_2 : w38.cell? ⟨gb239, 2, none⟩ = some (.bool false) := (blk_cell BK239.out 2).trans rfl; have hcz41_3 : w38.cell? ⟨gb239, 3, none⟩ = some (.bool false) := (blk_cell BK239.out 3).trans rfl; have hcz41_4 : w38.cell? ⟨gb239, 4, none⟩ = some (.int .i64 0) := (blk_cell BK239.out 4).trans rfl; have hfz41_0 := blk_frozen BK239.out 0; have hfz41_1 := blk_frozen BK239.out 1; have hfz41_2 := blk_frozen BK239.out 2; have hfz41_3 := blk_frozen BK239.out 3; have hfz41_4 := blk_frozen BK239.out 4; have hcz42_0 : w38.cell? ⟨gb232, 0, none⟩ = some (.int .i64 t226) := (blk_cell BK232.out 0).trans rfl; have hcz42_1 : w38.cell? ⟨gb232, 1, none⟩ = some (.bool t227) := (blk_cell BK232.out 1).trans rfl; have hcz42_2 : w38.cell? ⟨gb232, 2, none⟩ = some (.bool t228) := (blk_cell BK232.out 2).trans rfl; have hcz42_3 : w38.cell? ⟨gb232, 3, none⟩ = some (.bool t229) := (blk_cell BK232.out 3).trans rfl; have hcz42_4 : w38.cell? ⟨gb232, 4, none⟩ = some (.int .i64 t230) := (blk_cell BK232.out 4).trans rfl; have hfz42_0 := blk_frozen BK232.out 0; have hfz42_1 := blk_frozen BK232.out 1; have hfz42_2 := blk_frozen BK232.out 2; have hfz42_3 := blk_frozen BK232.out 3; have hfz42_4 := blk_frozen BK232.out 4; have hcz43_0 : w38.cell? ⟨gb211, 0, none⟩ = some (.int .i64 a0_0) := (blk_cell BK211.out 0).trans rfl; have hcz43_1 : w38.cell? ⟨gb211, 1, none⟩ = some (.bool a0_1) := (blk_cell BK211.out 1).trans rfl; have hcz43_2 : w38.cell? ⟨gb211, 2, none⟩ = some (.bool a0_2) := (blk_cell BK211.out 2).trans rfl; have hcz43_3 : w38.cell? ⟨gb211, 3, none⟩ = some (.bool a0_3) := (blk_cell BK211.out 3).trans rfl; have hcz43_4 : w38.cell? ⟨gb211, 4, none⟩ = some (.int .i64 a0_4) := (blk_cell BK211.out 4).trans rfl; have hfz43_0 := blk_frozen BK211.out 0; have hfz43_1 := blk_frozen BK211.out 1; have hfz43_2 := blk_frozen BK211.out 2; have hfz43_3 := blk_frozen BK211.out 3; have hfz43_4 := blk_frozen BK211.out 4))
                        go_ret
                        exact ⟨by first | rfl | (simp [errW_none, errW_some] <;> rfl) | (simp [*, errW_none, errW_some] <;> rfl), by repeat (first | (with_reducible first | exact HB.out | apply below_alloc | apply pw_below_drewN | apply below_drew1 | refine below_set ?_ GE211.out | refine below_set ?_ GE232.out | refine below_set ?_ GE239.out) | exact HB.out)⟩
                      · rw [if_neg c31] at H
                        have c31b0 : (t233 == a0_0 && (t234 == a0_1 && (t235 == a0_2 && (t236 == a0_3 && (t237 == a0_4))))) = false := by simpa using c31
                        (try (have c31b1 : decide (t233 = a0_0 && (t234 == a0_1 && (t235 == a0_2 && (t236 == a0_3 && (t237 == a0_4))))) = false := by simpa using c31))
                        (try (have c31b2 : (t233 == a0_0 && (t234 == a0_1 && (t235 == a0_2 && (t236 == a0_3 && (t237 == a0_4))))) = false := by simpa using c31))
                        (try (have c31b3 : ¬ (t233 = a0_0 && (t234 == a0_1 && (t235 == a0_2 && (t236 == a0_3 && (t237 == a0_4))))) := by simpa using c31))
                        clear c31
                        obtain rfl := Option.some.inj H
                        cases hr_.out
                    · rw [if_neg c30] at H
                      have c30b0 : (t231 == 0) = false := beq_eq_false_iff_ne.mpr c30
                      have c30b1 : (t231 != 0) = true := bne_iff_ne.mpr c30
                      obtain rfl := Option.some.inj H
                      cases hr_.out
                  · rw [if_neg c29] at H
                    have c29b0 : (t226 == a0_0 && (t227 == a0_1 && (t228 == a0_2 && (t229 == a0_3 && (t230 == a0_4))))) = false := by simpa using c29
                    (try (have c29b1 : decide (t226 = a0_0 && (t227 == a0_1 && (t228 == a0_2 && (t229 == a0_3 && (t230 == a0_4))))) = false := by simpa using c29))
                    (try (have c29b2 : (t226 == a0_0 && (t227 == a0_1 && (t228 == a0_2 && (t229 == a0_3 && (t230 == a0_4))))) = false := by simpa using c29))
                    (try (have c29b3 : ¬ (t226 = a0_0 && (t227 == a0_1 && (t228 == a0_2 && (t229 == a0_3 && (t230 == a0_4))))) := by simpa using c29))
                    clear c29
                    obtain rfl := Option.some.inj H
                    cases hr_.out
          · rw [if_neg c20] at H
            have c20b0 : (t220 == 0) = false := beq_eq_false_iff_ne.mpr c20
            have c20b1 : (t220 != 0) = true := bne_iff_ne.mpr c20
            obtain rfl := Option.some.inj H
            simp only [Option.some.injEq, Prod.mk.injEq] at H
            obtain ⟨rfl⟩ := H
            go_wp2
            go_ret
            exact ⟨by first | rfl | (simp [errW_none, errW_some] <;> rfl) | (simp [*, errW_none, errW_some] <;> rfl), by repeat (first | (with_reducible first | exact HB.out | apply below_alloc | apply pw_below_drewN | apply below_drew1 | refine below_set ?_ GE211.out) | exact HB.out)⟩
  · replace c3 := Bool.eq_false_iff.mpr c3
    subst c3
    have H1 : (some false) = some r := by rw [if_neg (show ¬ (false = true) by decide)] at H; exact H
    clear H
    have H := H1
    clear H1
    obtain rfl := Option.some.inj H
    cases hr_.out

structure S58 where
  f0 : Int
  f1 : Bool
  f2 : Bool
  f3 : Bool
  f4 : Int
def k58 : Kd S58 := Kd.iso (Kd.pair (Kd.int .i64) (Kd.pair Kd.bool (Kd.pair Kd.bool (Kd.pair Kd.bool (Kd.int .i64))))) (fun x : S58 => (x.f0, x.f1, x.f2, x.f3, x.f4))
theorem k58_open {w : World} {x : S58} {cs : List Value} (h : k58.K w x cs) : cs = [.int .i64 x.f0, .bool x.f1, .bool x.f2, .bool x.f3, .int .i64 x.f4] := by
  obtain ⟨_, _, rfl, rfl, _, _, rfl, rfl, _, _, rfl, rfl, _, _, rfl, rfl, rfl⟩ := h
  exact rfl
def G58 (x : S58) : Prop := (Lit.int .i64 x.f0).wf = true ∧ True ∧ True ∧ True ∧ (Lit.int .i64 x.f4).wf = true
theorem opens58 : Opens.Opens Tryd.prog 58 k58 G58 := by
  intro H enc W fuel cs x h
  obtain ⟨xs, n, _, _, hl, hlen, hf⟩ := DataW.trod_struct Tryd.underlying58 h
  have l0_ : cs.length = 5 := hl.trans (by kernel_rfl)
  clear hl
  obtain ⟨v0, r0, e0_, l1_⟩ := Opens.cons_of (n := 4) l0_
  subst e0_
  obtain ⟨v1, r1, rfl, l2_⟩ := Opens.cons_of (n := 3) l1_
  obtain ⟨v2, r2, rfl, l3_⟩ := Opens.cons_of (n := 2) l2_
  obtain ⟨v3, r3, rfl, l4_⟩ := Opens.cons_of (n := 1) l3_
  obtain ⟨v4, r4, rfl, l5_⟩ := Opens.cons_of (n := 0) l4_
  obtain rfl := Opens.nil_of l5_
  have h0 : DataW.trod enc Tryd.prog W 0 (fun _ => true) true n 3 (List.take (Tryd.prog.cellsOf 3) (List.drop 0 [v0, v1, v2, v3, v4])) = xs[0]? := hf 0 _ rfl
  obtain ⟨y0, hy0⟩ : ∃ y, xs[0]? = some y := ⟨_, List.getElem?_eq_getElem (by rw [hlen]; decide)⟩
  rw [hy0, show Tryd.prog.cellsOf 3 = 1 from by kernel_rfl] at h0
  obtain ⟨a0, k0_, g0⟩ := (Opens.opens_int (k := .i64) Tryd.underlying3) _ _ _ _ _ _ h0
  have h1 : DataW.trod enc Tryd.prog W 0 (fun _ => true) true n 4 (List.take (Tryd.prog.cellsOf 4) (List.drop 1 [v0, v1, v2, v3, v4])) = xs[1]? := hf 1 _ rfl
  obtain ⟨y1, hy1⟩ : ∃ y, xs[1]? = some y := ⟨_, List.getElem?_eq_getElem (by rw [hlen]; decide)⟩
  rw [hy1, show Tryd.prog.cellsOf 4 = 1 from by kernel_rfl] at h1
  obtain ⟨a1, k1_, g1⟩ := (Opens.opens_bool Tryd.underlying4) _ _ _ _ _ _ h1
  have h2 : DataW.trod enc Tryd.prog W 0 (fun _ => true) true n 4 (List.take (Tryd.prog.cellsOf 4) (List.drop 2 [v0, v1, v2, v3, v4])) = xs[2]? := hf 2 _ rfl
  obtain ⟨y2, hy2⟩ : ∃ y, xs[2]? = some y := ⟨_, List.getElem?_eq_getElem (by rw [hlen]; decide)⟩
  rw [hy2, show Tryd.prog.cellsOf 4 = 1 from by kernel_rfl] at h2
  obtain ⟨a2, k2_, g2⟩ := (Opens.opens_bool Tryd.underlying4) _ _ _ _ _ _ h2
  have h3 : DataW.trod enc Tryd.prog W 0 (fun _ => true) true n 4 (List.take (Tryd.prog.cellsOf 4) (List.drop 3 [v0, v1, v2, v3, v4])) = xs[3]? := hf 3 _ rfl
  obtain ⟨y3, hy3⟩ : ∃ y, xs[3]? = some y := ⟨_, List.getElem?_eq_getElem (by rw [hlen]; decide)⟩
  rw [hy3, show Tryd.prog.cellsOf 4 = 1 from by kernel_rfl] at h3
  obtain ⟨a3, k3_, g3⟩ := (Opens.opens_bool Tryd.underlying4) _ _ _ _ _ _ h3
  have h4 : DataW.trod enc Tryd.prog W 0 (fun _ => true) true n 3 (List.take (Tryd.prog.cellsOf 3) (List.drop 4 [v0, v1, v2, v3, v4])) = xs[4]? := hf 4 _ rfl
  obtain ⟨y4, hy4⟩ : ∃ y, xs[4]? = some y := ⟨_, List.getElem?_eq_getElem (by rw [hlen]; decide)⟩
  rw [hy4, show Tryd.prog.cellsOf 3 = 1 from by kernel_rfl] at h4
  obtain ⟨a4, k4_, g4⟩ := (Opens.opens_int (k := .i64) Tryd.underlying3) _ _ _ _ _ _ h4
  exact ⟨⟨a0, a1, a2, a3, a4⟩, ⟨[v0], [v1, v2, v3, v4], rfl, k0_, ⟨[v1], [v2, v3, v4], rfl, k1_, ⟨[v2], [v3, v4], rfl, k2_, ⟨[v3], [v4], rfl, k3_, k4_⟩⟩⟩⟩, g0, g1, g2, g3, g4⟩
/-- The one pure statement of montagelaw31_OptionBack. -/
def montagelaw31_OptionBack.Pure : Prop := ∀ (a0_0 : Int) (a0_1 : Bool) (a0_2 : Bool) (a0_3 : Bool) (a0_4 : Int), G58 ((⟨a0_0, a0_1, a0_2, a0_3, a0_4⟩ : S58)) → ∃ k, montagelaw31_OptionBack.f k a0_0 a0_1 a0_2 a0_3 a0_4 = some true
theorem montagelaw31_OptionBack.walk (P : montagelaw31_OptionBack.Pure) (a0_0 : Int) (a0_1 : Bool) (a0_2 : Bool) (a0_3 : Bool) (a0_4 : Int) (w : World) (g0 : G58 ((⟨a0_0, a0_1, a0_2, a0_3, a0_4⟩ : S58))) (hL : XGlob.Laid w) :
    Calls Tryd.prog 12 #[.agg #[.int .i64 a0_0, .bool a0_1, .bool a0_2, .bool a0_3, .int .i64 a0_4]] w fun e w' => e = .returned (.bool true) ∧ Below w.heap.size w w' := by
  obtain ⟨k, h⟩ := P a0_0 a0_1 a0_2 a0_3 a0_4 g0
  refine (montagelaw31_OptionBack.calls k a0_0 a0_1 a0_2 a0_3 a0_4 true w  h ⟨rfl⟩ hL).mono ?_
  rintro e w' ⟨rfl, hd⟩
  exact ⟨rfl, hd⟩

end Go.Proofs.YtdaofffedfccmaaDoor.XOptionAny
-- laidx
