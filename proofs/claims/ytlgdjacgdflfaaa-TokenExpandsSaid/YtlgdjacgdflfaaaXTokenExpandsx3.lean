-- Written by this session's own program wip/xprint.py: a changed copy of the kit's print.
import Derived.Test.YtlgdjacgdflfaaaXTokenExpandsx0
import Derived.Test.YtlgdjacgdflfaaaXTokenExpandsx2
namespace Go.Proofs.Ytlgdjacgdflfaaa.XTokenExpands
open Go.RowKit Go.Proofs.YtlgdjacgdflfaaaW.PrintWords Go.Proofs.YtlgdjacgdflfaaaW.PrintLast Go.Proofs.YtlgdjacgdflfaaaW.PrintMore
attribute [local go_sem] max2_int min2_int max_two min_two max_three min_three max_four min_four   -- for this text's walks alone
set_option linter.unusedVariables false
set_option linter.unusedSimpArgs false

/-! ### montageref07_Expand: function 14 -/
mutual
def montageref07_Expand.l0 : Nat → List (S30) → Int → List Int → Int → Option (ByteArray × Int)
  | 0, _, _, _, _ => none
  | k + 1, x0, x1, x6, x7 => if x7 < (x0.length : Int) then (if 0 ≤ x7 then ((montageref07_May.f ((rd_T30 x0 x7).f0) ((rd_T30 x0 x7).f1) ((rd_T30 x0 x7).f2)).bind fun t138 => (if t138 = true then (if ((rd_T30 x0 x7).f2) > (x6.length : Int) then (some ((⟨#[]⟩ : ByteArray), 2)) else (if ((rd_T30 x0 x7).f1) = 0 then (montageref07_Expand.j1 k x0 x1 x6 x7 1 ((rd_T30 x0 x7).f0) ((rd_T30 x0 x7).f1) ((rd_T30 x0 x7).f2)) else (montageref07_Expand.j1 k x0 x1 x6 x7 ((rd_T30 x0 x7).f1) ((rd_T30 x0 x7).f0) ((rd_T30 x0 x7).f1) ((rd_T30 x0 x7).f2)))) else (some ((⟨#[]⟩ : ByteArray), 1)))) else (none)) else (some (strOfNums x6, 0))
def montageref07_Expand.j1 : Nat → List (S30) → Int → List Int → Int → Int → Int → Int → Int → Option (ByteArray × Int)
  | 0, _, _, _, _, _, _, _, _ => none
  | k + 1, x0, x1, x6, x7, x9, x138000, x138001, x138002 => if x1 < x9 then (montageref07_Expand.j2 k x0 x1 x6 x7 x9 true x138000 x138001 x138002) else (montageref07_Expand.j2 k x0 x1 x6 x7 x9 (decide ((x6.length : Int) > (wrap64 (x1 - x9)))) x138000 x138001 x138002)
def montageref07_Expand.j2 : Nat → List (S30) → Int → List Int → Int → Int → Bool → Int → Int → Int → Option (ByteArray × Int)
  | 0, _, _, _, _, _, _, _, _, _ => none
  | k + 1, x0, x1, x6, x7, x9, x43, x138000, x138001, x138002 => if x43 = true then (some ((⟨#[]⟩ : ByteArray), 7)) else (if x138001 = 0 then (if x6.length < 140737488355328 then (montageref07_Expand.l0 k x0 x1 (x6 ++ [x138000]) (wrap64 (x7 + 1))) else (none)) else (montageref07_Expand.l1 k x0 x1 x6 x7 x9 0 x138000 x138001 x138002))
def montageref07_Expand.l1 : Nat → List (S30) → Int → List Int → Int → Int → Int → Int → Int → Int → Option (ByteArray × Int)
  | 0, _, _, _, _, _, _, _, _, _ => none
  | k + 1, x0, x1, x6, x7, x9, x10, x138000, x138001, x138002 => if x10 < x9 then (if 0 ≤ (wrap64 ((x6.length : Int) - x138002)) then (if (wrap64 ((x6.length : Int) - x138002)) < (x6.length : Int) then (if x6.length < 140737488355328 then (montageref07_Expand.l1 k x0 x1 (x6 ++ [rd x6 (wrap64 ((x6.length : Int) - x138002))]) x7 x9 (wrap64 (x10 + 1)) x138000 x138001 x138002) else (none)) else (none)) else (none)) else (montageref07_Expand.l0 k x0 x1 x6 (wrap64 (x7 + 1)))
end
def montageref07_Expand.f (k : Nat) (l0 : List (S30)) (a1 : Int) : Option (ByteArray × Int) := montageref07_Expand.l0 k l0 a1 ([] : List Int) 0
theorem montageref07_Expand.mono_l : ∀ k, (∀ y0 y1 y2 y3, LeO (montageref07_Expand.l0 k y0 y1 y2 y3) (montageref07_Expand.l0 (k + 1) y0 y1 y2 y3)) ∧ (∀ y0 y1 y2 y3 y4 y5 y6 y7, LeO (montageref07_Expand.j1 k y0 y1 y2 y3 y4 y5 y6 y7) (montageref07_Expand.j1 (k + 1) y0 y1 y2 y3 y4 y5 y6 y7)) ∧ (∀ y0 y1 y2 y3 y4 y5 y6 y7 y8, LeO (montageref07_Expand.j2 k y0 y1 y2 y3 y4 y5 y6 y7 y8) (montageref07_Expand.j2 (k + 1) y0 y1 y2 y3 y4 y5 y6 y7 y8)) ∧ (∀ y0 y1 y2 y3 y4 y5 y6 y7 y8, LeO (montageref07_Expand.l1 k y0 y1 y2 y3 y4 y5 y6 y7 y8) (montageref07_Expand.l1 (k + 1) y0 y1 y2 y3 y4 y5 y6 y7 y8))
  | 0 => ⟨fun _ _ _ _ r h => by simp [montageref07_Expand.l0] at h, fun _ _ _ _ _ _ _ _ r h => by simp [montageref07_Expand.j1] at h, fun _ _ _ _ _ _ _ _ _ r h => by simp [montageref07_Expand.j2] at h, fun _ _ _ _ _ _ _ _ _ r h => by simp [montageref07_Expand.l1] at h⟩
  | k + 1 => by
    obtain ⟨ih0, ih1, ih2, ih3⟩ := montageref07_Expand.mono_l k
    refine ⟨?_, ?_, ?_, ?_⟩
    · intro y0 y1 y2 y3
      unfold montageref07_Expand.l0
      repeat' first
      | (with_reducible exact ih0 _ _ _ _)
      | (with_reducible exact ih1 _ _ _ _ _ _ _ _)
      | (with_reducible exact ih2 _ _ _ _ _ _ _ _ _)
      | (with_reducible exact ih3 _ _ _ _ _ _ _ _ _)
      | (with_reducible exact LeO.refl _)
      | (with_reducible exact LeO.none _)
      | (with_reducible refine LeO.ite ?_ ?_)
      | (with_reducible refine LeO.bind ?_ (fun _ => ?_))
      | exact ih0 _ _ _ _
      | exact ih1 _ _ _ _ _ _ _ _
      | exact ih2 _ _ _ _ _ _ _ _ _
      | exact ih3 _ _ _ _ _ _ _ _ _
      | exact LeO.none _
      | refine LeO.ite ?_ ?_
      | refine LeO.bind ?_ (fun _ => ?_)
    · intro y0 y1 y2 y3 y4 y5 y6 y7
      unfold montageref07_Expand.j1
      repeat' first
      | (with_reducible exact ih0 _ _ _ _)
      | (with_reducible exact ih1 _ _ _ _ _ _ _ _)
      | (with_reducible exact ih2 _ _ _ _ _ _ _ _ _)
      | (with_reducible exact ih3 _ _ _ _ _ _ _ _ _)
      | (with_reducible exact LeO.refl _)
      | (with_reducible exact LeO.none _)
      | (with_reducible refine LeO.ite ?_ ?_)
      | (with_reducible refine LeO.bind ?_ (fun _ => ?_))
      | exact ih0 _ _ _ _
      | exact ih1 _ _ _ _ _ _ _ _
      | exact ih2 _ _ _ _ _ _ _ _ _
      | exact ih3 _ _ _ _ _ _ _ _ _
      | exact LeO.none _
      | refine LeO.ite ?_ ?_
      | refine LeO.bind ?_ (fun _ => ?_)
    · intro y0 y1 y2 y3 y4 y5 y6 y7 y8
      unfold montageref07_Expand.j2
      repeat' first
      | (with_reducible exact ih0 _ _ _ _)
      | (with_reducible exact ih1 _ _ _ _ _ _ _ _)
      | (with_reducible exact ih2 _ _ _ _ _ _ _ _ _)
      | (with_reducible exact ih3 _ _ _ _ _ _ _ _ _)
      | (with_reducible exact LeO.refl _)
      | (with_reducible exact LeO.none _)
      | (with_reducible refine LeO.ite ?_ ?_)
      | (with_reducible refine LeO.bind ?_ (fun _ => ?_))
      | exact ih0 _ _ _ _
      | exact ih1 _ _ _ _ _ _ _ _
      | exact ih2 _ _ _ _ _ _ _ _ _
      | exact ih3 _ _ _ _ _ _ _ _ _
      | exact LeO.none _
      | refine LeO.ite ?_ ?_
      | refine LeO.bind ?_ (fun _ => ?_)
    · intro y0 y1 y2 y3 y4 y5 y6 y7 y8
      unfold montageref07_Expand.l1
      repeat' first
      | (with_reducible exact ih0 _ _ _ _)
      | (with_reducible exact ih1 _ _ _ _ _ _ _ _)
      | (with_reducible exact ih2 _ _ _ _ _ _ _ _ _)
      | (with_reducible exact ih3 _ _ _ _ _ _ _ _ _)
      | (with_reducible exact LeO.refl _)
      | (with_reducible exact LeO.none _)
      | (with_reducible refine LeO.ite ?_ ?_)
      | (with_reducible refine LeO.bind ?_ (fun _ => ?_))
      | exact ih0 _ _ _ _
      | exact ih1 _ _ _ _ _ _ _ _
      | exact ih2 _ _ _ _ _ _ _ _ _
      | exact ih3 _ _ _ _ _ _ _ _ _
      | exact LeO.none _
      | refine LeO.ite ?_ ?_
      | refine LeO.bind ?_ (fun _ => ?_)
theorem montageref07_Expand.mono : ∀ a0 a1 k, LeO (montageref07_Expand.f k a0 a1) (montageref07_Expand.f (k + 1) a0 a1) := by
  intro a0 a1 k
  obtain ⟨ih0, ih1, ih2, ih3⟩ := montageref07_Expand.mono_l k
  unfold montageref07_Expand.f
  repeat' first
      | (with_reducible exact ih0 _ _ _ _)
      | (with_reducible exact ih1 _ _ _ _ _ _ _ _)
      | (with_reducible exact ih2 _ _ _ _ _ _ _ _ _)
      | (with_reducible exact ih3 _ _ _ _ _ _ _ _ _)
      | (with_reducible exact LeO.refl _)
      | (with_reducible exact LeO.none _)
      | (with_reducible refine LeO.ite ?_ ?_)
      | (with_reducible refine LeO.bind ?_ (fun _ => ?_))
      | exact ih0 _ _ _ _
      | exact ih1 _ _ _ _ _ _ _ _
      | exact ih2 _ _ _ _ _ _ _ _ _
      | exact ih3 _ _ _ _ _ _ _ _ _
      | exact LeO.none _
      | refine LeO.ite ?_ ?_
      | refine LeO.bind ?_ (fun _ => ?_)
set_option maxHeartbeats 8000000 in
set_option maxRecDepth 100000 in
theorem montageref07_Expand.calls (k : Nat) (A0 : Option Addr) (c0 : Nat) (l0 : List (S30)) (a1 : Int) (r1 : ByteArray) (r2 : Int) (w : World) (hr0 : Kd.C k30 w A0 l0.length l0) (hc0 : l0.length ≤ c0) (h : montageref07_Expand.f k l0 a1 = some (r1, r2)) :
    Calls Try.prog 14 #[.slice A0 l0.length c0, .int .i64 a1] w fun e w' => e = .returned (.tuple #[.string r1, .int .i64 r2]) ∧ Below w.heap.size w w' := by
  have hu30 := Try.underlying30
  have HR0 := Aside0.mk hr0
  have HC0 := Aside0.mk hc0
  clear hr0 hc0
  have HB := Aside0.mk (Below.refl w.heap.size w)
  have H : (montageref07_Expand.l0 k l0 a1 ([] : List Int) 0) = some (r1, r2) := h
  clear h
  have H' := Aside0.mk H
  clear H
  go_enter Try.func14, Try.ntmps14
  go_wp2
  go_loopg [6, 7] k (fun kq v6 v7 w' => ∃ (x6_1 : List Int) (x7_1 : Int), v7 = .int .i64 x7_1 ∧ Aside0 (montageref07_Expand.l0 kq l0 a1 x6_1 x7_1 = some (r1, r2)) ∧ Aside0 (kq ≤ k) ∧ Aside0 (Kd.R (Kd.int .u8) 5 w' w.heap.size (fun _ => True) v6 x6_1) ∧ Aside0 (Below w.heap.size w w'))
  case atStart => exact ⟨(([] : List Int)), (0), (by first | rfl | (simp; done) | (simp [*]; done)), H', ⟨Nat.le_refl _⟩, ⟨by first | exact Kd.R_nil _ _ _ _ _ | exact Kd.N_nil _ _ _ _ _ | exact Kd.V_nil _ _ _ _ _ | exact Kd.Q_nil _ _ _ _ _ | exact Kd.S_nil _ _ _ _ _⟩, ⟨by repeat (first | (with_reducible first | exact HB.out | apply below_alloc | apply pw_below_drewN | apply below_drew1) | exact HB.out)⟩⟩
  case round =>
    clear H'
    try clear c1
    try clear p2
    obtain ⟨x6_1, x7_1, rfl, HA, HK1, HO_6, HB⟩ := hrel
    cases gk with
    | zero => exact absurd HA.out (by simp [montageref07_Expand.l0])
    | succ k1 =>
      have H := HA.out
      clear HA
      simp only [montageref07_Expand.l0] at H
      by_cases c3 : x7_1 < (l0.length : Int)
      · rw [if_pos c3] at H
        have c3b0 : decide (x7_1 < (l0.length : Int)) = true := decide_eq_true c3
        clear c3
        by_cases c4 : 0 ≤ x7_1
        · rw [if_pos c4] at H
          have c4b0 : decide (0 ≤ x7_1) = true := decide_eq_true c4
          clear c4
          replace H := Option.bind_eq_some_iff.mp H
          obtain ⟨t138, A50, H⟩ := H
          replace H : (if t138 = true then (if ((rd_T30 l0 x7_1).f2) > (x6_1.length : Int) then (some ((⟨#[]⟩ : ByteArray), 2)) else (if ((rd_T30 l0 x7_1).f1) = 0 then (montageref07_Expand.j1 k1 l0 a1 x6_1 x7_1 1 ((rd_T30 l0 x7_1).f0) ((rd_T30 l0 x7_1).f1) ((rd_T30 l0 x7_1).f2)) else (montageref07_Expand.j1 k1 l0 a1 x6_1 x7_1 ((rd_T30 l0 x7_1).f1) ((rd_T30 l0 x7_1).f0) ((rd_T30 l0 x7_1).f1) ((rd_T30 l0 x7_1).f2)))) else (some ((⟨#[]⟩ : ByteArray), 1))) = some (r1, r2) := H
          have A5 := Aside0.mk A50
          clear A50
          by_cases c6 : t138 = true
          · subst c6
            have H1 : (if ((rd_T30 l0 x7_1).f2) > (x6_1.length : Int) then (some ((⟨#[]⟩ : ByteArray), 2)) else (if ((rd_T30 l0 x7_1).f1) = 0 then (montageref07_Expand.j1 k1 l0 a1 x6_1 x7_1 1 ((rd_T30 l0 x7_1).f0) ((rd_T30 l0 x7_1).f1) ((rd_T30 l0 x7_1).f2)) else (montageref07_Expand.j1 k1 l0 a1 x6_1 x7_1 ((rd_T30 l0 x7_1).f1) ((rd_T30 l0 x7_1).f0) ((rd_T30 l0 x7_1).f1) ((rd_T30 l0 x7_1).f2)))) = some (r1, r2) := by rw [if_pos rfl] at H; exact H
            clear H
            have H := H1
            clear H1
            by_cases c7 : ((rd_T30 l0 x7_1).f2) > (x6_1.length : Int)
            · rw [if_pos c7] at H
              have c7b0 : decide ((x6_1.length : Int) < ((rd_T30 l0 x7_1).f2)) = true := decide_eq_true c7
              clear c7
              simp only [Option.some.injEq, Prod.mk.injEq] at H
              obtain ⟨rfl, rfl⟩ := H
              have p136 : 0 ≤ (x7_1 : Int) := of_decide_eq_true (by first | (with_reducible assumption) | assumption)
              have q136 : x7_1 < (l0.length : Int) := of_decide_eq_true (by first | (with_reducible assumption) | assumption)
              obtain ⟨ad136, e136, hx136_0, hx136_1, hx136_2⟩ := at_T30 HR0.out x7_1 p136 q136
              cases e136
              replace hx136_0 := (HB.out.cell (World.block_lt_of_cell? w _ hx136_0)).trans hx136_0
              replace hx136_1 := (HB.out.cell (World.block_lt_of_cell? w _ hx136_1)).trans hx136_1
              replace hx136_2 := (HB.out.cell (World.block_lt_of_cell? w _ hx136_2)).trans hx136_2
              replace p136 := eq_true p136
              replace q136 := eq_true q136
              go_wp2_with (first | ((with_reducible refine gate_dst (N := 8) rfl ?_); (try (refine gate_guard (by rfl) ?_; dsimp only)); refine box_event ?hg (N := 8) ?hd (cs := #[.int .u8 0, .int .i64 0, .int .i64 0]) (t := 30) ?hr ?_; (case hd => rfl); (case hg => rfl); (case hr => first | (go_simp; done) | (go_simp; rfl)); intro gb137 hg w8 hbox hb; have n0_ := Aside0.mk (Kd.R_below (by (with_reducible repeat (first | apply Kd.R_alloc | apply Kd.R_drewN | apply Kd.R_drew)); exact HO_6.out) hb); have n1_ := Aside0.mk (below_step (by repeat (first | (with_reducible first | exact HB.out | apply below_alloc | apply pw_below_drewN | apply below_drew1) | exact HB.out)) hb); have n2_ := Aside0.mk (hbox); have n3_ := Aside0.mk ((by rw [hg]; exact (below_size (by repeat (first | (with_reducible first | exact HB.out | apply below_alloc | apply pw_below_drewN | apply below_drew1) | exact HB.out))) : w.heap.size ≤ gb137)); have n4_ := Aside0.mk ((by rw [hg]; exact (below_size (by repeat (first | (with_reducible first | exact HB.out | apply below_alloc | apply pw_below_drewN | apply below_drew1) | exact HB.out))) : w.heap.size ≤ gb137)); clear HO_6; clear HB; have HO_6 := n0_; have HB := n1_; have BK137 := n2_; have GW137 := n3_; have GE137 := n4_; clear n0_ n1_ n2_ n3_ n4_; clear hb hbox hg; have hcz9_0 : w8.cell? ⟨gb137, 0, none⟩ = some (.int .u8 0) := (blk_cell BK137.out 0).trans rfl; have hcz9_1 : w8.cell? ⟨gb137, 1, none⟩ = some (.int .i64 0) := (blk_cell BK137.out 1).trans rfl; have hcz9_2 : w8.cell? ⟨gb137, 2, none⟩ = some (.int .i64 0) := (blk_cell BK137.out 2).trans rfl; have hfz9_0 := blk_frozen BK137.out 0; have hfz9_1 := blk_frozen BK137.out 1; have hfz9_2 := blk_frozen BK137.out 2) | ((with_reducible refine gate_callee (f := 16) rfl ?_); refine goesL_ (some 22) rfl rfl Try.func16 (by kernel_rfl) rfl #[.agg #[.int .u8 ((rd_T30 l0 x7_1).f0), .int .i64 ((rd_T30 l0 x7_1).f1), .int .i64 ((rd_T30 l0 x7_1).f2)]] rfl (by (try simp only [List.map_toArray, List.map_cons, List.map_nil]); first | done | rfl | (simp only [List.length_drop, List.length_take]; rfl)) ?_; (with_reducible refine (montageref07_May.calls ((rd_T30 l0 x7_1).f0) ((rd_T30 l0 x7_1).f1) ((rd_T30 l0 x7_1).f2) true _ A5.out).mono ?_); rintro e w10 ⟨rfl, hb⟩; refine ⟨_, rfl, ?_⟩; have n0_ := Aside0.mk (Kd.R_below (by (with_reducible repeat (first | apply Kd.R_alloc | apply Kd.R_drewN | apply Kd.R_drew)); exact (Kd.R_mono (Kd.R_far (p := ⟨gb137, 2, none⟩) (Kd.R_far (p := ⟨gb137, 1, none⟩) (Kd.R_far (p := ⟨gb137, 0, none⟩) (Kd.R_types HO_6.out BK137.out (by decide)) (fun _ hk => hk.2) (.int .u8 ((rd_T30 l0 x7_1).f0))) (fun _ hk => hk.2) (.int .i64 ((rd_T30 l0 x7_1).f1))) (fun _ hk => hk.2) (.int .i64 ((rd_T30 l0 x7_1).f2))) (fun _ h_ => h_.1))) hb); have n1_ := Aside0.mk (blk_below (g := gb137) (o := .cells #[.int .u8 ((rd_T30 l0 x7_1).f0), .int .i64 ((rd_T30 l0 x7_1).f1), .int .i64 ((rd_T30 l0 x7_1).f2)] 30 (0, 0)) (by (with_reducible repeat (first | refine blk_drewN ?_ _ | refine blk_drew ?_ | refine blk_alloc ?_ _)); refine blk_put (cs := #[.int .u8 ((rd_T30 l0 x7_1).f0), .int .i64 ((rd_T30 l0 x7_1).f1), .int .i64 0]) ?_ 2 _ rfl; (with_reducible repeat (first | refine blk_drewN ?_ _ | refine blk_drew ?_ | refine blk_alloc ?_ _)); refine blk_put (cs := #[.int .u8 ((rd_T30 l0 x7_1).f0), .int .i64 0, .int .i64 0]) ?_ 1 _ rfl; (with_reducible repeat (first | refine blk_drewN ?_ _ | refine blk_drew ?_ | refine blk_alloc ?_ _)); refine blk_put (cs := #[.int .u8 0, .int .i64 0, .int .i64 0]) ?_ 0 _ rfl; (with_reducible repeat (first | refine blk_drewN ?_ _ | refine blk_drew ?_ | refine blk_alloc ?_ _)); exact BK137.out) hb); have n2_ := Aside0.mk (below_step (by repeat (first | (with_reducible first | exact HB.out | apply below_alloc | apply pw_below_drewN | apply below_drew1 | refine below_set ?_ GE137.out) | exact HB.out)) hb); clear HO_6; clear BK137; clear HB; have HO_6 := n0_; have BK137 := n1_; have HB := n2_; clear n0_ n1_ n2_; (try clear hb); (try clear hb2); (try clear hk); (try clear hi); have hcz11_0 : w10.cell? ⟨gb137, 0, none⟩ = some (.int .u8 ((rd_T30 l0 x7_1).f0)) := (blk_cell BK137.out 0).trans rfl; have hcz11_1 : w10.cell? ⟨gb137, 1, none⟩ = some (.int .i64 ((rd_T30 l0 x7_1).f1)) := (blk_cell BK137.out 1).trans rfl; have hcz11_2 : w10.cell? ⟨gb137, 2, none⟩ = some (.int .i64 ((rd_T30 l0 x7_1).f2)) := (blk_cell BK137.out 2).trans rfl; have hfz11_0 := blk_frozen BK137.out 0; have hfz11_1 := blk_frozen BK137.out 1; have hfz11_2 := blk_frozen BK137.out 2; obtain ⟨Ao12, co12, eo12⟩ := Kd.R_slice HO_6.out; subst eo12))
              go_ret2
              exact ⟨by first | rfl | (simp [errW_none, errW_some] <;> rfl) | (simp [*, errW_none, errW_some] <;> rfl), by repeat (first | (with_reducible first | exact HB.out | apply below_alloc | apply pw_below_drewN | apply below_drew1 | refine below_set ?_ GE137.out) | exact HB.out)⟩
            · rw [if_neg c7] at H
              have c7b0 : decide ((x6_1.length : Int) < ((rd_T30 l0 x7_1).f2)) = false := decide_eq_false c7
              clear c7
              have HC13 := Aside0.mk H
              clear H
              have p136 : 0 ≤ (x7_1 : Int) := of_decide_eq_true (by first | (with_reducible assumption) | assumption)
              have q136 : x7_1 < (l0.length : Int) := of_decide_eq_true (by first | (with_reducible assumption) | assumption)
              obtain ⟨ad136, e136, hx136_0, hx136_1, hx136_2⟩ := at_T30 HR0.out x7_1 p136 q136
              cases e136
              replace hx136_0 := (HB.out.cell (World.block_lt_of_cell? w _ hx136_0)).trans hx136_0
              replace hx136_1 := (HB.out.cell (World.block_lt_of_cell? w _ hx136_1)).trans hx136_1
              replace hx136_2 := (HB.out.cell (World.block_lt_of_cell? w _ hx136_2)).trans hx136_2
              replace p136 := eq_true p136
              replace q136 := eq_true q136
              go_upto_if 32 with (first | ((with_reducible refine gate_dst (N := 8) rfl ?_); (try (refine gate_guard (by rfl) ?_; dsimp only)); refine box_event ?hg (N := 8) ?hd (cs := #[.int .u8 0, .int .i64 0, .int .i64 0]) (t := 30) ?hr ?_; (case hd => rfl); (case hg => rfl); (case hr => first | (go_simp; done) | (go_simp; rfl)); intro gb137 hg w14 hbox hb; have n0_ := Aside0.mk (Kd.R_below (by (with_reducible repeat (first | apply Kd.R_alloc | apply Kd.R_drewN | apply Kd.R_drew)); exact HO_6.out) hb); have n1_ := Aside0.mk (below_step (by repeat (first | (with_reducible first | exact HB.out | apply below_alloc | apply pw_below_drewN | apply below_drew1) | exact HB.out)) hb); have n2_ := Aside0.mk (hbox); have n3_ := Aside0.mk ((by rw [hg]; exact (below_size (by repeat (first | (with_reducible first | exact HB.out | apply below_alloc | apply pw_below_drewN | apply below_drew1) | exact HB.out))) : w.heap.size ≤ gb137)); have n4_ := Aside0.mk ((by rw [hg]; exact (below_size (by repeat (first | (with_reducible first | exact HB.out | apply below_alloc | apply pw_below_drewN | apply below_drew1) | exact HB.out))) : w.heap.size ≤ gb137)); clear HO_6; clear HB; have HO_6 := n0_; have HB := n1_; have BK137 := n2_; have GW137 := n3_; have GE137 := n4_; clear n0_ n1_ n2_ n3_ n4_; clear hb hbox hg; have hcz15_0 : w14.cell? ⟨gb137, 0, none⟩ = some (.int .u8 0) := (blk_cell BK137.out 0).trans rfl; have hcz15_1 : w14.cell? ⟨gb137, 1, none⟩ = some (.int .i64 0) := (blk_cell BK137.out 1).trans rfl; have hcz15_2 : w14.cell? ⟨gb137, 2, none⟩ = some (.int .i64 0) := (blk_cell BK137.out 2).trans rfl; have hfz15_0 := blk_frozen BK137.out 0; have hfz15_1 := blk_frozen BK137.out 1; have hfz15_2 := blk_frozen BK137.out 2) | ((with_reducible refine gate_callee (f := 16) rfl ?_); refine goesL_ (some 22) rfl rfl Try.func16 (by kernel_rfl) rfl #[.agg #[.int .u8 ((rd_T30 l0 x7_1).f0), .int .i64 ((rd_T30 l0 x7_1).f1), .int .i64 ((rd_T30 l0 x7_1).f2)]] rfl (by (try simp only [List.map_toArray, List.map_cons, List.map_nil]); first | done | rfl | (simp only [List.length_drop, List.length_take]; rfl)) ?_; (with_reducible refine (montageref07_May.calls ((rd_T30 l0 x7_1).f0) ((rd_T30 l0 x7_1).f1) ((rd_T30 l0 x7_1).f2) true _ A5.out).mono ?_); rintro e w16 ⟨rfl, hb⟩; refine ⟨_, rfl, ?_⟩; have n0_ := Aside0.mk (Kd.R_below (by (with_reducible repeat (first | apply Kd.R_alloc | apply Kd.R_drewN | apply Kd.R_drew)); exact (Kd.R_mono (Kd.R_far (p := ⟨gb137, 2, none⟩) (Kd.R_far (p := ⟨gb137, 1, none⟩) (Kd.R_far (p := ⟨gb137, 0, none⟩) (Kd.R_types HO_6.out BK137.out (by decide)) (fun _ hk => hk.2) (.int .u8 ((rd_T30 l0 x7_1).f0))) (fun _ hk => hk.2) (.int .i64 ((rd_T30 l0 x7_1).f1))) (fun _ hk => hk.2) (.int .i64 ((rd_T30 l0 x7_1).f2))) (fun _ h_ => h_.1))) hb); have n1_ := Aside0.mk (blk_below (g := gb137) (o := .cells #[.int .u8 ((rd_T30 l0 x7_1).f0), .int .i64 ((rd_T30 l0 x7_1).f1), .int .i64 ((rd_T30 l0 x7_1).f2)] 30 (0, 0)) (by (with_reducible repeat (first | refine blk_drewN ?_ _ | refine blk_drew ?_ | refine blk_alloc ?_ _)); refine blk_put (cs := #[.int .u8 ((rd_T30 l0 x7_1).f0), .int .i64 ((rd_T30 l0 x7_1).f1), .int .i64 0]) ?_ 2 _ rfl; (with_reducible repeat (first | refine blk_drewN ?_ _ | refine blk_drew ?_ | refine blk_alloc ?_ _)); refine blk_put (cs := #[.int .u8 ((rd_T30 l0 x7_1).f0), .int .i64 0, .int .i64 0]) ?_ 1 _ rfl; (with_reducible repeat (first | refine blk_drewN ?_ _ | refine blk_drew ?_ | refine blk_alloc ?_ _)); refine blk_put (cs := #[.int .u8 0, .int .i64 0, .int .i64 0]) ?_ 0 _ rfl; (with_reducible repeat (first | refine blk_drewN ?_ _ | refine blk_drew ?_ | refine blk_alloc ?_ _)); exact BK137.out) hb); have n2_ := Aside0.mk (below_step (by repeat (first | (with_reducible first | exact HB.out | apply below_alloc | apply pw_below_drewN | apply below_drew1 | refine below_set ?_ GE137.out) | exact HB.out)) hb); clear HO_6; clear BK137; clear HB; have HO_6 := n0_; have BK137 := n1_; have HB := n2_; clear n0_ n1_ n2_; (try clear hb); (try clear hb2); (try clear hk); (try clear hi); have hcz17_0 : w16.cell? ⟨gb137, 0, none⟩ = some (.int .u8 ((rd_T30 l0 x7_1).f0)) := (blk_cell BK137.out 0).trans rfl; have hcz17_1 : w16.cell? ⟨gb137, 1, none⟩ = some (.int .i64 ((rd_T30 l0 x7_1).f1)) := (blk_cell BK137.out 1).trans rfl; have hcz17_2 : w16.cell? ⟨gb137, 2, none⟩ = some (.int .i64 ((rd_T30 l0 x7_1).f2)) := (blk_cell BK137.out 2).trans rfl; have hfz17_0 := blk_frozen BK137.out 0; have hfz17_1 := blk_frozen BK137.out 1; have hfz17_2 := blk_frozen BK137.out 2; obtain ⟨Ao18, co18, eo18⟩ := Kd.R_slice HO_6.out; subst eo18))
              (try simp only [Act.put, List.setIfInBounds_toArray, List.set_cons_zero, List.set_cons_succ])
              go_cut [9] (fun v9 wc => ∃ (kq : Nat) (x9_12 : Int), v9 = .int .i64 x9_12 ∧ Aside0 (montageref07_Expand.j1 kq l0 a1 x6_1 x7_1 x9_12 ((rd_T30 l0 x7_1).f0) ((rd_T30 l0 x7_1).f1) ((rd_T30 l0 x7_1).f2) = some (r1, r2)) ∧ Aside0 (kq ≤ k1) ∧ Aside0 (Kd.R (Kd.int .u8) 5 wc w.heap.size (fun _ => True) (.slice Ao18 x6_1.length co18) x6_1) ∧ Aside0 (wc.heap[gb137]? = some (.cells #[.int .u8 ((rd_T30 l0 x7_1).f0), .int .i64 ((rd_T30 l0 x7_1).f1), .int .i64 ((rd_T30 l0 x7_1).f2)] 30 (0, 0))) ∧ Aside0 (Below w.heap.size w wc))
              case first =>
                have H := HC13.out
                clear HC13
                by_cases c19 : ((rd_T30 l0 x7_1).f1) = 0
                · rw [if_pos c19] at H
                  have c19b0 : (((rd_T30 l0 x7_1).f1) == 0) = true := beq_iff_eq.mpr c19
                  have c19b1 : (((rd_T30 l0 x7_1).f1) != 0) = false := bne_eq_false_iff_eq.mpr c19
                  clear c19
                  (first | rw [c19b0] | (simp only [i64_w, i32_w]; rw [c19b0]) | skip)
                  have H' := Aside0.mk H
                  clear H
                  go_wp2
                  go_meet
                  case rel => exact ⟨_, (1), (by first | rfl | (simp; done) | (simp [*]; done)), H', ⟨by have := HK1.out; first | omega | exact Nat.le_refl _⟩, ⟨by (with_reducible repeat (first | apply Kd.R_alloc | apply Kd.R_drewN | apply Kd.R_drew)); exact HO_6.out⟩, ⟨by (with_reducible repeat (first | refine blk_drewN ?_ _ | refine blk_drew ?_ | refine blk_alloc ?_ _)); exact BK137.out⟩, ⟨by repeat (first | (with_reducible first | exact HB.out | apply below_alloc | apply pw_below_drewN | apply below_drew1 | refine below_set ?_ GE137.out) | exact HB.out)⟩⟩
                · rw [if_neg c19] at H
                  have c19b0 : (((rd_T30 l0 x7_1).f1) == 0) = false := beq_eq_false_iff_ne.mpr c19
                  have c19b1 : (((rd_T30 l0 x7_1).f1) != 0) = true := bne_iff_ne.mpr c19
                  (first | rw [c19b0] | (simp only [i64_w, i32_w]; rw [c19b0]) | skip)
                  have H' := Aside0.mk H
                  clear H
                  go_wp2
                  go_meet
                  case rel => exact ⟨_, ((rd_T30 l0 x7_1).f1), (by first | rfl | (simp; done) | (simp [*]; done)), H', ⟨by have := HK1.out; first | omega | exact Nat.le_refl _⟩, ⟨by (with_reducible repeat (first | apply Kd.R_alloc | apply Kd.R_drewN | apply Kd.R_drew)); exact HO_6.out⟩, ⟨by (with_reducible repeat (first | refine blk_drewN ?_ _ | refine blk_drew ?_ | refine blk_alloc ?_ _)); exact BK137.out⟩, ⟨by repeat (first | (with_reducible first | exact HB.out | apply below_alloc | apply pw_below_drewN | apply below_drew1 | refine below_set ?_ GE137.out) | exact HB.out)⟩⟩
              case rest =>
                clear HC13
                try clear c1
                try clear p1
                try clear q1
                try clear hx1
                try clear p2
                try clear c3
                try clear c3b0
                try clear c4
                try clear c4b0
                try clear c6
                try clear c7
                try clear c7b0
                try clear p13
                try clear q13
                try clear hx13
                try clear c14
                try clear c16
                try clear c19
                try clear c19b0
                try clear c19b1
                try clear hcz11_0
                try clear hcz11_1
                try clear hcz11_2
                try clear hcz15_0
                try clear hcz15_1
                try clear hcz15_2
                try clear hcz17_0
                try clear hcz17_1
                try clear hcz17_2
                try clear hcz9_0
                try clear hcz9_1
                try clear hcz9_2
                try clear hfz11_0
                try clear hfz11_1
                try clear hfz11_2
                try clear hfz15_0
                try clear hfz15_1
                try clear hfz15_2
                try clear hfz17_0
                try clear hfz17_1
                try clear hfz17_2
                try clear hfz9_0
                try clear hfz9_1
                try clear hfz9_2
                try clear hx136_0
                try clear hx136_1
                try clear hx136_2
                try clear p136
                try clear p2
                try clear q136
                obtain ⟨kq, x9_12, rfl, HA, HJ12, HO_6, BK137, HB⟩ := hcut
                cases kq with
                | zero => exact absurd HA.out (by simp [montageref07_Expand.j1])
                | succ kj12 =>
                  have H := HA.out
                  clear HA
                  simp only [montageref07_Expand.j1] at H
                  have HC20 := Aside0.mk H
                  clear H
                  go_upto_region 13 with (fail)
                  go_cut [43] (fun v43 wc => ∃ (kq : Nat) (x43_19 : Bool), v43 = .bool x43_19 ∧ Aside0 (montageref07_Expand.j2 kq l0 a1 x6_1 x7_1 x9_12 x43_19 ((rd_T30 l0 x7_1).f0) ((rd_T30 l0 x7_1).f1) ((rd_T30 l0 x7_1).f2) = some (r1, r2)) ∧ Aside0 (kq ≤ kj12) ∧ Aside0 (Kd.R (Kd.int .u8) 5 wc w.heap.size (fun _ => True) (.slice Ao18 x6_1.length co18) x6_1) ∧ Aside0 (wc.heap[gb137]? = some (.cells #[.int .u8 ((rd_T30 l0 x7_1).f0), .int .i64 ((rd_T30 l0 x7_1).f1), .int .i64 ((rd_T30 l0 x7_1).f2)] 30 (0, 0))) ∧ Aside0 (Below w.heap.size w wc))
                  case first =>
                    have H := HC20.out
                    clear HC20
                    by_cases c21 : a1 < x9_12
                    · rw [if_pos c21] at H
                      have c21b0 : decide (a1 < x9_12) = true := decide_eq_true c21
                      clear c21
                      (first | rw [c21b0] | (simp only [i64_w, i32_w]; rw [c21b0]) | skip)
                      have H' := Aside0.mk H
                      clear H
                      go_wp2
                      go_meet
                      case rel => exact ⟨_, (true), (by first | rfl | (simp; done) | (simp [*]; done)), H', ⟨by have := HK1.out; have := HJ12.out; first | omega | exact Nat.le_refl _⟩, ⟨by (with_reducible repeat (first | apply Kd.R_alloc | apply Kd.R_drewN | apply Kd.R_drew)); exact HO_6.out⟩, ⟨by (with_reducible repeat (first | refine blk_drewN ?_ _ | refine blk_drew ?_ | refine blk_alloc ?_ _)); exact BK137.out⟩, ⟨by repeat (first | (with_reducible first | exact HB.out | apply below_alloc | apply pw_below_drewN | apply below_drew1 | refine below_set ?_ GE137.out) | exact HB.out)⟩⟩
                    · rw [if_neg c21] at H
                      have c21b0 : decide (a1 < x9_12) = false := decide_eq_false c21
                      clear c21
                      (first | rw [c21b0] | (simp only [i64_w, i32_w]; rw [c21b0]) | skip)
                      have H' := Aside0.mk H
                      clear H
                      go_wp2
                      go_meet
                      case rel => exact ⟨_, (decide ((x6_1.length : Int) > (wrap64 (a1 - x9_12)))), (by first | rfl | (simp; done) | (simp [*]; done)), H', ⟨by have := HK1.out; have := HJ12.out; first | omega | exact Nat.le_refl _⟩, ⟨by (with_reducible repeat (first | apply Kd.R_alloc | apply Kd.R_drewN | apply Kd.R_drew)); exact HO_6.out⟩, ⟨by (with_reducible repeat (first | refine blk_drewN ?_ _ | refine blk_drew ?_ | refine blk_alloc ?_ _)); exact BK137.out⟩, ⟨by repeat (first | (with_reducible first | exact HB.out | apply below_alloc | apply pw_below_drewN | apply below_drew1 | refine below_set ?_ GE137.out) | exact HB.out)⟩⟩
                  case rest =>
                    clear HC20
                    try clear c1
                    try clear p1
                    try clear q1
                    try clear hx1
                    try clear c2
                    try clear p2
                    try clear c3
                    try clear c3b0
                    try clear c4
                    try clear c4b0
                    try clear c6
                    try clear p6
                    try clear c7
                    try clear c7b0
                    try clear p13
                    try clear q13
                    try clear hx13
                    try clear c14
                    try clear c16
                    try clear c19
                    try clear c19b0
                    try clear c19b1
                    try clear c21
                    try clear c21b0
                    try clear hcz11_0
                    try clear hcz11_1
                    try clear hcz11_2
                    try clear hcz15_0
                    try clear hcz15_1
                    try clear hcz15_2
                    try clear hcz17_0
                    try clear hcz17_1
                    try clear hcz17_2
                    try clear hcz9_0
                    try clear hcz9_1
                    try clear hcz9_2
                    try clear hfz11_0
                    try clear hfz11_1
                    try clear hfz11_2
                    try clear hfz15_0
                    try clear hfz15_1
                    try clear hfz15_2
                    try clear hfz17_0
                    try clear hfz17_1
                    try clear hfz17_2
                    try clear hfz9_0
                    try clear hfz9_1
                    try clear hfz9_2
                    try clear hx136_0
                    try clear hx136_1
                    try clear hx136_2
                    try clear p1
                    try clear p13
                    try clear p136
                    try clear p2
                    try clear q1
                    try clear q13
                    try clear q136
                    obtain ⟨kq, x43_19, rfl, HA, HJ19, HO_6, BK137, HB⟩ := hcut
                    cases kq with
                    | zero => exact absurd HA.out (by simp [montageref07_Expand.j2])
                    | succ kj19 =>
                      have H := HA.out
                      clear HA
                      simp only [montageref07_Expand.j2] at H
                      by_cases c22 : x43_19 = true
                      · subst c22
                        have H1 : (some ((⟨#[]⟩ : ByteArray), 7)) = some (r1, r2) := by rw [if_pos rfl] at H; exact H
                        clear H
                        have H := H1
                        clear H1
                        simp only [Option.some.injEq, Prod.mk.injEq] at H
                        obtain ⟨rfl, rfl⟩ := H
                        go_wp2
                        go_ret2
                        exact ⟨by first | rfl | (simp [errW_none, errW_some] <;> rfl) | (simp [*, errW_none, errW_some] <;> rfl), by repeat (first | (with_reducible first | exact HB.out | apply below_alloc | apply pw_below_drewN | apply below_drew1 | refine below_set ?_ GE137.out) | exact HB.out)⟩
                      · replace c22 := Bool.eq_false_iff.mpr c22
                        subst c22
                        have H1 : (if ((rd_T30 l0 x7_1).f1) = 0 then (if x6_1.length < 140737488355328 then (montageref07_Expand.l0 kj19 l0 a1 (x6_1 ++ [((rd_T30 l0 x7_1).f0)]) (wrap64 (x7_1 + 1))) else (none)) else (montageref07_Expand.l1 kj19 l0 a1 x6_1 x7_1 x9_12 0 ((rd_T30 l0 x7_1).f0) ((rd_T30 l0 x7_1).f1) ((rd_T30 l0 x7_1).f2))) = some (r1, r2) := by rw [if_neg (show ¬ (false = true) by decide)] at H; exact H
                        clear H
                        have H := H1
                        clear H1
                        by_cases c23 : ((rd_T30 l0 x7_1).f1) = 0
                        · rw [if_pos c23] at H
                          have c23b0 : (((rd_T30 l0 x7_1).f1) == 0) = true := beq_iff_eq.mpr c23
                          have c23b1 : (((rd_T30 l0 x7_1).f1) != 0) = false := bne_eq_false_iff_eq.mpr c23
                          clear c23
                          by_cases c24 : x6_1.length < 140737488355328
                          · rw [if_pos c24] at H
                            have LMc24 := Aside0.mk c24
                            clear c24
                            obtain ⟨y139, hy139⟩ : ∃ y_ : List Int, y_ = (x6_1 ++ [((rd_T30 l0 x7_1).f0)]) := ⟨_, rfl⟩
                            replace H : (montageref07_Expand.l0 kj19 l0 a1 y139 (wrap64 (x7_1 + 1))) = some (r1, r2) := by first | (rw [hy139]; with_reducible exact H) | (have H2_ := (Option.bind_some _ _).symm.trans H; rw [hy139]; with_reducible exact H2_) | (have H2_ := (Option.bind_some _ _).symm.trans H; with_reducible exact H2_) | with_reducible exact H | (rw [hy139]; exact H) | exact H
                            have Ny139 := Aside0.mk hy139
                            clear hy139
                            have H' := Aside0.mk H
                            clear H
                            have hcz25_0 : wc.cell? ⟨gb137, 0, none⟩ = some (.int .u8 ((rd_T30 l0 x7_1).f0)) := (blk_cell BK137.out 0).trans rfl
                            have hcz25_1 : wc.cell? ⟨gb137, 1, none⟩ = some (.int .i64 ((rd_T30 l0 x7_1).f1)) := (blk_cell BK137.out 1).trans rfl
                            have hcz25_2 : wc.cell? ⟨gb137, 2, none⟩ = some (.int .i64 ((rd_T30 l0 x7_1).f2)) := (blk_cell BK137.out 2).trans rfl
                            have hfz25_0 := blk_frozen BK137.out 0
                            have hfz25_1 := blk_frozen BK137.out 1
                            have hfz25_2 := blk_frozen BK137.out 2
                            go_wp2_with (first | ((with_reducible refine gate_builtin (b := .append) (xs := #[.tmp 47, .tmp 50]) rfl ?_); (try (refine gate_guard (by rfl) ?_; dsimp only)); at_builtin; refine Kd.R_append (Kd.int .u8) (w0 := w) w.heap.size rfl (.tmp 47) (.tmp 50) 45 5 (.int .u8 0) 1 rfl Try.underlying45 info5 rfl (by decide) (by omega) (.slice Ao18 x6_1.length co18) x6_1 ((rd_T30 l0 x7_1).f0) [.int .u8 ((rd_T30 l0 x7_1).f0)] (fun _ => True) (fun _ => False) rfl rfl ?aP (fun _ hk => hk.elim) ?aF ?aO ?aB ?aS ?aL ?_; (case aP => exact rfl); (case aB => exact (by repeat (first | (with_reducible first | exact HB.out | apply below_alloc | apply pw_below_drewN | apply below_drew1 | refine below_set ?_ GE137.out) | exact HB.out))); (case aF => exact (fun _ _ => trivial)); (case aO => exact (by (with_reducible repeat (first | apply Kd.R_alloc | apply Kd.R_drewN | apply Kd.R_drew)); exact HO_6.out)); (case aS => exact (below_size (by repeat (first | (with_reducible first | exact HB.out | apply below_alloc | apply pw_below_drewN | apply below_drew1 | refine below_set ?_ GE137.out) | exact HB.out)))); (case aL => have := LMc24.out; omega); intro v140 w26 ho hb hg hat; rw [← Ny139.out] at ho; have n0_ := Aside0.mk (blk_grown (g := gb137) (o := .cells #[.int .u8 ((rd_T30 l0 x7_1).f0), .int .i64 ((rd_T30 l0 x7_1).f1), .int .i64 ((rd_T30 l0 x7_1).f2)] 30 (0, 0)) (by (with_reducible repeat (first | refine blk_drewN ?_ _ | refine blk_drew ?_ | refine blk_alloc ?_ _)); exact BK137.out) hg (Kd.R_ne HO_6.out BK137.out (by decide))); have n1_ := Aside0.mk (hb); have n2_ := Aside0.mk (ho); clear BK137; clear HB; clear HO_6; have BK137 := n0_; have HB := n1_; have HO141 := n2_; clear n0_ n1_ n2_; clear ho hb hg hat))
                            go_roundg kj19
                            case measure => have := HK1.out; have := HJ12.out; have := HJ19.out; omega
                            case rel => exact ⟨(y139), (wrap64 (x7_1 + 1)), (by first | rfl | (simp; done) | (simp [*]; done)), H', ⟨by have := HK1.out; have := HJ12.out; have := HJ19.out; omega⟩, ⟨by (with_reducible repeat (first | apply Kd.R_alloc | apply Kd.R_drewN | apply Kd.R_drew)); exact HO141.out⟩, ⟨by repeat (first | (with_reducible first | exact HB.out | apply below_alloc | apply pw_below_drewN | apply below_drew1 | refine below_set ?_ GE137.out) | exact HB.out)⟩⟩
                          · rw [if_neg c24] at H
                            exact absurd H (by simp)
                        · rw [if_neg c23] at H
                          have c23b0 : (((rd_T30 l0 x7_1).f1) == 0) = false := beq_eq_false_iff_ne.mpr c23
                          have c23b1 : (((rd_T30 l0 x7_1).f1) != 0) = true := bne_iff_ne.mpr c23
                          have H' := Aside0.mk H
                          clear H
                          have hcz27_0 : wc.cell? ⟨gb137, 0, none⟩ = some (.int .u8 ((rd_T30 l0 x7_1).f0)) := (blk_cell BK137.out 0).trans rfl
                          have hcz27_1 : wc.cell? ⟨gb137, 1, none⟩ = some (.int .i64 ((rd_T30 l0 x7_1).f1)) := (blk_cell BK137.out 1).trans rfl
                          have hcz27_2 : wc.cell? ⟨gb137, 2, none⟩ = some (.int .i64 ((rd_T30 l0 x7_1).f2)) := (blk_cell BK137.out 2).trans rfl
                          have hfz27_0 := blk_frozen BK137.out 0
                          have hfz27_1 := blk_frozen BK137.out 1
                          have hfz27_2 := blk_frozen BK137.out 2
                          go_wp2
                          go_loopg [6, 10] kj19 (fun kq v6 v10 w' => ∃ (x6_4 : List Int) (x10_4 : Int), v10 = .int .i64 x10_4 ∧ Aside0 (montageref07_Expand.l1 kq l0 a1 x6_4 x7_1 x9_12 x10_4 ((rd_T30 l0 x7_1).f0) ((rd_T30 l0 x7_1).f1) ((rd_T30 l0 x7_1).f2) = some (r1, r2)) ∧ Aside0 (kq ≤ kj19) ∧ Aside0 (Kd.R (Kd.int .u8) 5 w' w.heap.size (fun _ => True) v6 x6_4) ∧ Aside0 (w'.heap[gb137]? = some (.cells #[.int .u8 ((rd_T30 l0 x7_1).f0), .int .i64 ((rd_T30 l0 x7_1).f1), .int .i64 ((rd_T30 l0 x7_1).f2)] 30 (0, 0))) ∧ Aside0 (Below w.heap.size w w'))
                          case atStart => exact ⟨(x6_1), (0), (by first | rfl | (simp; done) | (simp [*]; done)), H', ⟨Nat.le_refl _⟩, ⟨by (with_reducible repeat (first | apply Kd.R_alloc | apply Kd.R_drewN | apply Kd.R_drew)); exact HO_6.out⟩, ⟨by (with_reducible repeat (first | refine blk_drewN ?_ _ | refine blk_drew ?_ | refine blk_alloc ?_ _)); exact BK137.out⟩, ⟨by repeat (first | (with_reducible first | exact HB.out | apply below_alloc | apply pw_below_drewN | apply below_drew1 | refine below_set ?_ GE137.out) | exact HB.out)⟩⟩
                          case round =>
                            clear H'
                            try clear c1
                            try clear p1
                            try clear q1
                            try clear hx1
                            try clear c2
                            try clear p2
                            try clear c3
                            try clear c3b0
                            try clear c4
                            try clear c4b0
                            try clear c6
                            try clear p6
                            try clear c7
                            try clear c7b0
                            try clear p13
                            try clear q13
                            try clear hx13
                            try clear c14
                            try clear c16
                            try clear c19
                            try clear c19b0
                            try clear c19b1
                            try clear c21
                            try clear c21b0
                            try clear c22
                            try clear c23
                            try clear c23b0
                            try clear c23b1
                            try clear c24
                            try clear hcz11_0
                            try clear hcz11_1
                            try clear hcz11_2
                            try clear hcz15_0
                            try clear hcz15_1
                            try clear hcz15_2
                            try clear hcz17_0
                            try clear hcz17_1
                            try clear hcz17_2
                            try clear hcz25_0
                            try clear hcz25_1
                            try clear hcz25_2
                            try clear hcz27_0
                            try clear hcz27_1
                            try clear hcz27_2
                            try clear hcz9_0
                            try clear hcz9_1
                            try clear hcz9_2
                            try clear hfz11_0
                            try clear hfz11_1
                            try clear hfz11_2
                            try clear hfz15_0
                            try clear hfz15_1
                            try clear hfz15_2
                            try clear hfz17_0
                            try clear hfz17_1
                            try clear hfz17_2
                            try clear hfz25_0
                            try clear hfz25_1
                            try clear hfz25_2
                            try clear hfz27_0
                            try clear hfz27_1
                            try clear hfz27_2
                            try clear hfz9_0
                            try clear hfz9_1
                            try clear hfz9_2
                            try clear hx136_0
                            try clear hx136_1
                            try clear hx136_2
                            try clear p1
                            try clear p13
                            try clear p136
                            try clear p2
                            try clear p6
                            try clear q1
                            try clear q13
                            try clear q136
                            obtain ⟨x6_4, x10_4, rfl, HA, HK4, HO_6, BK137, HB⟩ := hrel
                            cases gk with
                            | zero => exact absurd HA.out (by simp [montageref07_Expand.l1])
                            | succ k4 =>
                              have H := HA.out
                              clear HA
                              simp only [montageref07_Expand.l1] at H
                              by_cases c28 : x10_4 < x9_12
                              · rw [if_pos c28] at H
                                have c28b0 : decide (x10_4 < x9_12) = true := decide_eq_true c28
                                clear c28
                                obtain ⟨ji29, hji29⟩ : ∃ j_ : Int, (wrap64 ((x6_4.length : Int) - ((rd_T30 l0 x7_1).f2))) = j_ := ⟨_, rfl⟩
                                replace H : (if 0 ≤ (ji29) then (if (ji29) < (x6_4.length : Int) then (if x6_4.length < 140737488355328 then (montageref07_Expand.l1 k4 l0 a1 (x6_4 ++ [rd x6_4 (ji29)]) x7_1 x9_12 (wrap64 (x10_4 + 1)) ((rd_T30 l0 x7_1).f0) ((rd_T30 l0 x7_1).f1) ((rd_T30 l0 x7_1).f2)) else (none)) else (none)) else (none)) = some (r1, r2) := by first | (rw [hji29] at H; exact H) | (simp only [hji29] at H ⊢; exact H)
                                have hji29w : (IntKind.i64.wrap ((x6_4.length : Int) - ((rd_T30 l0 x7_1).f2))) = ji29 := (i64_w _).trans hji29
                                by_cases c30 : 0 ≤ (ji29)
                                · rw [if_pos c30] at H
                                  have c30b0 : decide (0 ≤ (ji29)) = true := decide_eq_true c30
                                  clear c30
                                  by_cases c31 : (ji29) < (x6_4.length : Int)
                                  · rw [if_pos c31] at H
                                    have c31b0 : decide ((ji29) < (x6_4.length : Int)) = true := decide_eq_true c31
                                    clear c31
                                    by_cases c32 : x6_4.length < 140737488355328
                                    · rw [if_pos c32] at H
                                      have LMc32 := Aside0.mk c32
                                      clear c32
                                      obtain ⟨y143, hy143⟩ : ∃ y_ : List Int, y_ = (x6_4 ++ [rd x6_4 (ji29)]) := ⟨_, rfl⟩
                                      replace H : (montageref07_Expand.l1 k4 l0 a1 y143 x7_1 x9_12 (wrap64 (x10_4 + 1)) ((rd_T30 l0 x7_1).f0) ((rd_T30 l0 x7_1).f1) ((rd_T30 l0 x7_1).f2)) = some (r1, r2) := by first | (rw [hy143]; with_reducible exact H) | (have H2_ := (Option.bind_some _ _).symm.trans H; rw [hy143]; with_reducible exact H2_) | (have H2_ := (Option.bind_some _ _).symm.trans H; with_reducible exact H2_) | with_reducible exact H | (rw [hy143]; exact H) | exact H
                                      have Ny143 := Aside0.mk hy143
                                      clear hy143
                                      have H' := Aside0.mk H
                                      clear H
                                      obtain ⟨Ao33, co33, eo33⟩ := Kd.R_slice HO_6.out
                                      subst eo33
                                      have hcz34_0 : wr.cell? ⟨gb137, 0, none⟩ = some (.int .u8 ((rd_T30 l0 x7_1).f0)) := (blk_cell BK137.out 0).trans rfl
                                      have hcz34_1 : wr.cell? ⟨gb137, 1, none⟩ = some (.int .i64 ((rd_T30 l0 x7_1).f1)) := (blk_cell BK137.out 1).trans rfl
                                      have hcz34_2 : wr.cell? ⟨gb137, 2, none⟩ = some (.int .i64 ((rd_T30 l0 x7_1).f2)) := (blk_cell BK137.out 2).trans rfl
                                      have hfz34_0 := blk_frozen BK137.out 0
                                      have hfz34_1 := blk_frozen BK137.out 1
                                      have hfz34_2 := blk_frozen BK137.out 2
                                      have p142 : 0 ≤ ((ji29) : Int) := of_decide_eq_true (by first | (with_reducible assumption) | assumption)
                                      have q142 : (ji29) < (x6_4.length : Int) := of_decide_eq_true (by first | (with_reducible assumption) | assumption)
                                      obtain ⟨ad142, e142, hx142_0⟩ := Kd.at_int (Kd.R_reads' HO_6.out).2.2 (ji29) p142 q142
                                      cases e142
                                      replace p142 := eq_true p142
                                      replace q142 := eq_true q142
                                      go_wp2_with (first | ((with_reducible refine gate_builtin (b := .append) (xs := #[.tmp 57, .tmp 66]) rfl ?_); (try (refine gate_guard (by rfl) ?_; dsimp only)); at_builtin; refine Kd.R_append (Kd.int .u8) (w0 := w) w.heap.size rfl (.tmp 57) (.tmp 66) 45 5 (.int .u8 0) 1 rfl Try.underlying45 info5 rfl (by decide) (by omega) (.slice (some ad142) x6_4.length co33) x6_4 (rd x6_4 (ji29)) [.int .u8 (rd x6_4 (ji29))] (fun _ => True) (fun _ => False) rfl rfl ?aP (fun _ hk => hk.elim) ?aF ?aO ?aB ?aS ?aL ?_; (case aP => exact rfl); (case aB => exact (by repeat (first | (with_reducible first | exact HB.out | apply below_alloc | apply pw_below_drewN | apply below_drew1 | refine below_set ?_ GE137.out) | exact HB.out))); (case aF => exact (fun _ _ => trivial)); (case aO => exact (by (with_reducible repeat (first | apply Kd.R_alloc | apply Kd.R_drewN | apply Kd.R_drew)); exact HO_6.out)); (case aS => exact (below_size (by repeat (first | (with_reducible first | exact HB.out | apply below_alloc | apply pw_below_drewN | apply below_drew1 | refine below_set ?_ GE137.out) | exact HB.out)))); (case aL => have := LMc32.out; omega); intro v144 w35 ho hb hg hat; rw [← Ny143.out] at ho; have n0_ := Aside0.mk (blk_grown (g := gb137) (o := .cells #[.int .u8 ((rd_T30 l0 x7_1).f0), .int .i64 ((rd_T30 l0 x7_1).f1), .int .i64 ((rd_T30 l0 x7_1).f2)] 30 (0, 0)) (by (with_reducible repeat (first | refine blk_drewN ?_ _ | refine blk_drew ?_ | refine blk_alloc ?_ _)); exact BK137.out) hg (Kd.R_ne HO_6.out BK137.out (by decide))); have n1_ := Aside0.mk (hb); have n2_ := Aside0.mk (ho); clear BK137; clear HB; clear HO_6; have BK137 := n0_; have HB := n1_; have HO145 := n2_; clear n0_ n1_ n2_; clear ho hb hg hat))
                                      go_roundg k4
                                      case measure => have := HK1.out; have := HJ12.out; have := HJ19.out; have := HK4.out; omega
                                      case rel => exact ⟨(y143), (wrap64 (x10_4 + 1)), (by first | rfl | (simp; done) | (simp [*]; done)), H', ⟨by have := HK1.out; have := HJ12.out; have := HJ19.out; have := HK4.out; omega⟩, ⟨by (with_reducible repeat (first | apply Kd.R_alloc | apply Kd.R_drewN | apply Kd.R_drew)); exact HO145.out⟩, ⟨by (with_reducible repeat (first | refine blk_drewN ?_ _ | refine blk_drew ?_ | refine blk_alloc ?_ _)); exact BK137.out⟩, ⟨by repeat (first | (with_reducible first | exact HB.out | apply below_alloc | apply pw_below_drewN | apply below_drew1 | refine below_set ?_ GE137.out) | exact HB.out)⟩⟩
                                    · rw [if_neg c32] at H
                                      exact absurd H (by simp)
                                  · rw [if_neg c31] at H
                                    exact absurd H (by simp)
                                · rw [if_neg c30] at H
                                  exact absurd H (by simp)
                              · rw [if_neg c28] at H
                                have c28b0 : decide (x10_4 < x9_12) = false := decide_eq_false c28
                                clear c28
                                have H' := Aside0.mk H
                                clear H
                                go_wp2
                                go_roundg k4
                                case measure => have := HK1.out; have := HJ12.out; have := HJ19.out; have := HK4.out; omega
                                case rel => exact ⟨(x6_4), (wrap64 (x7_1 + 1)), (by first | rfl | (simp; done) | (simp [*]; done)), H', ⟨by have := HK1.out; have := HJ12.out; have := HJ19.out; have := HK4.out; omega⟩, ⟨by (with_reducible repeat (first | apply Kd.R_alloc | apply Kd.R_drewN | apply Kd.R_drew)); exact HO_6.out⟩, ⟨by repeat (first | (with_reducible first | exact HB.out | apply below_alloc | apply pw_below_drewN | apply below_drew1 | refine below_set ?_ GE137.out) | exact HB.out)⟩⟩
          · replace c6 := Bool.eq_false_iff.mpr c6
            subst c6
            have H1 : (some ((⟨#[]⟩ : ByteArray), 1)) = some (r1, r2) := by rw [if_neg (show ¬ (false = true) by decide)] at H; exact H
            clear H
            have H := H1
            clear H1
            simp only [Option.some.injEq, Prod.mk.injEq] at H
            obtain ⟨rfl, rfl⟩ := H
            have p136 : 0 ≤ (x7_1 : Int) := of_decide_eq_true (by first | (with_reducible assumption) | assumption)
            have q136 : x7_1 < (l0.length : Int) := of_decide_eq_true (by first | (with_reducible assumption) | assumption)
            obtain ⟨ad136, e136, hx136_0, hx136_1, hx136_2⟩ := at_T30 HR0.out x7_1 p136 q136
            cases e136
            replace hx136_0 := (HB.out.cell (World.block_lt_of_cell? w _ hx136_0)).trans hx136_0
            replace hx136_1 := (HB.out.cell (World.block_lt_of_cell? w _ hx136_1)).trans hx136_1
            replace hx136_2 := (HB.out.cell (World.block_lt_of_cell? w _ hx136_2)).trans hx136_2
            replace p136 := eq_true p136
            replace q136 := eq_true q136
            go_wp2_with (first | ((with_reducible refine gate_dst (N := 8) rfl ?_); (try (refine gate_guard (by rfl) ?_; dsimp only)); refine box_event ?hg (N := 8) ?hd (cs := #[.int .u8 0, .int .i64 0, .int .i64 0]) (t := 30) ?hr ?_; (case hd => rfl); (case hg => rfl); (case hr => first | (go_simp; done) | (go_simp; rfl)); intro gb137 hg w36 hbox hb; have n0_ := Aside0.mk (Kd.R_below (by (with_reducible repeat (first | apply Kd.R_alloc | apply Kd.R_drewN | apply Kd.R_drew)); exact HO_6.out) hb); have n1_ := Aside0.mk (below_step (by repeat (first | (with_reducible first | exact HB.out | apply below_alloc | apply pw_below_drewN | apply below_drew1) | exact HB.out)) hb); have n2_ := Aside0.mk (hbox); have n3_ := Aside0.mk ((by rw [hg]; exact (below_size (by repeat (first | (with_reducible first | exact HB.out | apply below_alloc | apply pw_below_drewN | apply below_drew1) | exact HB.out))) : w.heap.size ≤ gb137)); have n4_ := Aside0.mk ((by rw [hg]; exact (below_size (by repeat (first | (with_reducible first | exact HB.out | apply below_alloc | apply pw_below_drewN | apply below_drew1) | exact HB.out))) : w.heap.size ≤ gb137)); clear HO_6; clear HB; have HO_6 := n0_; have HB := n1_; have BK137 := n2_; have GW137 := n3_; have GE137 := n4_; clear n0_ n1_ n2_ n3_ n4_; clear hb hbox hg; have hcz37_0 : w36.cell? ⟨gb137, 0, none⟩ = some (.int .u8 0) := (blk_cell BK137.out 0).trans rfl; have hcz37_1 : w36.cell? ⟨gb137, 1, none⟩ = some (.int .i64 0) := (blk_cell BK137.out 1).trans rfl; have hcz37_2 : w36.cell? ⟨gb137, 2, none⟩ = some (.int .i64 0) := (blk_cell BK137.out 2).trans rfl; have hfz37_0 := blk_frozen BK137.out 0; have hfz37_1 := blk_frozen BK137.out 1; have hfz37_2 := blk_frozen BK137.out 2) | ((with_reducible refine gate_callee (f := 16) rfl ?_); refine goesL_ (some 22) rfl rfl Try.func16 (by kernel_rfl) rfl #[.agg #[.int .u8 ((rd_T30 l0 x7_1).f0), .int .i64 ((rd_T30 l0 x7_1).f1), .int .i64 ((rd_T30 l0 x7_1).f2)]] rfl (by (try simp only [List.map_toArray, List.map_cons, List.map_nil]); first | done | rfl | (simp only [List.length_drop, List.length_take]; rfl)) ?_; (with_reducible refine (montageref07_May.calls ((rd_T30 l0 x7_1).f0) ((rd_T30 l0 x7_1).f1) ((rd_T30 l0 x7_1).f2) false _ A5.out).mono ?_); rintro e w38 ⟨rfl, hb⟩; refine ⟨_, rfl, ?_⟩; have n0_ := Aside0.mk (Kd.R_below (by (with_reducible repeat (first | apply Kd.R_alloc | apply Kd.R_drewN | apply Kd.R_drew)); exact (Kd.R_mono (Kd.R_far (p := ⟨gb137, 2, none⟩) (Kd.R_far (p := ⟨gb137, 1, none⟩) (Kd.R_far (p := ⟨gb137, 0, none⟩) (Kd.R_types HO_6.out BK137.out (by decide)) (fun _ hk => hk.2) (.int .u8 ((rd_T30 l0 x7_1).f0))) (fun _ hk => hk.2) (.int .i64 ((rd_T30 l0 x7_1).f1))) (fun _ hk => hk.2) (.int .i64 ((rd_T30 l0 x7_1).f2))) (fun _ h_ => h_.1))) hb); have n1_ := Aside0.mk (blk_below (g := gb137) (o := .cells #[.int .u8 ((rd_T30 l0 x7_1).f0), .int .i64 ((rd_T30 l0 x7_1).f1), .int .i64 ((rd_T30 l0 x7_1).f2)] 30 (0, 0)) (by (with_reducible repeat (first | refine blk_drewN ?_ _ | refine blk_drew ?_ | refine blk_alloc ?_ _)); refine blk_put (cs := #[.int .u8 ((rd_T30 l0 x7_1).f0), .int .i64 ((rd_T30 l0 x7_1).f1), .int .i64 0]) ?_ 2 _ rfl; (with_reducible repeat (first | refine blk_drewN ?_ _ | refine blk_drew ?_ | refine blk_alloc ?_ _)); refine blk_put (cs := #[.int .u8 ((rd_T30 l0 x7_1).f0), .int .i64 0, .int .i64 0]) ?_ 1 _ rfl; (with_reducible repeat (first | refine blk_drewN ?_ _ | refine blk_drew ?_ | refine blk_alloc ?_ _)); refine blk_put (cs := #[.int .u8 0, .int .i64 0, .int .i64 0]) ?_ 0 _ rfl; (with_reducible repeat (first | refine blk_drewN ?_ _ | refine blk_drew ?_ | refine blk_alloc ?_ _)); exact BK137.out) hb); have n2_ := Aside0.mk (below_step (by repeat (first | (with_reducible first | exact HB.out | apply below_alloc | apply pw_below_drewN | apply below_drew1 | refine below_set ?_ GE137.out) | exact HB.out)) hb); clear HO_6; clear BK137; clear HB; have HO_6 := n0_; have BK137 := n1_; have HB := n2_; clear n0_ n1_ n2_; (try clear hb); (try clear hb2); (try clear hk); (try clear hi)))
            go_ret2
            exact ⟨by first | rfl | (simp [errW_none, errW_some] <;> rfl) | (simp [*, errW_none, errW_some] <;> rfl), by repeat (first | (with_reducible first | exact HB.out | apply below_alloc | apply pw_below_drewN | apply below_drew1 | refine below_set ?_ GE137.out) | exact HB.out)⟩
        · rw [if_neg c4] at H
          exact absurd H (by simp)
      · rw [if_neg c3] at H
        have c3b0 : decide (x7_1 < (l0.length : Int)) = false := decide_eq_false c3
        clear c3
        simp only [Option.some.injEq, Prod.mk.injEq] at H
        obtain ⟨rfl, rfl⟩ := H
        have hcv39 := own_string (P := Try.prog) Try.underlying45 Try.underlying5 Try.underlying9 (Kd.own_of_R HO_6.out)
        go_wp2
        go_ret2
        exact ⟨by first | rfl | (simp [errW_none, errW_some] <;> rfl) | (simp [*, errW_none, errW_some] <;> rfl), by repeat (first | (with_reducible first | exact HB.out | apply below_alloc | apply pw_below_drewN | apply below_drew1) | exact HB.out)⟩

end Go.Proofs.Ytlgdjacgdflfaaa.XTokenExpands
