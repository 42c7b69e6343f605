-- Written by this session's own program wip/xprint.py: a changed copy of the kit's print.
import Derived.Test.YtndcfccbicognaaXRunsUnpackx0
import Derived.Test.YtndcfccbicognaaXRunsUnpackx3
namespace Go.Proofs.Ytndcfccbicognaa.XRunsUnpack
open Go.RowKit Go.Proofs.YtndcfccbicognaaW.PrintWords Go.Proofs.YtndcfccbicognaaW.PrintLast Go.Proofs.YtndcfccbicognaaW.PrintMore
attribute [local go_sem] max2_int min2_int max_two min_two max_three min_three max_four min_four   -- for this text's walks alone
set_option linter.unusedVariables false
set_option linter.unusedSimpArgs false

/-! ### montageref10_Unpack: function 45 -/
mutual
def montageref10_Unpack.l0 : Nat → List (S76) → List Int → Int → Option (List Int × Int)
  | 0, _, _, _ => none
  | k + 1, x0, x4, x5 => if x5 < (x0.length : Int) then (if 0 ≤ x5 then (if ((rd_T76 x0 x5).f0) < 0 then (montageref10_Unpack.j1 k x0 x4 x5 true ((rd_T76 x0 x5).f0) ((rd_T76 x0 x5).f1)) else (if ((rd_T76 x0 x5).f0) > 18 then (montageref10_Unpack.j1 k x0 x4 x5 true ((rd_T76 x0 x5).f0) ((rd_T76 x0 x5).f1)) else (if ((rd_T76 x0 x5).f1) < 0 then (montageref10_Unpack.j1 k x0 x4 x5 true ((rd_T76 x0 x5).f0) ((rd_T76 x0 x5).f1)) else ((montageref10_Bits.f ((rd_T76 x0 x5).f0)).bind fun t167 => (if 0 ≤ t167 then (montageref10_Unpack.j1 k x0 x4 x5 (decide (((rd_T76 x0 x5).f1) ≥ (shl .i64 1 t167))) ((rd_T76 x0 x5).f0) ((rd_T76 x0 x5).f1)) else (none)))))) else (none)) else (some (x4, 0))
def montageref10_Unpack.j1 : Nat → List (S76) → List Int → Int → Bool → Int → Int → Option (List Int × Int)
  | 0, _, _, _, _, _, _ => none
  | k + 1, x0, x4, x5, x41, x167000, x167001 => if x41 = true then (some (([] : List Int), 1)) else (if x167000 = 16 then (montageref10_Unpack.j2 k x0 x4 x5 ((x4.length : Int) == 0) x167000 x167001) else (montageref10_Unpack.j2 k x0 x4 x5 false x167000 x167001))
def montageref10_Unpack.j2 : Nat → List (S76) → List Int → Int → Bool → Int → Int → Option (List Int × Int)
  | 0, _, _, _, _, _, _ => none
  | k + 1, x0, x4, x5, x49, x167000, x167001 => if x49 = true then (some (([] : List Int), 2)) else (if x167000 = 16 then (if 0 ≤ (wrap64 ((x4.length : Int) - 1)) then (if (wrap64 ((x4.length : Int) - 1)) < (x4.length : Int) then (montageref10_Unpack.j3 k x0 x4 x5 (wrap64 (3 + x167001)) (rd x4 (wrap64 ((x4.length : Int) - 1))) x167000 x167001) else (none)) else (none)) else (montageref10_Unpack.j3 k x0 x4 x5 1 x167000 x167000 x167001))
def montageref10_Unpack.j3 : Nat → List (S76) → List Int → Int → Int → Int → Int → Int → Option (List Int × Int)
  | 0, _, _, _, _, _, _, _ => none
  | k + 1, x0, x4, x5, x7, x8, x167000, x167001 => if x167000 = 17 then (montageref10_Unpack.j4 k x0 x4 x5 (wrap64 (3 + x167001)) 0 x167000 x167001) else (montageref10_Unpack.j4 k x0 x4 x5 x7 x8 x167000 x167001)
def montageref10_Unpack.j4 : Nat → List (S76) → List Int → Int → Int → Int → Int → Int → Option (List Int × Int)
  | 0, _, _, _, _, _, _, _ => none
  | k + 1, x0, x4, x5, x7, x8, x167000, x167001 => if x167000 = 18 then (montageref10_Unpack.j5 k x0 x4 x5 (wrap64 (11 + x167001)) 0) else (montageref10_Unpack.j5 k x0 x4 x5 x7 x8)
def montageref10_Unpack.j5 : Nat → List (S76) → List Int → Int → Int → Int → Option (List Int × Int)
  | 0, _, _, _, _, _ => none
  | k + 1, x0, x4, x5, x7, x8 => if (wrap64 ((x4.length : Int) + x7)) > 1000 then (some (([] : List Int), 7)) else (montageref10_Unpack.l1 k x0 x4 x5 x7 x8 0)
def montageref10_Unpack.l1 : Nat → List (S76) → List Int → Int → Int → Int → Int → Option (List Int × Int)
  | 0, _, _, _, _, _, _ => none
  | k + 1, x0, x4, x5, x7, x8, x9 => if x9 < x7 then (if x4.length < 17592186044416 then (montageref10_Unpack.l1 k x0 (x4 ++ [x8]) x5 x7 x8 (wrap64 (x9 + 1))) else (none)) else (montageref10_Unpack.l0 k x0 x4 (wrap64 (x5 + 1)))
end
def montageref10_Unpack.f (k : Nat) (l0 : List (S76)) : Option (List Int × Int) := montageref10_Unpack.l0 k l0 ([] : List Int) 0
theorem montageref10_Unpack.mono_l : ∀ k, (∀ y0 y1 y2, LeO (montageref10_Unpack.l0 k y0 y1 y2) (montageref10_Unpack.l0 (k + 1) y0 y1 y2)) ∧ (∀ y0 y1 y2 y3 y4 y5, LeO (montageref10_Unpack.j1 k y0 y1 y2 y3 y4 y5) (montageref10_Unpack.j1 (k + 1) y0 y1 y2 y3 y4 y5)) ∧ (∀ y0 y1 y2 y3 y4 y5, LeO (montageref10_Unpack.j2 k y0 y1 y2 y3 y4 y5) (montageref10_Unpack.j2 (k + 1) y0 y1 y2 y3 y4 y5)) ∧ (∀ y0 y1 y2 y3 y4 y5 y6, LeO (montageref10_Unpack.j3 k y0 y1 y2 y3 y4 y5 y6) (montageref10_Unpack.j3 (k + 1) y0 y1 y2 y3 y4 y5 y6)) ∧ (∀ y0 y1 y2 y3 y4 y5 y6, LeO (montageref10_Unpack.j4 k y0 y1 y2 y3 y4 y5 y6) (montageref10_Unpack.j4 (k + 1) y0 y1 y2 y3 y4 y5 y6)) ∧ (∀ y0 y1 y2 y3 y4, LeO (montageref10_Unpack.j5 k y0 y1 y2 y3 y4) (montageref10_Unpack.j5 (k + 1) y0 y1 y2 y3 y4)) ∧ (∀ y0 y1 y2 y3 y4 y5, LeO (montageref10_Unpack.l1 k y0 y1 y2 y3 y4 y5) (montageref10_Unpack.l1 (k + 1) y0 y1 y2 y3 y4 y5))
  | 0 => ⟨fun _ _ _ r h => by simp [montageref10_Unpack.l0] at h, fun _ _ _ _ _ _ r h => by simp [montageref10_Unpack.j1] at h, fun _ _ _ _ _ _ r h => by simp [montageref10_Unpack.j2] at h, fun _ _ _ _ _ _ _ r h => by simp [montageref10_Unpack.j3] at h, fun _ _ _ _ _ _ _ r h => by simp [montageref10_Unpack.j4] at h, fun _ _ _ _ _ r h => by simp [montageref10_Unpack.j5] at h, fun _ _ _ _ _ _ r h => by simp [montageref10_Unpack.l1] at h⟩
  | k + 1 => by
    obtain ⟨ih0, ih1, ih2, ih3, ih4, ih5, ih6⟩ := montageref10_Unpack.mono_l k
    refine ⟨?_, ?_, ?_, ?_, ?_, ?_, ?_⟩
    · intro y0 y1 y2
      unfold montageref10_Unpack.l0
      repeat' first
      | (with_reducible exact ih0 _ _ _)
      | (with_reducible exact ih1 _ _ _ _ _ _)
      | (with_reducible exact ih2 _ _ _ _ _ _)
      | (with_reducible exact ih3 _ _ _ _ _ _ _)
      | (with_reducible exact ih4 _ _ _ _ _ _ _)
      | (with_reducible exact ih5 _ _ _ _ _)
      | (with_reducible exact ih6 _ _ _ _ _ _)
      | (with_reducible exact LeO.refl _)
      | (with_reducible exact LeO.none _)
      | (with_reducible refine LeO.ite ?_ ?_)
      | (with_reducible refine LeO.bind ?_ (fun _ => ?_))
      | exact ih0 _ _ _
      | exact ih1 _ _ _ _ _ _
      | exact ih2 _ _ _ _ _ _
      | exact ih3 _ _ _ _ _ _ _
      | exact ih4 _ _ _ _ _ _ _
      | exact ih5 _ _ _ _ _
      | exact ih6 _ _ _ _ _ _
      | exact LeO.none _
      | refine LeO.ite ?_ ?_
      | refine LeO.bind ?_ (fun _ => ?_)
    · intro y0 y1 y2 y3 y4 y5
      unfold montageref10_Unpack.j1
      repeat' first
      | (with_reducible exact ih0 _ _ _)
      | (with_reducible exact ih1 _ _ _ _ _ _)
      | (with_reducible exact ih2 _ _ _ _ _ _)
      | (with_reducible exact ih3 _ _ _ _ _ _ _)
      | (with_reducible exact ih4 _ _ _ _ _ _ _)
      | (with_reducible exact ih5 _ _ _ _ _)
      | (with_reducible exact ih6 _ _ _ _ _ _)
      | (with_reducible exact LeO.refl _)
      | (with_reducible exact LeO.none _)
      | (with_reducible refine LeO.ite ?_ ?_)
      | (with_reducible refine LeO.bind ?_ (fun _ => ?_))
      | exact ih0 _ _ _
      | exact ih1 _ _ _ _ _ _
      | exact ih2 _ _ _ _ _ _
      | exact ih3 _ _ _ _ _ _ _
      | exact ih4 _ _ _ _ _ _ _
      | exact ih5 _ _ _ _ _
      | exact ih6 _ _ _ _ _ _
      | exact LeO.none _
      | refine LeO.ite ?_ ?_
      | refine LeO.bind ?_ (fun _ => ?_)
    · intro y0 y1 y2 y3 y4 y5
      unfold montageref10_Unpack.j2
      repeat' first
      | (with_reducible exact ih0 _ _ _)
      | (with_reducible exact ih1 _ _ _ _ _ _)
      | (with_reducible exact ih2 _ _ _ _ _ _)
      | (with_reducible exact ih3 _ _ _ _ _ _ _)
      | (with_reducible exact ih4 _ _ _ _ _ _ _)
      | (with_reducible exact ih5 _ _ _ _ _)
      | (with_reducible exact ih6 _ _ _ _ _ _)
      | (with_reducible exact LeO.refl _)
      | (with_reducible exact LeO.none _)
      | (with_reducible refine LeO.ite ?_ ?_)
      | (with_reducible refine LeO.bind ?_ (fun _ => ?_))
      | exact ih0 _ _ _
      | exact ih1 _ _ _ _ _ _
      | exact ih2 _ _ _ _ _ _
      | exact ih3 _ _ _ _ _ _ _
      | exact ih4 _ _ _ _ _ _ _
      | exact ih5 _ _ _ _ _
      | exact ih6 _ _ _ _ _ _
      | exact LeO.none _
      | refine LeO.ite ?_ ?_
      | refine LeO.bind ?_ (fun _ => ?_)
    · intro y0 y1 y2 y3 y4 y5 y6
      unfold montageref10_Unpack.j3
      repeat' first
      | (with_reducible exact ih0 _ _ _)
      | (with_reducible exact ih1 _ _ _ _ _ _)
      | (with_reducible exact ih2 _ _ _ _ _ _)
      | (with_reducible exact ih3 _ _ _ _ _ _ _)
      | (with_reducible exact ih4 _ _ _ _ _ _ _)
      | (with_reducible exact ih5 _ _ _ _ _)
      | (with_reducible exact ih6 _ _ _ _ _ _)
      | (with_reducible exact LeO.refl _)
      | (with_reducible exact LeO.none _)
      | (with_reducible refine LeO.ite ?_ ?_)
      | (with_reducible refine LeO.bind ?_ (fun _ => ?_))
      | exact ih0 _ _ _
      | exact ih1 _ _ _ _ _ _
      | exact ih2 _ _ _ _ _ _
      | exact ih3 _ _ _ _ _ _ _
      | exact ih4 _ _ _ _ _ _ _
      | exact ih5 _ _ _ _ _
      | exact ih6 _ _ _ _ _ _
      | exact LeO.none _
      | refine LeO.ite ?_ ?_
      | refine LeO.bind ?_ (fun _ => ?_)
    · intro y0 y1 y2 y3 y4 y5 y6
      unfold montageref10_Unpack.j4
      repeat' first
      | (with_reducible exact ih0 _ _ _)
      | (with_reducible exact ih1 _ _ _ _ _ _)
      | (with_reducible exact ih2 _ _ _ _ _ _)
      | (with_reducible exact ih3 _ _ _ _ _ _ _)
      | (with_reducible exact ih4 _ _ _ _ _ _ _)
      | (with_reducible exact ih5 _ _ _ _ _)
      | (with_reducible exact ih6 _ _ _ _ _ _)
      | (with_reducible exact LeO.refl _)
      | (with_reducible exact LeO.none _)
      | (with_reducible refine LeO.ite ?_ ?_)
      | (with_reducible refine LeO.bind ?_ (fun _ => ?_))
      | exact ih0 _ _ _
      | exact ih1 _ _ _ _ _ _
      | exact ih2 _ _ _ _ _ _
      | exact ih3 _ _ _ _ _ _ _
      | exact ih4 _ _ _ _ _ _ _
      | exact ih5 _ _ _ _ _
      | exact ih6 _ _ _ _ _ _
      | exact LeO.none _
      | refine LeO.ite ?_ ?_
      | refine LeO.bind ?_ (fun _ => ?_)
    · intro y0 y1 y2 y3 y4
      unfold montageref10_Unpack.j5
      repeat' first
      | (with_reducible exact ih0 _ _ _)
      | (with_reducible exact ih1 _ _ _ _ _ _)
      | (with_reducible exact ih2 _ _ _ _ _ _)
      | (with_reducible exact ih3 _ _ _ _ _ _ _)
      | (with_reducible exact ih4 _ _ _ _ _ _ _)
      | (with_reducible exact ih5 _ _ _ _ _)
      | (with_reducible exact ih6 _ _ _ _ _ _)
      | (with_reducible exact LeO.refl _)
      | (with_reducible exact LeO.none _)
      | (with_reducible refine LeO.ite ?_ ?_)
      | (with_reducible refine LeO.bind ?_ (fun _ => ?_))
      | exact ih0 _ _ _
      | exact ih1 _ _ _ _ _ _
      | exact ih2 _ _ _ _ _ _
      | exact ih3 _ _ _ _ _ _ _
      | exact ih4 _ _ _ _ _ _ _
      | exact ih5 _ _ _ _ _
      | exact ih6 _ _ _ _ _ _
      | exact LeO.none _
      | refine LeO.ite ?_ ?_
      | refine LeO.bind ?_ (fun _ => ?_)
    · intro y0 y1 y2 y3 y4 y5
      unfold montageref10_Unpack.l1
      repeat' first
      | (with_reducible exact ih0 _ _ _)
      | (with_reducible exact ih1 _ _ _ _ _ _)
      | (with_reducible exact ih2 _ _ _ _ _ _)
      | (with_reducible exact ih3 _ _ _ _ _ _ _)
      | (with_reducible exact ih4 _ _ _ _ _ _ _)
      | (with_reducible exact ih5 _ _ _ _ _)
      | (with_reducible exact ih6 _ _ _ _ _ _)
      | (with_reducible exact LeO.refl _)
      | (with_reducible exact LeO.none _)
      | (with_reducible refine LeO.ite ?_ ?_)
      | (with_reducible refine LeO.bind ?_ (fun _ => ?_))
      | exact ih0 _ _ _
      | exact ih1 _ _ _ _ _ _
      | exact ih2 _ _ _ _ _ _
      | exact ih3 _ _ _ _ _ _ _
      | exact ih4 _ _ _ _ _ _ _
      | exact ih5 _ _ _ _ _
      | exact ih6 _ _ _ _ _ _
      | exact LeO.none _
      | refine LeO.ite ?_ ?_
      | refine LeO.bind ?_ (fun _ => ?_)
theorem montageref10_Unpack.mono : ∀ a0 k, LeO (montageref10_Unpack.f k a0) (montageref10_Unpack.f (k + 1) a0) := by
  intro a0 k
  obtain ⟨ih0, ih1, ih2, ih3, ih4, ih5, ih6⟩ := montageref10_Unpack.mono_l k
  unfold montageref10_Unpack.f
  repeat' first
      | (with_reducible exact ih0 _ _ _)
      | (with_reducible exact ih1 _ _ _ _ _ _)
      | (with_reducible exact ih2 _ _ _ _ _ _)
      | (with_reducible exact ih3 _ _ _ _ _ _ _)
      | (with_reducible exact ih4 _ _ _ _ _ _ _)
      | (with_reducible exact ih5 _ _ _ _ _)
      | (with_reducible exact ih6 _ _ _ _ _ _)
      | (with_reducible exact LeO.refl _)
      | (with_reducible exact LeO.none _)
      | (with_reducible refine LeO.ite ?_ ?_)
      | (with_reducible refine LeO.bind ?_ (fun _ => ?_))
      | exact ih0 _ _ _
      | exact ih1 _ _ _ _ _ _
      | exact ih2 _ _ _ _ _ _
      | exact ih3 _ _ _ _ _ _ _
      | exact ih4 _ _ _ _ _ _ _
      | exact ih5 _ _ _ _ _
      | exact ih6 _ _ _ _ _ _
      | exact LeO.none _
      | refine LeO.ite ?_ ?_
      | refine LeO.bind ?_ (fun _ => ?_)
set_option maxHeartbeats 8000000 in
set_option maxRecDepth 100000 in
theorem montageref10_Unpack.calls (k : Nat) (A0 : Option Addr) (c0 : Nat) (l0 : List (S76)) (r1 : List Int) (r2 : Int) (w : World) (hr0 : Kd.C k76 w A0 l0.length l0) (hc0 : l0.length ≤ c0) (h : montageref10_Unpack.f k l0 = some (r1, r2)) :
    Calls Try.prog 45 #[.slice A0 l0.length c0] w fun e w' => ∃ v0_ : Value, e = .returned (.tuple #[v0_, .int .i64 r2]) ∧ Kd.R (Kd.int .i64) 3 w' w.heap.size (fun _ => True) v0_ r1 ∧ Below w.heap.size w w' := by
  have hu76 := Try.underlying76
  have HR0 := Aside0.mk hr0
  have HC0 := Aside0.mk hc0
  clear hr0 hc0
  have HB := Aside0.mk (Below.refl w.heap.size w)
  have H : (montageref10_Unpack.l0 k l0 ([] : List Int) 0) = some (r1, r2) := h
  clear h
  have H' := Aside0.mk H
  clear H
  go_enter Try.func45, Try.ntmps45
  go_wp2
  repeat (go_quiet (fail); try go_wp2)
  go_loopg [4, 5] k (fun kq v4 v5 w' => ∃ (x4_1 : List Int) (x5_1 : Int), v5 = .int .i64 x5_1 ∧ Aside0 (montageref10_Unpack.l0 kq l0 x4_1 x5_1 = some (r1, r2)) ∧ Aside0 (kq ≤ k) ∧ Aside0 (Kd.R (Kd.int .i64) 3 w' w.heap.size (fun _ => True) v4 x4_1) ∧ Aside0 (Below w.heap.size w w'))
  case atStart => exact ⟨(([] : List Int)), (0), (by first | rfl | (simp; done) | (simp [*]; done)), H', ⟨Nat.le_refl _⟩, ⟨by first | exact Kd.R_nil _ _ _ _ _ | exact Kd.N_nil _ _ _ _ _ | exact Kd.V_nil _ _ _ _ _ | exact Kd.Q_nil _ _ _ _ _ | exact Kd.S_nil _ _ _ _ _⟩, ⟨by repeat (first | (with_reducible first | exact HB.out | apply below_alloc | apply pw_below_drewN | apply below_drew1) | exact HB.out)⟩⟩
  case round =>
    clear H'
    obtain ⟨x4_1, x5_1, rfl, HA, HK1, HO_4, HB⟩ := hrel
    cases gk with
    | zero => exact absurd HA.out (by simp [montageref10_Unpack.l0])
    | succ k1 =>
      have H := HA.out
      clear HA
      simp only [montageref10_Unpack.l0] at H
      by_cases c2 : x5_1 < (l0.length : Int)
      · rw [if_pos c2] at H
        have c2b0 : decide (x5_1 < (l0.length : Int)) = true := decide_eq_true c2
        clear c2
        by_cases c3 : 0 ≤ x5_1
        · rw [if_pos c3] at H
          have c3b0 : decide (0 ≤ x5_1) = true := decide_eq_true c3
          clear c3
          have HC4 := Aside0.mk H
          clear H
          have p165 : 0 ≤ (x5_1 : Int) := of_decide_eq_true (by first | (with_reducible assumption) | assumption)
          have q165 : x5_1 < (l0.length : Int) := of_decide_eq_true (by first | (with_reducible assumption) | assumption)
          obtain ⟨ad165, e165, hx165_0, hx165_1⟩ := at_T76 HR0.out x5_1 p165 q165
          cases e165
          replace hx165_0 := (HB.out.cell (World.block_lt_of_cell? w _ hx165_0)).trans hx165_0
          replace hx165_1 := (HB.out.cell (World.block_lt_of_cell? w _ hx165_1)).trans hx165_1
          replace p165 := eq_true p165
          replace q165 := eq_true q165
          go_upto_region 6 with (first | ((with_reducible refine gate_dst (N := 6) rfl ?_); (try (refine gate_guard (by rfl) ?_; dsimp only)); refine box_event ?hg (N := 6) ?hd (cs := #[.int .i64 0, .int .i64 0]) (t := 76) ?hr ?_; (case hd => rfl); (case hg => rfl); (case hr => first | (go_simp; done) | (go_simp; rfl)); intro gb166 hg w5 hbox hb; have n0_ := Aside0.mk (Kd.R_below (by (with_reducible repeat (first | apply Kd.R_alloc | apply Kd.R_drewN | apply Kd.R_drew)); exact HO_4.out) hb); have n1_ := Aside0.mk (below_step (by repeat (first | (with_reducible first | exact HB.out | apply below_alloc | apply pw_below_drewN | apply below_drew1) | exact HB.out)) hb); have n2_ := Aside0.mk (hbox); have n3_ := Aside0.mk ((by rw [hg]; exact (below_size (by repeat (first | (with_reducible first | exact HB.out | apply below_alloc | apply pw_below_drewN | apply below_drew1) | exact HB.out))) : w.heap.size ≤ gb166)); have n4_ := Aside0.mk ((by rw [hg]; exact (below_size (by repeat (first | (with_reducible first | exact HB.out | apply below_alloc | apply pw_below_drewN | apply below_drew1) | exact HB.out))) : w.heap.size ≤ gb166)); clear HO_4; clear HB; have HO_4 := n0_; have HB := n1_; have BK166 := n2_; have GW166 := n3_; have GE166 := n4_; clear n0_ n1_ n2_ n3_ n4_; clear hb hbox hg; have hcz6_0 : w5.cell? ⟨gb166, 0, none⟩ = some (.int .i64 0) := (blk_cell BK166.out 0).trans rfl; have hcz6_1 : w5.cell? ⟨gb166, 1, none⟩ = some (.int .i64 0) := (blk_cell BK166.out 1).trans rfl; have hfz6_0 := blk_frozen BK166.out 0; have hfz6_1 := blk_frozen BK166.out 1))
          repeat (go_quiet (first | ((with_reducible refine gate_dst (N := 6) rfl ?_); (try (refine gate_guard (by rfl) ?_; dsimp only)); refine box_event ?hg (N := 6) ?hd (cs := #[.int .i64 0, .int .i64 0]) (t := 76) ?hr ?_; (case hd => rfl); (case hg => rfl); (case hr => first | (go_simp; done) | (go_simp; rfl)); intro gb166 hg w5 hbox hb; have n0_ := Aside0.mk (Kd.R_below (by (with_reducible repeat (first | apply Kd.R_alloc | apply Kd.R_drewN | apply Kd.R_drew)); exact HO_4.out) hb); have n1_ := Aside0.mk (below_step (by repeat (first | (with_reducible first | exact HB.out | apply below_alloc | apply pw_below_drewN | apply below_drew1) | exact HB.out)) hb); have n2_ := Aside0.mk (hbox); have n3_ := Aside0.mk ((by rw [hg]; exact (below_size (by repeat (first | (with_reducible first | exact HB.out | apply below_alloc | apply pw_below_drewN | apply below_drew1) | exact HB.out))) : w.heap.size ≤ gb166)); have n4_ := Aside0.mk ((by rw [hg]; exact (below_size (by repeat (first | (with_reducible first | exact HB.out | apply below_alloc | apply pw_below_drewN | apply below_drew1) | exact HB.out))) : w.heap.size ≤ gb166)); clear HO_4; clear HB; have HO_4 := n0_; have HB := n1_; have BK166 := n2_; have GW166 := n3_; have GE166 := n4_; clear n0_ n1_ n2_ n3_ n4_; clear hb hbox hg; have hcz6_0 : w5.cell? ⟨gb166, 0, none⟩ = some (.int .i64 0) := (blk_cell BK166.out 0).trans rfl; have hcz6_1 : w5.cell? ⟨gb166, 1, none⟩ = some (.int .i64 0) := (blk_cell BK166.out 1).trans rfl; have hfz6_0 := blk_frozen BK166.out 0; have hfz6_1 := blk_frozen BK166.out 1)); go_upto_region 6 with (first | ((with_reducible refine gate_dst (N := 6) rfl ?_); (try (refine gate_guard (by rfl) ?_; dsimp only)); refine box_event ?hg (N := 6) ?hd (cs := #[.int .i64 0, .int .i64 0]) (t := 76) ?hr ?_; (case hd => rfl); (case hg => rfl); (case hr => first | (go_simp; done) | (go_simp; rfl)); intro gb166 hg w5 hbox hb; have n0_ := Aside0.mk (Kd.R_below (by (with_reducible repeat (first | apply Kd.R_alloc | apply Kd.R_drewN | apply Kd.R_drew)); exact HO_4.out) hb); have n1_ := Aside0.mk (below_step (by repeat (first | (with_reducible first | exact HB.out | apply below_alloc | apply pw_below_drewN | apply below_drew1) | exact HB.out)) hb); have n2_ := Aside0.mk (hbox); have n3_ := Aside0.mk ((by rw [hg]; exact (below_size (by repeat (first | (with_reducible first | exact HB.out | apply below_alloc | apply pw_below_drewN | apply below_drew1) | exact HB.out))) : w.heap.size ≤ gb166)); have n4_ := Aside0.mk ((by rw [hg]; exact (below_size (by repeat (first | (with_reducible first | exact HB.out | apply below_alloc | apply pw_below_drewN | apply below_drew1) | exact HB.out))) : w.heap.size ≤ gb166)); clear HO_4; clear HB; have HO_4 := n0_; have HB := n1_; have BK166 := n2_; have GW166 := n3_; have GE166 := n4_; clear n0_ n1_ n2_ n3_ n4_; clear hb hbox hg; have hcz6_0 : w5.cell? ⟨gb166, 0, none⟩ = some (.int .i64 0) := (blk_cell BK166.out 0).trans rfl; have hcz6_1 : w5.cell? ⟨gb166, 1, none⟩ = some (.int .i64 0) := (blk_cell BK166.out 1).trans rfl; have hfz6_0 := blk_frozen BK166.out 0; have hfz6_1 := blk_frozen BK166.out 1)))
          (try simp only [Act.put, List.setIfInBounds_toArray, List.set_cons_zero, List.set_cons_succ])
          go_cut [41] (fun v41 wc => ∃ (kq : Nat) (x41_3 : Bool), v41 = .bool x41_3 ∧ Aside0 (montageref10_Unpack.j1 kq l0 x4_1 x5_1 x41_3 ((rd_T76 l0 x5_1).f0) ((rd_T76 l0 x5_1).f1) = some (r1, r2)) ∧ Aside0 (kq ≤ k1) ∧ Aside0 (Kd.R (Kd.int .i64) 3 wc w.heap.size (fun _ => True) u4 x4_1) ∧ Aside0 (wc.heap[gb166]? = some (.cells #[.int .i64 ((rd_T76 l0 x5_1).f0), .int .i64 ((rd_T76 l0 x5_1).f1)] 76 (0, 0))) ∧ Aside0 (Below w.heap.size w wc))
          case first =>
            have H := HC4.out
            clear HC4
            by_cases c7 : ((rd_T76 l0 x5_1).f0) < 0
            · rw [if_pos c7] at H
              have c7b0 : decide (((rd_T76 l0 x5_1).f0) < 0) = true := decide_eq_true c7
              clear c7
              (first | rw [c7b0] | (simp only [i64_w, i32_w]; rw [c7b0]) | skip)
              have H' := Aside0.mk H
              clear H
              have hcz8_0 : w5.cell? ⟨gb166, 0, none⟩ = some (.int .i64 0) := (blk_cell BK166.out 0).trans rfl
              have hcz8_1 : w5.cell? ⟨gb166, 1, none⟩ = some (.int .i64 0) := (blk_cell BK166.out 1).trans rfl
              have hfz8_0 := blk_frozen BK166.out 0
              have hfz8_1 := blk_frozen BK166.out 1
              go_wp2
              repeat (go_quiet (fail); try go_wp2)
              go_meet
              case rel => exact ⟨_, (true), (by first | rfl | (simp; done) | (simp [*]; done)), H', ⟨by have := HK1.out; first | omega | exact Nat.le_refl _⟩, ⟨by (with_reducible repeat (first | apply Kd.R_alloc | apply Kd.R_drewN | apply Kd.R_drew)); exact Kd.R_mono (Kd.R_far (p := ⟨gb166, 1, none⟩) (Kd.R_far (p := ⟨gb166, 0, none⟩) (Kd.R_types HO_4.out BK166.out (by decide)) (fun _ hk => hk.2) (.int .i64 ((rd_T76 l0 x5_1).f0))) (fun _ hk => hk.2) (.int .i64 ((rd_T76 l0 x5_1).f1))) (fun _ hk => trivial)⟩, ⟨by (with_reducible repeat (first | refine blk_drewN ?_ _ | refine blk_drew ?_ | refine blk_alloc ?_ _)); refine blk_put (cs := #[.int .i64 ((rd_T76 l0 x5_1).f0), .int .i64 0]) ?_ 1 _ rfl; (with_reducible repeat (first | refine blk_drewN ?_ _ | refine blk_drew ?_ | refine blk_alloc ?_ _)); refine blk_put (cs := #[.int .i64 0, .int .i64 0]) ?_ 0 _ rfl; (with_reducible repeat (first | refine blk_drewN ?_ _ | refine blk_drew ?_ | refine blk_alloc ?_ _)); exact BK166.out⟩, ⟨by repeat (first | (with_reducible first | exact HB.out | apply below_alloc | apply pw_below_drewN | apply below_drew1 | refine below_set ?_ GE166.out) | exact HB.out)⟩⟩
            · rw [if_neg c7] at H
              have c7b0 : decide (((rd_T76 l0 x5_1).f0) < 0) = false := decide_eq_false c7
              clear c7
              (first | rw [c7b0] | (simp only [i64_w, i32_w]; rw [c7b0]) | skip)
              by_cases c9 : ((rd_T76 l0 x5_1).f0) > 18
              · rw [if_pos c9] at H
                have c9b0 : decide (18 < ((rd_T76 l0 x5_1).f0)) = true := decide_eq_true c9
                clear c9
                have H' := Aside0.mk H
                clear H
                have hcz10_0 : w5.cell? ⟨gb166, 0, none⟩ = some (.int .i64 0) := (blk_cell BK166.out 0).trans rfl
                have hcz10_1 : w5.cell? ⟨gb166, 1, none⟩ = some (.int .i64 0) := (blk_cell BK166.out 1).trans rfl
                have hfz10_0 := blk_frozen BK166.out 0
                have hfz10_1 := blk_frozen BK166.out 1
                go_wp2
                repeat (go_quiet (fail); try go_wp2)
                go_meet
                case rel => exact ⟨_, (true), (by first | rfl | (simp; done) | (simp [*]; done)), H', ⟨by have := HK1.out; first | omega | exact Nat.le_refl _⟩, ⟨by (with_reducible repeat (first | apply Kd.R_alloc | apply Kd.R_drewN | apply Kd.R_drew)); exact Kd.R_mono (Kd.R_far (p := ⟨gb166, 1, none⟩) (Kd.R_far (p := ⟨gb166, 0, none⟩) (Kd.R_types HO_4.out BK166.out (by decide)) (fun _ hk => hk.2) (.int .i64 ((rd_T76 l0 x5_1).f0))) (fun _ hk => hk.2) (.int .i64 ((rd_T76 l0 x5_1).f1))) (fun _ hk => trivial)⟩, ⟨by (with_reducible repeat (first | refine blk_drewN ?_ _ | refine blk_drew ?_ | refine blk_alloc ?_ _)); refine blk_put (cs := #[.int .i64 ((rd_T76 l0 x5_1).f0), .int .i64 0]) ?_ 1 _ rfl; (with_reducible repeat (first | refine blk_drewN ?_ _ | refine blk_drew ?_ | refine blk_alloc ?_ _)); refine blk_put (cs := #[.int .i64 0, .int .i64 0]) ?_ 0 _ rfl; (with_reducible repeat (first | refine blk_drewN ?_ _ | refine blk_drew ?_ | refine blk_alloc ?_ _)); exact BK166.out⟩, ⟨by repeat (first | (with_reducible first | exact HB.out | apply below_alloc | apply pw_below_drewN | apply below_drew1 | refine below_set ?_ GE166.out) | exact HB.out)⟩⟩
              · rw [if_neg c9] at H
                have c9b0 : decide (18 < ((rd_T76 l0 x5_1).f0)) = false := decide_eq_false c9
                clear c9
                by_cases c11 : ((rd_T76 l0 x5_1).f1) < 0
                · rw [if_pos c11] at H
                  have c11b0 : decide (((rd_T76 l0 x5_1).f1) < 0) = true := decide_eq_true c11
                  clear c11
                  have H' := Aside0.mk H
                  clear H
                  have hcz12_0 : w5.cell? ⟨gb166, 0, none⟩ = some (.int .i64 0) := (blk_cell BK166.out 0).trans rfl
                  have hcz12_1 : w5.cell? ⟨gb166, 1, none⟩ = some (.int .i64 0) := (blk_cell BK166.out 1).trans rfl
                  have hfz12_0 := blk_frozen BK166.out 0
                  have hfz12_1 := blk_frozen BK166.out 1
                  go_wp2
                  repeat (go_quiet (fail); try go_wp2)
                  go_meet
                  case rel => exact ⟨_, (true), (by first | rfl | (simp; done) | (simp [*]; done)), H', ⟨by have := HK1.out; first | omega | exact Nat.le_refl _⟩, ⟨by (with_reducible repeat (first | apply Kd.R_alloc | apply Kd.R_drewN | apply Kd.R_drew)); exact Kd.R_mono (Kd.R_far (p := ⟨gb166, 1, none⟩) (Kd.R_far (p := ⟨gb166, 0, none⟩) (Kd.R_types HO_4.out BK166.out (by decide)) (fun _ hk => hk.2) (.int .i64 ((rd_T76 l0 x5_1).f0))) (fun _ hk => hk.2) (.int .i64 ((rd_T76 l0 x5_1).f1))) (fun _ hk => trivial)⟩, ⟨by (with_reducible repeat (first | refine blk_drewN ?_ _ | refine blk_drew ?_ | refine blk_alloc ?_ _)); refine blk_put (cs := #[.int .i64 ((rd_T76 l0 x5_1).f0), .int .i64 0]) ?_ 1 _ rfl; (with_reducible repeat (first | refine blk_drewN ?_ _ | refine blk_drew ?_ | refine blk_alloc ?_ _)); refine blk_put (cs := #[.int .i64 0, .int .i64 0]) ?_ 0 _ rfl; (with_reducible repeat (first | refine blk_drewN ?_ _ | refine blk_drew ?_ | refine blk_alloc ?_ _)); exact BK166.out⟩, ⟨by repeat (first | (with_reducible first | exact HB.out | apply below_alloc | apply pw_below_drewN | apply below_drew1 | refine below_set ?_ GE166.out) | exact HB.out)⟩⟩
                · rw [if_neg c11] at H
                  have c11b0 : decide (((rd_T76 l0 x5_1).f1) < 0) = false := decide_eq_false c11
                  clear c11
                  replace H := Option.bind_eq_some_iff.mp H
                  obtain ⟨t167, A130, H⟩ := H
                  replace H : (if 0 ≤ t167 then (montageref10_Unpack.j1 k1 l0 x4_1 x5_1 (decide (((rd_T76 l0 x5_1).f1) ≥ (shl .i64 1 t167))) ((rd_T76 l0 x5_1).f0) ((rd_T76 l0 x5_1).f1)) else (none)) = some (r1, r2) := H
                  have A13 := Aside0.mk A130
                  clear A130
                  by_cases c14 : 0 ≤ t167
                  · rw [if_pos c14] at H
                    have c14b0 := eq_true c14
                    have c14b1 : decide (0 ≤ t167) = true := decide_eq_true c14
                    clear c14
                    obtain ⟨ji15, hji15⟩ : ∃ j_ : Int, (shl .i64 1 t167) = j_ := ⟨_, rfl⟩
                    replace H : (montageref10_Unpack.j1 k1 l0 x4_1 x5_1 (decide (((rd_T76 l0 x5_1).f1) ≥ (ji15))) ((rd_T76 l0 x5_1).f0) ((rd_T76 l0 x5_1).f1)) = some (r1, r2) := by first | (rw [hji15] at H; exact H) | (simp only [hji15] at H ⊢; exact H)
                    (try rw [hji15] at A13)
                    have hji15_ : (IntKind.i64.wrap (1 * 2 ^ min t167.toNat 64)) = ji15 := hji15
                    have hji15z : t167 ≤ 64 → (IntKind.i64.wrap (1 * 2 ^ t167.toNat)) = ji15 := shl_small hji15
                    have hji15u : (IntKind.i64.wrap (2 ^ min t167.toNat 64)) = ji15 := by have h_ := hji15_; rw [Int.one_mul] at h_; exact h_
                    have hji15v : t167 ≤ 64 → (IntKind.i64.wrap (2 ^ t167.toNat)) = ji15 := fun hle_ => by have h_ := hji15z hle_; rw [Int.one_mul] at h_; exact h_
                    have hji15y : (wrap64 (1 * 2 ^ min t167.toNat 64)) = ji15 := (i64_w _).symm.trans hji15_
                    have hji15x : t167 ≤ 64 → (wrap64 (1 * 2 ^ t167.toNat)) = ji15 := fun h_ => (i64_w _).symm.trans (hji15z h_)
                    have H' := Aside0.mk H
                    clear H
                    have hcz16_0 : w5.cell? ⟨gb166, 0, none⟩ = some (.int .i64 0) := (blk_cell BK166.out 0).trans rfl
                    have hcz16_1 : w5.cell? ⟨gb166, 1, none⟩ = some (.int .i64 0) := (blk_cell BK166.out 1).trans rfl
                    have hfz16_0 := blk_frozen BK166.out 0
                    have hfz16_1 := blk_frozen BK166.out 1
                    go_wp2_with (first | (go_at_call 49; (with_reducible refine (montageref10_Bits.calls ((rd_T76 l0 x5_1).f0) t167 _ A13.out).mono ?_); rintro e w' ⟨rfl, ⟨nd, rfl⟩⟩; (try first | exact ⟨rfl, _, World.drewN_drewN _ _ _⟩ | exact ⟨rfl, _, Eq.trans (World.drewN_drewN _ _ _) (congrArg (World.drewN _) (Nat.add_assoc _ _ _))⟩)))
                    repeat (go_quiet (first | (go_at_call 49; (with_reducible refine (montageref10_Bits.calls ((rd_T76 l0 x5_1).f0) t167 _ A13.out).mono ?_); rintro e w' ⟨rfl, ⟨nd, rfl⟩⟩; (try first | exact ⟨rfl, _, World.drewN_drewN _ _ _⟩ | exact ⟨rfl, _, Eq.trans (World.drewN_drewN _ _ _) (congrArg (World.drewN _) (Nat.add_assoc _ _ _))⟩))); try go_wp2_with (first | (go_at_call 49; (with_reducible refine (montageref10_Bits.calls ((rd_T76 l0 x5_1).f0) t167 _ A13.out).mono ?_); rintro e w' ⟨rfl, ⟨nd, rfl⟩⟩; (try first | exact ⟨rfl, _, World.drewN_drewN _ _ _⟩ | exact ⟨rfl, _, Eq.trans (World.drewN_drewN _ _ _) (congrArg (World.drewN _) (Nat.add_assoc _ _ _))⟩))))
                    go_meet
                    case rel => exact ⟨_, (decide (((rd_T76 l0 x5_1).f1) ≥ (ji15))), (by first | rfl | (simp; done) | (simp only [← hji15] <;> (first | rfl | (simp; done) | (simp only [shl, shr, i64_w] <;> rfl))) | (simp [*]; done)), H', ⟨by have := HK1.out; first | omega | exact Nat.le_refl _⟩, ⟨by (with_reducible repeat (first | apply Kd.R_alloc | apply Kd.R_drewN | apply Kd.R_drew)); exact Kd.R_mono (Kd.R_far (p := ⟨gb166, 1, none⟩) (Kd.R_far (p := ⟨gb166, 0, none⟩) (Kd.R_types HO_4.out BK166.out (by decide)) (fun _ hk => hk.2) (.int .i64 ((rd_T76 l0 x5_1).f0))) (fun _ hk => hk.2) (.int .i64 ((rd_T76 l0 x5_1).f1))) (fun _ hk => trivial)⟩, ⟨by (with_reducible repeat (first | refine blk_drewN ?_ _ | refine blk_drew ?_ | refine blk_alloc ?_ _)); refine blk_put (cs := #[.int .i64 ((rd_T76 l0 x5_1).f0), .int .i64 0]) ?_ 1 _ rfl; (with_reducible repeat (first | refine blk_drewN ?_ _ | refine blk_drew ?_ | refine blk_alloc ?_ _)); refine blk_put (cs := #[.int .i64 0, .int .i64 0]) ?_ 0 _ rfl; (with_reducible repeat (first | refine blk_drewN ?_ _ | refine blk_drew ?_ | refine blk_alloc ?_ _)); exact BK166.out⟩, ⟨by repeat (first | (with_reducible first | exact HB.out | apply below_alloc | apply pw_below_drewN | apply below_drew1 | refine below_set ?_ GE166.out) | exact HB.out)⟩⟩
                  · rw [if_neg c14] at H
                    exact absurd H (by simp)
          case rest =>
            clear HC4
            try clear c1
            try clear p1
            try clear q1
            try clear hx1
            try clear c2
            try clear c2b0
            try clear p2
            try clear c3
            try clear c3b0
            try clear c4
            try clear p6
            try clear c7
            try clear c7b0
            try clear c9
            try clear c9b0
            try clear c11
            try clear c11b0
            try clear c14
            try clear c14b0
            try clear c14b1
            try clear p16
            try clear q16
            try clear hx16
            try clear hcz10_0
            try clear hcz10_1
            try clear hcz12_0
            try clear hcz12_1
            try clear hcz16_0
            try clear hcz16_1
            try clear hcz6_0
            try clear hcz6_1
            try clear hcz8_0
            try clear hcz8_1
            try clear hfz10_0
            try clear hfz10_1
            try clear hfz12_0
            try clear hfz12_1
            try clear hfz16_0
            try clear hfz16_1
            try clear hfz6_0
            try clear hfz6_1
            try clear hfz8_0
            try clear hfz8_1
            try clear hx165_0
            try clear hx165_1
            try clear p165
            try clear q165
            obtain ⟨kq, x41_3, rfl, HA, HJ3, HO_4, BK166, HB⟩ := hcut
            cases kq with
            | zero => exact absurd HA.out (by simp [montageref10_Unpack.j1])
            | succ kj3 =>
              have H := HA.out
              clear HA
              simp only [montageref10_Unpack.j1] at H
              by_cases c17 : x41_3 = true
              · subst c17
                have H1 : (some (([] : List Int), 1)) = some (r1, r2) := by rw [if_pos rfl] at H; exact H
                clear H
                have H := H1
                clear H1
                simp only [Option.some.injEq, Prod.mk.injEq] at H
                obtain ⟨rfl, rfl⟩ := H
                go_wp2
                repeat (go_quiet (fail); try go_wp2)
                go_ret2
                exact ⟨_, by first | rfl | (simp [errW_none, errW_some] <;> rfl) | (simp [*, errW_none, errW_some] <;> rfl), by first | exact Kd.R_nil _ _ _ _ _ | exact Kd.N_nil _ _ _ _ _ | exact Kd.V_nil _ _ _ _ _ | exact Kd.Q_nil _ _ _ _ _ | exact Kd.S_nil _ _ _ _ _, by repeat (first | (with_reducible first | exact HB.out | apply below_alloc | apply pw_below_drewN | apply below_drew1 | refine below_set ?_ GE166.out) | exact HB.out)⟩
              · replace c17 := Bool.eq_false_iff.mpr c17
                subst c17
                have H1 : (if ((rd_T76 l0 x5_1).f0) = 16 then (montageref10_Unpack.j2 kj3 l0 x4_1 x5_1 ((x4_1.length : Int) == 0) ((rd_T76 l0 x5_1).f0) ((rd_T76 l0 x5_1).f1)) else (montageref10_Unpack.j2 kj3 l0 x4_1 x5_1 false ((rd_T76 l0 x5_1).f0) ((rd_T76 l0 x5_1).f1))) = some (r1, r2) := by rw [if_neg (show ¬ (false = true) by decide)] at H; exact H
                clear H
                have H := H1
                clear H1
                have HC18 := Aside0.mk H
                clear H
                go_upto_region 8 with (fail)
                repeat (go_quiet (fail); go_upto_region 8 with (fail))
                go_cut [49] (fun v49 wc => ∃ (kq : Nat) (x49_17 : Bool), v49 = .bool x49_17 ∧ Aside0 (montageref10_Unpack.j2 kq l0 x4_1 x5_1 x49_17 ((rd_T76 l0 x5_1).f0) ((rd_T76 l0 x5_1).f1) = some (r1, r2)) ∧ Aside0 (kq ≤ kj3) ∧ Aside0 (Kd.R (Kd.int .i64) 3 wc w.heap.size (fun _ => True) u4 x4_1) ∧ Aside0 (wc.heap[gb166]? = some (.cells #[.int .i64 ((rd_T76 l0 x5_1).f0), .int .i64 ((rd_T76 l0 x5_1).f1)] 76 (0, 0))) ∧ Aside0 (Below w.heap.size w wc))
                case first =>
                  have H := HC18.out
                  clear HC18
                  by_cases c19 : ((rd_T76 l0 x5_1).f0) = 16
                  · rw [if_pos c19] at H
                    have c19b0 : (((rd_T76 l0 x5_1).f0) == 16) = true := beq_iff_eq.mpr c19
                    have c19b1 : (((rd_T76 l0 x5_1).f0) != 16) = false := bne_eq_false_iff_eq.mpr c19
                    clear c19
                    (first | rw [c19b0] | (simp only [i64_w, i32_w]; rw [c19b0]) | skip)
                    have H' := Aside0.mk H
                    clear H
                    have hcz20_0 : wc.cell? ⟨gb166, 0, none⟩ = some (.int .i64 ((rd_T76 l0 x5_1).f0)) := (blk_cell BK166.out 0).trans rfl
                    have hcz20_1 : wc.cell? ⟨gb166, 1, none⟩ = some (.int .i64 ((rd_T76 l0 x5_1).f1)) := (blk_cell BK166.out 1).trans rfl
                    have hfz20_0 := blk_frozen BK166.out 0
                    have hfz20_1 := blk_frozen BK166.out 1
                    obtain ⟨Ao21, co21, eo21⟩ := Kd.R_slice HO_4.out
                    subst eo21
                    go_wp2
                    repeat (go_quiet (fail); try go_wp2)
                    go_meet
                    case rel => exact ⟨_, (((x4_1.length : Int) == 0)), (by first | rfl | (simp; done) | (simp [*]; done)), H', ⟨by have := HK1.out; have := HJ3.out; first | omega | exact Nat.le_refl _⟩, ⟨by (with_reducible repeat (first | apply Kd.R_alloc | apply Kd.R_drewN | apply Kd.R_drew)); exact HO_4.out⟩, ⟨by (with_reducible repeat (first | refine blk_drewN ?_ _ | refine blk_drew ?_ | refine blk_alloc ?_ _)); exact BK166.out⟩, ⟨by repeat (first | (with_reducible first | exact HB.out | apply below_alloc | apply pw_below_drewN | apply below_drew1 | refine below_set ?_ GE166.out) | exact HB.out)⟩⟩
                  · rw [if_neg c19] at H
                    have c19b0 : (((rd_T76 l0 x5_1).f0) == 16) = false := beq_eq_false_iff_ne.mpr c19
                    have c19b1 : (((rd_T76 l0 x5_1).f0) != 16) = true := bne_iff_ne.mpr c19
                    (first | rw [c19b0] | (simp only [i64_w, i32_w]; rw [c19b0]) | skip)
                    have H' := Aside0.mk H
                    clear H
                    have hcz22_0 : wc.cell? ⟨gb166, 0, none⟩ = some (.int .i64 ((rd_T76 l0 x5_1).f0)) := (blk_cell BK166.out 0).trans rfl
                    have hcz22_1 : wc.cell? ⟨gb166, 1, none⟩ = some (.int .i64 ((rd_T76 l0 x5_1).f1)) := (blk_cell BK166.out 1).trans rfl
                    have hfz22_0 := blk_frozen BK166.out 0
                    have hfz22_1 := blk_frozen BK166.out 1
                    go_wp2
                    repeat (go_quiet (fail); try go_wp2)
                    go_meet
                    case rel => exact ⟨_, (false), (by first | rfl | (simp; done) | (simp [*]; done)), H', ⟨by have := HK1.out; have := HJ3.out; first | omega | exact Nat.le_refl _⟩, ⟨by (with_reducible repeat (first | apply Kd.R_alloc | apply Kd.R_drewN | apply Kd.R_drew)); exact HO_4.out⟩, ⟨by (with_reducible repeat (first | refine blk_drewN ?_ _ | refine blk_drew ?_ | refine blk_alloc ?_ _)); exact BK166.out⟩, ⟨by repeat (first | (with_reducible first | exact HB.out | apply below_alloc | apply pw_below_drewN | apply below_drew1 | refine below_set ?_ GE166.out) | exact HB.out)⟩⟩
                case rest =>
                  clear HC18
                  try clear c1
                  try clear p1
                  try clear q1
                  try clear hx1
                  try clear c2
                  try clear c2b0
                  try clear p2
                  try clear c3
                  try clear c3b0
                  try clear c4
                  try clear p6
                  try clear c7
                  try clear c7b0
                  try clear c9
                  try clear c9b0
                  try clear c11
                  try clear c11b0
                  try clear c14
                  try clear c14b0
                  try clear c14b1
                  try clear p16
                  try clear q16
                  try clear hx16
                  try clear c17
                  try clear c19
                  try clear c19b0
                  try clear c19b1
                  try clear hcz10_0
                  try clear hcz10_1
                  try clear hcz12_0
                  try clear hcz12_1
                  try clear hcz16_0
                  try clear hcz16_1
                  try clear hcz20_0
                  try clear hcz20_1
                  try clear hcz22_0
                  try clear hcz22_1
                  try clear hcz6_0
                  try clear hcz6_1
                  try clear hcz8_0
                  try clear hcz8_1
                  try clear hfz10_0
                  try clear hfz10_1
                  try clear hfz12_0
                  try clear hfz12_1
                  try clear hfz16_0
                  try clear hfz16_1
                  try clear hfz20_0
                  try clear hfz20_1
                  try clear hfz22_0
                  try clear hfz22_1
                  try clear hfz6_0
                  try clear hfz6_1
                  try clear hfz8_0
                  try clear hfz8_1
                  try clear hx165_0
                  try clear hx165_1
                  try clear p1
                  try clear p16
                  try clear p165
                  try clear p2
                  try clear p6
                  try clear q1
                  try clear q16
                  try clear q165
                  obtain ⟨kq, x49_17, rfl, HA, HJ17, HO_4, BK166, HB⟩ := hcut
                  cases kq with
                  | zero => exact absurd HA.out (by simp [montageref10_Unpack.j2])
                  | succ kj17 =>
                    have H := HA.out
                    clear HA
                    simp only [montageref10_Unpack.j2] at H
                    by_cases c23 : x49_17 = true
                    · subst c23
                      have H1 : (some (([] : List Int), 2)) = some (r1, r2) := by rw [if_pos rfl] at H; exact H
                      clear H
                      have H := H1
                      clear H1
                      simp only [Option.some.injEq, Prod.mk.injEq] at H
                      obtain ⟨rfl, rfl⟩ := H
                      go_wp2
                      repeat (go_quiet (fail); try go_wp2)
                      go_ret2
                      exact ⟨_, by first | rfl | (simp [errW_none, errW_some] <;> rfl) | (simp [*, errW_none, errW_some] <;> rfl), by first | exact Kd.R_nil _ _ _ _ _ | exact Kd.N_nil _ _ _ _ _ | exact Kd.V_nil _ _ _ _ _ | exact Kd.Q_nil _ _ _ _ _ | exact Kd.S_nil _ _ _ _ _, by repeat (first | (with_reducible first | exact HB.out | apply below_alloc | apply pw_below_drewN | apply below_drew1 | refine below_set ?_ GE166.out) | exact HB.out)⟩
                    · replace c23 := Bool.eq_false_iff.mpr c23
                      subst c23
                      have H1 : (if ((rd_T76 l0 x5_1).f0) = 16 then (if 0 ≤ (wrap64 ((x4_1.length : Int) - 1)) then (if (wrap64 ((x4_1.length : Int) - 1)) < (x4_1.length : Int) then (montageref10_Unpack.j3 kj17 l0 x4_1 x5_1 (wrap64 (3 + ((rd_T76 l0 x5_1).f1))) (rd x4_1 (wrap64 ((x4_1.length : Int) - 1))) ((rd_T76 l0 x5_1).f0) ((rd_T76 l0 x5_1).f1)) else (none)) else (none)) else (montageref10_Unpack.j3 kj17 l0 x4_1 x5_1 1 ((rd_T76 l0 x5_1).f0) ((rd_T76 l0 x5_1).f0) ((rd_T76 l0 x5_1).f1))) = some (r1, r2) := by rw [if_neg (show ¬ (false = true) by decide)] at H; exact H
                      clear H
                      have H := H1
                      clear H1
                      have HC24 := Aside0.mk H
                      clear H
                      have hcz25_0 : wc.cell? ⟨gb166, 0, none⟩ = some (.int .i64 ((rd_T76 l0 x5_1).f0)) := (blk_cell BK166.out 0).trans rfl
                      have hcz25_1 : wc.cell? ⟨gb166, 1, none⟩ = some (.int .i64 ((rd_T76 l0 x5_1).f1)) := (blk_cell BK166.out 1).trans rfl
                      have hfz25_0 := blk_frozen BK166.out 0
                      have hfz25_1 := blk_frozen BK166.out 1
                      go_upto_if 54 with (fail)
                      repeat (go_quiet (fail); go_upto_if 54 with (fail))
                      go_cut [7, 8] (fun v7 v8 wc => ∃ (kq : Nat) (x7_23 : Int) (x8_23 : Int), v7 = .int .i64 x7_23 ∧ v8 = .int .i64 x8_23 ∧ Aside0 (montageref10_Unpack.j3 kq l0 x4_1 x5_1 x7_23 x8_23 ((rd_T76 l0 x5_1).f0) ((rd_T76 l0 x5_1).f1) = some (r1, r2)) ∧ Aside0 (kq ≤ kj17) ∧ Aside0 (Kd.R (Kd.int .i64) 3 wc w.heap.size (fun _ => True) u4 x4_1) ∧ Aside0 (wc.heap[gb166]? = some (.cells #[.int .i64 ((rd_T76 l0 x5_1).f0), .int .i64 ((rd_T76 l0 x5_1).f1)] 76 (0, 0))) ∧ Aside0 (Below w.heap.size w wc))
                      case first =>
                        have H := HC24.out
                        clear HC24
                        by_cases c26 : ((rd_T76 l0 x5_1).f0) = 16
                        · rw [if_pos c26] at H
                          have c26b0 : (((rd_T76 l0 x5_1).f0) == 16) = true := beq_iff_eq.mpr c26
                          have c26b1 : (((rd_T76 l0 x5_1).f0) != 16) = false := bne_eq_false_iff_eq.mpr c26
                          clear c26
                          (first | rw [c26b0] | (simp only [i64_w, i32_w]; rw [c26b0]) | skip)
                          obtain ⟨ji27, hji27⟩ : ∃ j_ : Int, (wrap64 ((x4_1.length : Int) - 1)) = j_ := ⟨_, rfl⟩
                          replace H : (if 0 ≤ (ji27) then (if (ji27) < (x4_1.length : Int) then (montageref10_Unpack.j3 kj17 l0 x4_1 x5_1 (wrap64 (3 + ((rd_T76 l0 x5_1).f1))) (rd x4_1 (ji27)) ((rd_T76 l0 x5_1).f0) ((rd_T76 l0 x5_1).f1)) else (none)) else (none)) = some (r1, r2) := by first | (rw [hji27] at H; exact H) | (simp only [hji27] at H ⊢; exact H)
                          have hji27w : (IntKind.i64.wrap ((x4_1.length : Int) - 1)) = ji27 := (i64_w _).trans hji27
                          by_cases c28 : 0 ≤ (ji27)
                          · rw [if_pos c28] at H
                            have c28b0 : decide (0 ≤ (ji27)) = true := decide_eq_true c28
                            clear c28
                            by_cases c29 : (ji27) < (x4_1.length : Int)
                            · rw [if_pos c29] at H
                              have c29b0 : decide ((ji27) < (x4_1.length : Int)) = true := decide_eq_true c29
                              clear c29
                              have H' := Aside0.mk H
                              clear H
                              have hcz30_0 : wc.cell? ⟨gb166, 0, none⟩ = some (.int .i64 ((rd_T76 l0 x5_1).f0)) := (blk_cell BK166.out 0).trans rfl
                              have hcz30_1 : wc.cell? ⟨gb166, 1, none⟩ = some (.int .i64 ((rd_T76 l0 x5_1).f1)) := (blk_cell BK166.out 1).trans rfl
                              have hfz30_0 := blk_frozen BK166.out 0
                              have hfz30_1 := blk_frozen BK166.out 1
                              obtain ⟨Ao31, co31, eo31⟩ := Kd.R_slice HO_4.out
                              subst eo31
                              have p168 : 0 ≤ ((ji27) : Int) := of_decide_eq_true (by first | (with_reducible assumption) | assumption)
                              have q168 : (ji27) < (x4_1.length : Int) := of_decide_eq_true (by first | (with_reducible assumption) | assumption)
                              obtain ⟨ad168, e168, hx168_0⟩ := Kd.at_int (Kd.R_reads' HO_4.out).2.2 (ji27) p168 q168
                              cases e168
                              replace p168 := eq_true p168
                              replace q168 := eq_true q168
                              go_wp2
                              repeat (go_quiet (fail); try go_wp2)
                              go_meet
                              case rel => exact ⟨_, (wrap64 (3 + ((rd_T76 l0 x5_1).f1))), (rd x4_1 (ji27)), (by first | rfl | (simp; done) | (simp [*]; done)), (by first | rfl | (simp; done) | (simp only [← hji27] <;> (first | rfl | (simp; done) | (simp only [shl, shr, i64_w] <;> rfl))) | (simp [*]; done)), H', ⟨by have := HK1.out; have := HJ3.out; have := HJ17.out; first | omega | exact Nat.le_refl _⟩, ⟨by (with_reducible repeat (first | apply Kd.R_alloc | apply Kd.R_drewN | apply Kd.R_drew)); exact HO_4.out⟩, ⟨by (with_reducible repeat (first | refine blk_drewN ?_ _ | refine blk_drew ?_ | refine blk_alloc ?_ _)); exact BK166.out⟩, ⟨by repeat (first | (with_reducible first | exact HB.out | apply below_alloc | apply pw_below_drewN | apply below_drew1 | refine below_set ?_ GE166.out) | exact HB.out)⟩⟩
                            · rw [if_neg c29] at H
                              exact absurd H (by simp)
                          · rw [if_neg c28] at H
                            exact absurd H (by simp)
                        · rw [if_neg c26] at H
                          have c26b0 : (((rd_T76 l0 x5_1).f0) == 16) = false := beq_eq_false_iff_ne.mpr c26
                          have c26b1 : (((rd_T76 l0 x5_1).f0) != 16) = true := bne_iff_ne.mpr c26
                          (first | rw [c26b0] | (simp only [i64_w, i32_w]; rw [c26b0]) | skip)
                          have H' := Aside0.mk H
                          clear H
                          go_wp2
                          repeat (go_quiet (fail); try go_wp2)
                          go_meet
                          case rel => exact ⟨_, (1), (((rd_T76 l0 x5_1).f0)), (by first | rfl | (simp; done) | (simp [*]; done)), (by first | rfl | (simp; done) | (simp [*]; done)), H', ⟨by have := HK1.out; have := HJ3.out; have := HJ17.out; first | omega | exact Nat.le_refl _⟩, ⟨by (with_reducible repeat (first | apply Kd.R_alloc | apply Kd.R_drewN | apply Kd.R_drew)); exact HO_4.out⟩, ⟨by (with_reducible repeat (first | refine blk_drewN ?_ _ | refine blk_drew ?_ | refine blk_alloc ?_ _)); exact BK166.out⟩, ⟨by repeat (first | (with_reducible first | exact HB.out | apply below_alloc | apply pw_below_drewN | apply below_drew1 | refine below_set ?_ GE166.out) | exact HB.out)⟩⟩
                      case rest =>
                        clear HC24
                        try clear c1
                        try clear p1
                        try clear q1
                        try clear hx1
                        try clear c2
                        try clear c2b0
                        try clear p2
                        try clear c3
                        try clear c3b0
                        try clear c4
                        try clear p6
                        try clear c7
                        try clear c7b0
                        try clear c9
                        try clear c9b0
                        try clear c11
                        try clear c11b0
                        try clear c14
                        try clear c14b0
                        try clear c14b1
                        try clear p16
                        try clear q16
                        try clear hx16
                        try clear c17
                        try clear c19
                        try clear c19b0
                        try clear c19b1
                        try clear c23
                        try clear c26
                        try clear c26b0
                        try clear c26b1
                        try clear c28
                        try clear c28b0
                        try clear c29
                        try clear c29b0
                        try clear hcz10_0
                        try clear hcz10_1
                        try clear hcz12_0
                        try clear hcz12_1
                        try clear hcz16_0
                        try clear hcz16_1
                        try clear hcz20_0
                        try clear hcz20_1
                        try clear hcz22_0
                        try clear hcz22_1
                        try clear hcz25_0
                        try clear hcz25_1
                        try clear hcz30_0
                        try clear hcz30_1
                        try clear hcz6_0
                        try clear hcz6_1
                        try clear hcz8_0
                        try clear hcz8_1
                        try clear hfz10_0
                        try clear hfz10_1
                        try clear hfz12_0
                        try clear hfz12_1
                        try clear hfz16_0
                        try clear hfz16_1
                        try clear hfz20_0
                        try clear hfz20_1
                        try clear hfz22_0
                        try clear hfz22_1
                        try clear hfz25_0
                        try clear hfz25_1
                        try clear hfz30_0
                        try clear hfz30_1
                        try clear hfz6_0
                        try clear hfz6_1
                        try clear hfz8_0
                        try clear hfz8_1
                        try clear hx165_0
                        try clear hx165_1
                        try clear hx168_0
                        try clear p1
                        try clear p16
                        try clear p165
                        try clear p168
                        try clear p2
                        try clear p6
                        try clear q1
                        try clear q16
                        try clear q165
                        try clear q168
                        obtain ⟨kq, x7_23, x8_23, rfl, rfl, HA, HJ23, HO_4, BK166, HB⟩ := hcut
                        cases kq with
                        | zero => exact absurd HA.out (by simp [montageref10_Unpack.j3])
                        | succ kj23 =>
                          have H := HA.out
                          clear HA
                          simp only [montageref10_Unpack.j3] at H
                          have HC32 := Aside0.mk H
                          clear H
                          have hcz33_0 : wc.cell? ⟨gb166, 0, none⟩ = some (.int .i64 ((rd_T76 l0 x5_1).f0)) := (blk_cell BK166.out 0).trans rfl
                          have hcz33_1 : wc.cell? ⟨gb166, 1, none⟩ = some (.int .i64 ((rd_T76 l0 x5_1).f1)) := (blk_cell BK166.out 1).trans rfl
                          have hfz33_0 := blk_frozen BK166.out 0
                          have hfz33_1 := blk_frozen BK166.out 1
                          go_upto_if 66 with (fail)
                          repeat (go_quiet (fail); go_upto_if 66 with (fail))
                          go_cut [7, 8] (fun v7 v8 wc => ∃ (kq : Nat) (x7_31 : Int) (x8_31 : Int), v7 = .int .i64 x7_31 ∧ v8 = .int .i64 x8_31 ∧ Aside0 (montageref10_Unpack.j4 kq l0 x4_1 x5_1 x7_31 x8_31 ((rd_T76 l0 x5_1).f0) ((rd_T76 l0 x5_1).f1) = some (r1, r2)) ∧ Aside0 (kq ≤ kj23) ∧ Aside0 (Kd.R (Kd.int .i64) 3 wc w.heap.size (fun _ => True) u4 x4_1) ∧ Aside0 (wc.heap[gb166]? = some (.cells #[.int .i64 ((rd_T76 l0 x5_1).f0), .int .i64 ((rd_T76 l0 x5_1).f1)] 76 (0, 0))) ∧ Aside0 (Below w.heap.size w wc))
                          case first =>
                            have H := HC32.out
                            clear HC32
                            by_cases c34 : ((rd_T76 l0 x5_1).f0) = 17
                            · rw [if_pos c34] at H
                              have c34b0 : (((rd_T76 l0 x5_1).f0) == 17) = true := beq_iff_eq.mpr c34
                              have c34b1 : (((rd_T76 l0 x5_1).f0) != 17) = false := bne_eq_false_iff_eq.mpr c34
                              clear c34
                              (first | rw [c34b0] | (simp only [i64_w, i32_w]; rw [c34b0]) | skip)
                              have H' := Aside0.mk H
                              clear H
                              have hcz35_0 : wc.cell? ⟨gb166, 0, none⟩ = some (.int .i64 ((rd_T76 l0 x5_1).f0)) := (blk_cell BK166.out 0).trans rfl
                              have hcz35_1 : wc.cell? ⟨gb166, 1, none⟩ = some (.int .i64 ((rd_T76 l0 x5_1).f1)) := (blk_cell BK166.out 1).trans rfl
                              have hfz35_0 := blk_frozen BK166.out 0
                              have hfz35_1 := blk_frozen BK166.out 1
                              go_wp2
                              repeat (go_quiet (fail); try go_wp2)
                              go_meet
                              case rel => exact ⟨_, (wrap64 (3 + ((rd_T76 l0 x5_1).f1))), (0), (by first | rfl | (simp; done) | (simp [*]; done)), (by first | rfl | (simp; done) | (simp [*]; done)), H', ⟨by have := HK1.out; have := HJ3.out; have := HJ17.out; have := HJ23.out; first | omega | exact Nat.le_refl _⟩, ⟨by (with_reducible repeat (first | apply Kd.R_alloc | apply Kd.R_drewN | apply Kd.R_drew)); exact HO_4.out⟩, ⟨by (with_reducible repeat (first | refine blk_drewN ?_ _ | refine blk_drew ?_ | refine blk_alloc ?_ _)); exact BK166.out⟩, ⟨by repeat (first | (with_reducible first | exact HB.out | apply below_alloc | apply pw_below_drewN | apply below_drew1 | refine below_set ?_ GE166.out) | exact HB.out)⟩⟩
                            · rw [if_neg c34] at H
                              have c34b0 : (((rd_T76 l0 x5_1).f0) == 17) = false := beq_eq_false_iff_ne.mpr c34
                              have c34b1 : (((rd_T76 l0 x5_1).f0) != 17) = true := bne_iff_ne.mpr c34
                              (first | rw [c34b0] | (simp only [i64_w, i32_w]; rw [c34b0]) | skip)
                              have H' := Aside0.mk H
                              clear H
                              go_wp2
                              repeat (go_quiet (fail); try go_wp2)
                              go_meet
                              case rel => exact ⟨_, (x7_23), (x8_23), (by first | rfl | (simp; done) | (simp [*]; done)), (by first | rfl | (simp; done) | (simp [*]; done)), H', ⟨by have := HK1.out; have := HJ3.out; have := HJ17.out; have := HJ23.out; first | omega | exact Nat.le_refl _⟩, ⟨by (with_reducible repeat (first | apply Kd.R_alloc | apply Kd.R_drewN | apply Kd.R_drew)); exact HO_4.out⟩, ⟨by (with_reducible repeat (first | refine blk_drewN ?_ _ | refine blk_drew ?_ | refine blk_alloc ?_ _)); exact BK166.out⟩, ⟨by repeat (first | (with_reducible first | exact HB.out | apply below_alloc | apply pw_below_drewN | apply below_drew1 | refine below_set ?_ GE166.out) | exact HB.out)⟩⟩
                          case rest =>
                            clear HC32
                            try clear c1
                            try clear p1
                            try clear q1
                            try clear hx1
                            try clear c2
                            try clear c2b0
                            try clear p2
                            try clear c3
                            try clear c3b0
                            try clear c4
                            try clear p6
                            try clear c7
                            try clear c7b0
                            try clear c9
                            try clear c9b0
                            try clear c11
                            try clear c11b0
                            try clear c14
                            try clear c14b0
                            try clear c14b1
                            try clear p16
                            try clear q16
                            try clear hx16
                            try clear c17
                            try clear c19
                            try clear c19b0
                            try clear c19b1
                            try clear c23
                            try clear c26
                            try clear c26b0
                            try clear c26b1
                            try clear c28
                            try clear c28b0
                            try clear c29
                            try clear c29b0
                            try clear c34
                            try clear c34b0
                            try clear c34b1
                            try clear hcz10_0
                            try clear hcz10_1
                            try clear hcz12_0
                            try clear hcz12_1
                            try clear hcz16_0
                            try clear hcz16_1
                            try clear hcz20_0
                            try clear hcz20_1
                            try clear hcz22_0
                            try clear hcz22_1
                            try clear hcz25_0
                            try clear hcz25_1
                            try clear hcz30_0
                            try clear hcz30_1
                            try clear hcz33_0
                            try clear hcz33_1
                            try clear hcz35_0
                            try clear hcz35_1
                            try clear hcz6_0
                            try clear hcz6_1
                            try clear hcz8_0
                            try clear hcz8_1
                            try clear hfz10_0
                            try clear hfz10_1
                            try clear hfz12_0
                            try clear hfz12_1
                            try clear hfz16_0
                            try clear hfz16_1
                            try clear hfz20_0
                            try clear hfz20_1
                            try clear hfz22_0
                            try clear hfz22_1
                            try clear hfz25_0
                            try clear hfz25_1
                            try clear hfz30_0
                            try clear hfz30_1
                            try clear hfz33_0
                            try clear hfz33_1
                            try clear hfz35_0
                            try clear hfz35_1
                            try clear hfz6_0
                            try clear hfz6_1
                            try clear hfz8_0
                            try clear hfz8_1
                            try clear hx165_0
                            try clear hx165_1
                            try clear hx168_0
                            try clear p1
                            try clear p16
                            try clear p165
                            try clear p168
                            try clear p2
                            try clear p6
                            try clear q1
                            try clear q16
                            try clear q165
                            try clear q168
                            obtain ⟨kq, x7_31, x8_31, rfl, rfl, HA, HJ31, HO_4, BK166, HB⟩ := hcut
                            cases kq with
                            | zero => exact absurd HA.out (by simp [montageref10_Unpack.j4])
                            | succ kj31 =>
                              have H := HA.out
                              clear HA
                              simp only [montageref10_Unpack.j4] at H
                              have HC36 := Aside0.mk H
                              clear H
                              have hcz37_0 : wc.cell? ⟨gb166, 0, none⟩ = some (.int .i64 ((rd_T76 l0 x5_1).f0)) := (blk_cell BK166.out 0).trans rfl
                              have hcz37_1 : wc.cell? ⟨gb166, 1, none⟩ = some (.int .i64 ((rd_T76 l0 x5_1).f1)) := (blk_cell BK166.out 1).trans rfl
                              have hfz37_0 := blk_frozen BK166.out 0
                              have hfz37_1 := blk_frozen BK166.out 1
                              go_upto_if 72 with (fail)
                              repeat (go_quiet (fail); go_upto_if 72 with (fail))
                              go_cut [7, 8] (fun v7 v8 wc => ∃ (kq : Nat) (x7_35 : Int) (x8_35 : Int), v7 = .int .i64 x7_35 ∧ v8 = .int .i64 x8_35 ∧ Aside0 (montageref10_Unpack.j5 kq l0 x4_1 x5_1 x7_35 x8_35 = some (r1, r2)) ∧ Aside0 (kq ≤ kj31) ∧ Aside0 (Kd.R (Kd.int .i64) 3 wc w.heap.size (fun _ => True) u4 x4_1) ∧ Aside0 (wc.heap[gb166]? = some (.cells #[.int .i64 ((rd_T76 l0 x5_1).f0), .int .i64 ((rd_T76 l0 x5_1).f1)] 76 (0, 0))) ∧ Aside0 (Below w.heap.size w wc))
                              case first =>
                                have H := HC36.out
                                clear HC36
                                by_cases c38 : ((rd_T76 l0 x5_1).f0) = 18
                                · rw [if_pos c38] at H
                                  have c38b0 : (((rd_T76 l0 x5_1).f0) == 18) = true := beq_iff_eq.mpr c38
                                  have c38b1 : (((rd_T76 l0 x5_1).f0) != 18) = false := bne_eq_false_iff_eq.mpr c38
                                  clear c38
                                  (first | rw [c38b0] | (simp only [i64_w, i32_w]; rw [c38b0]) | skip)
                                  have H' := Aside0.mk H
                                  clear H
                                  have hcz39_0 : wc.cell? ⟨gb166, 0, none⟩ = some (.int .i64 ((rd_T76 l0 x5_1).f0)) := (blk_cell BK166.out 0).trans rfl
                                  have hcz39_1 : wc.cell? ⟨gb166, 1, none⟩ = some (.int .i64 ((rd_T76 l0 x5_1).f1)) := (blk_cell BK166.out 1).trans rfl
                                  have hfz39_0 := blk_frozen BK166.out 0
                                  have hfz39_1 := blk_frozen BK166.out 1
                                  go_wp2
                                  repeat (go_quiet (fail); try go_wp2)
                                  go_meet
                                  case rel => exact ⟨_, (wrap64 (11 + ((rd_T76 l0 x5_1).f1))), (0), (by first | rfl | (simp; done) | (simp [*]; done)), (by first | rfl | (simp; done) | (simp [*]; done)), H', ⟨by have := HK1.out; have := HJ3.out; have := HJ17.out; have := HJ23.out; have := HJ31.out; first | omega | exact Nat.le_refl _⟩, ⟨by (with_reducible repeat (first | apply Kd.R_alloc | apply Kd.R_drewN | apply Kd.R_drew)); exact HO_4.out⟩, ⟨by (with_reducible repeat (first | refine blk_drewN ?_ _ | refine blk_drew ?_ | refine blk_alloc ?_ _)); exact BK166.out⟩, ⟨by repeat (first | (with_reducible first | exact HB.out | apply below_alloc | apply pw_below_drewN | apply below_drew1 | refine below_set ?_ GE166.out) | exact HB.out)⟩⟩
                                · rw [if_neg c38] at H
                                  have c38b0 : (((rd_T76 l0 x5_1).f0) == 18) = false := beq_eq_false_iff_ne.mpr c38
                                  have c38b1 : (((rd_T76 l0 x5_1).f0) != 18) = true := bne_iff_ne.mpr c38
                                  (first | rw [c38b0] | (simp only [i64_w, i32_w]; rw [c38b0]) | skip)
                                  have H' := Aside0.mk H
                                  clear H
                                  go_wp2
                                  repeat (go_quiet (fail); try go_wp2)
                                  go_meet
                                  case rel => exact ⟨_, (x7_31), (x8_31), (by first | rfl | (simp; done) | (simp [*]; done)), (by first | rfl | (simp; done) | (simp [*]; done)), H', ⟨by have := HK1.out; have := HJ3.out; have := HJ17.out; have := HJ23.out; have := HJ31.out; first | omega | exact Nat.le_refl _⟩, ⟨by (with_reducible repeat (first | apply Kd.R_alloc | apply Kd.R_drewN | apply Kd.R_drew)); exact HO_4.out⟩, ⟨by (with_reducible repeat (first | refine blk_drewN ?_ _ | refine blk_drew ?_ | refine blk_alloc ?_ _)); exact BK166.out⟩, ⟨by repeat (first | (with_reducible first | exact HB.out | apply below_alloc | apply pw_below_drewN | apply below_drew1 | refine below_set ?_ GE166.out) | exact HB.out)⟩⟩
                              case rest =>
                                clear HC36
                                try clear c1
                                try clear p1
                                try clear q1
                                try clear hx1
                                try clear c2
                                try clear c2b0
                                try clear p2
                                try clear c3
                                try clear c3b0
                                try clear c4
                                try clear p6
                                try clear c7
                                try clear c7b0
                                try clear c9
                                try clear c9b0
                                try clear c11
                                try clear c11b0
                                try clear c14
                                try clear c14b0
                                try clear c14b1
                                try clear p16
                                try clear q16
                                try clear hx16
                                try clear c17
                                try clear c19
                                try clear c19b0
                                try clear c19b1
                                try clear c23
                                try clear c26
                                try clear c26b0
                                try clear c26b1
                                try clear c28
                                try clear c28b0
                                try clear c29
                                try clear c29b0
                                try clear c34
                                try clear c34b0
                                try clear c34b1
                                try clear c38
                                try clear c38b0
                                try clear c38b1
                                try clear hcz10_0
                                try clear hcz10_1
                                try clear hcz12_0
                                try clear hcz12_1
                                try clear hcz16_0
                                try clear hcz16_1
                                try clear hcz20_0
                                try clear hcz20_1
                                try clear hcz22_0
                                try clear hcz22_1
                                try clear hcz25_0
                                try clear hcz25_1
                                try clear hcz30_0
                                try clear hcz30_1
                                try clear hcz33_0
                                try clear hcz33_1
                                try clear hcz35_0
                                try clear hcz35_1
                                try clear hcz37_0
                                try clear hcz37_1
                                try clear hcz39_0
                                try clear hcz39_1
                                try clear hcz6_0
                                try clear hcz6_1
                                try clear hcz8_0
                                try clear hcz8_1
                                try clear hfz10_0
                                try clear hfz10_1
                                try clear hfz12_0
                                try clear hfz12_1
                                try clear hfz16_0
                                try clear hfz16_1
                                try clear hfz20_0
                                try clear hfz20_1
                                try clear hfz22_0
                                try clear hfz22_1
                                try clear hfz25_0
                                try clear hfz25_1
                                try clear hfz30_0
                                try clear hfz30_1
                                try clear hfz33_0
                                try clear hfz33_1
                                try clear hfz35_0
                                try clear hfz35_1
                                try clear hfz37_0
                                try clear hfz37_1
                                try clear hfz39_0
                                try clear hfz39_1
                                try clear hfz6_0
                                try clear hfz6_1
                                try clear hfz8_0
                                try clear hfz8_1
                                try clear hx165_0
                                try clear hx165_1
                                try clear hx168_0
                                try clear p1
                                try clear p16
                                try clear p165
                                try clear p168
                                try clear p2
                                try clear p6
                                try clear q1
                                try clear q16
                                try clear q165
                                try clear q168
                                obtain ⟨kq, x7_35, x8_35, rfl, rfl, HA, HJ35, HO_4, BK166, HB⟩ := hcut
                                cases kq with
                                | zero => exact absurd HA.out (by simp [montageref10_Unpack.j5])
                                | succ kj35 =>
                                  have H := HA.out
                                  clear HA
                                  simp only [montageref10_Unpack.j5] at H
                                  by_cases c40 : (wrap64 ((x4_1.length : Int) + x7_35)) > 1000
                                  · rw [if_pos c40] at H
                                    have c40b0 : decide (1000 < (wrap64 ((x4_1.length : Int) + x7_35))) = true := decide_eq_true c40
                                    clear c40
                                    simp only [Option.some.injEq, Prod.mk.injEq] at H
                                    obtain ⟨rfl, rfl⟩ := H
                                    obtain ⟨Ao41, co41, eo41⟩ := Kd.R_slice HO_4.out
                                    subst eo41
                                    go_wp2
                                    repeat (go_quiet (fail); try go_wp2)
                                    go_ret2
                                    exact ⟨_, by first | rfl | (simp [errW_none, errW_some] <;> rfl) | (simp [*, errW_none, errW_some] <;> rfl), by first | exact Kd.R_nil _ _ _ _ _ | exact Kd.N_nil _ _ _ _ _ | exact Kd.V_nil _ _ _ _ _ | exact Kd.Q_nil _ _ _ _ _ | exact Kd.S_nil _ _ _ _ _, by repeat (first | (with_reducible first | exact HB.out | apply below_alloc | apply pw_below_drewN | apply below_drew1 | refine below_set ?_ GE166.out) | exact HB.out)⟩
                                  · rw [if_neg c40] at H
                                    have c40b0 : decide (1000 < (wrap64 ((x4_1.length : Int) + x7_35))) = false := decide_eq_false c40
                                    clear c40
                                    have H' := Aside0.mk H
                                    clear H
                                    obtain ⟨Ao42, co42, eo42⟩ := Kd.R_slice HO_4.out
                                    subst eo42
                                    go_wp2
                                    repeat (go_quiet (fail); try go_wp2)
                                    go_loopg [4, 9] kj35 (fun kq v4 v9 w' => ∃ (x4_7 : List Int) (x9_7 : Int), v9 = .int .i64 x9_7 ∧ Aside0 (montageref10_Unpack.l1 kq l0 x4_7 x5_1 x7_35 x8_35 x9_7 = some (r1, r2)) ∧ Aside0 (kq ≤ kj35) ∧ Aside0 (Kd.R (Kd.int .i64) 3 w' w.heap.size (fun _ => True) v4 x4_7) ∧ Aside0 (w'.heap[gb166]? = some (.cells #[.int .i64 ((rd_T76 l0 x5_1).f0), .int .i64 ((rd_T76 l0 x5_1).f1)] 76 (0, 0))) ∧ Aside0 (Below w.heap.size w w'))
                                    case atStart => exact ⟨(x4_1), (0), (by first | rfl | (simp; done) | (simp [*]; done)), H', ⟨Nat.le_refl _⟩, ⟨by (with_reducible repeat (first | apply Kd.R_alloc | apply Kd.R_drewN | apply Kd.R_drew)); exact HO_4.out⟩, ⟨by (with_reducible repeat (first | refine blk_drewN ?_ _ | refine blk_drew ?_ | refine blk_alloc ?_ _)); exact BK166.out⟩, ⟨by repeat (first | (with_reducible first | exact HB.out | apply below_alloc | apply pw_below_drewN | apply below_drew1 | refine below_set ?_ GE166.out) | exact HB.out)⟩⟩
                                    case round =>
                                      clear H'
                                      try clear c1
                                      try clear p1
                                      try clear q1
                                      try clear hx1
                                      try clear c2
                                      try clear c2b0
                                      try clear p2
                                      try clear c3
                                      try clear c3b0
                                      try clear c4
                                      try clear p6
                                      try clear c7
                                      try clear c7b0
                                      try clear c9
                                      try clear c9b0
                                      try clear c11
                                      try clear c11b0
                                      try clear c14
                                      try clear c14b0
                                      try clear c14b1
                                      try clear p16
                                      try clear q16
                                      try clear hx16
                                      try clear c17
                                      try clear c19
                                      try clear c19b0
                                      try clear c19b1
                                      try clear c23
                                      try clear c26
                                      try clear c26b0
                                      try clear c26b1
                                      try clear c28
                                      try clear c28b0
                                      try clear c29
                                      try clear c29b0
                                      try clear c34
                                      try clear c34b0
                                      try clear c34b1
                                      try clear c38
                                      try clear c38b0
                                      try clear c38b1
                                      try clear c40
                                      try clear c40b0
                                      try clear hcz10_0
                                      try clear hcz10_1
                                      try clear hcz12_0
                                      try clear hcz12_1
                                      try clear hcz16_0
                                      try clear hcz16_1
                                      try clear hcz20_0
                                      try clear hcz20_1
                                      try clear hcz22_0
                                      try clear hcz22_1
                                      try clear hcz25_0
                                      try clear hcz25_1
                                      try clear hcz30_0
                                      try clear hcz30_1
                                      try clear hcz33_0
                                      try clear hcz33_1
                                      try clear hcz35_0
                                      try clear hcz35_1
                                      try clear hcz37_0
                                      try clear hcz37_1
                                      try clear hcz39_0
                                      try clear hcz39_1
                                      try clear hcz6_0
                                      try clear hcz6_1
                                      try clear hcz8_0
                                      try clear hcz8_1
                                      try clear hfz10_0
                                      try clear hfz10_1
                                      try clear hfz12_0
                                      try clear hfz12_1
                                      try clear hfz16_0
                                      try clear hfz16_1
                                      try clear hfz20_0
                                      try clear hfz20_1
                                      try clear hfz22_0
                                      try clear hfz22_1
                                      try clear hfz25_0
                                      try clear hfz25_1
                                      try clear hfz30_0
                                      try clear hfz30_1
                                      try clear hfz33_0
                                      try clear hfz33_1
                                      try clear hfz35_0
                                      try clear hfz35_1
                                      try clear hfz37_0
                                      try clear hfz37_1
                                      try clear hfz39_0
                                      try clear hfz39_1
                                      try clear hfz6_0
                                      try clear hfz6_1
                                      try clear hfz8_0
                                      try clear hfz8_1
                                      try clear hx165_0
                                      try clear hx165_1
                                      try clear hx168_0
                                      try clear p1
                                      try clear p16
                                      try clear p165
                                      try clear p168
                                      try clear p2
                                      try clear p6
                                      try clear q1
                                      try clear q16
                                      try clear q165
                                      try clear q168
                                      obtain ⟨x4_7, x9_7, rfl, HA, HK7, HO_4, BK166, HB⟩ := hrel
                                      cases gk with
                                      | zero => exact absurd HA.out (by simp [montageref10_Unpack.l1])
                                      | succ k7 =>
                                        have H := HA.out
                                        clear HA
                                        simp only [montageref10_Unpack.l1] at H
                                        by_cases c43 : x9_7 < x7_35
                                        · rw [if_pos c43] at H
                                          have c43b0 : decide (x9_7 < x7_35) = true := decide_eq_true c43
                                          clear c43
                                          by_cases c44 : x4_7.length < 17592186044416
                                          · rw [if_pos c44] at H
                                            have LMc44 := Aside0.mk c44
                                            clear c44
                                            obtain ⟨y169, hy169⟩ : ∃ y_ : List Int, y_ = (x4_7 ++ [x8_35]) := ⟨_, rfl⟩
                                            replace H : (montageref10_Unpack.l1 k7 l0 y169 x5_1 x7_35 x8_35 (wrap64 (x9_7 + 1))) = some (r1, r2) := by first | (rw [hy169]; with_reducible exact H) | (have H2_ := (Option.bind_some _ _).symm.trans H; rw [hy169]; with_reducible exact H2_) | (have H2_ := (Option.bind_some _ _).symm.trans H; with_reducible exact H2_) | with_reducible exact H | (rw [hy169]; exact H) | exact H
                                            have Ny169 := Aside0.mk hy169
                                            clear hy169
                                            have H' := Aside0.mk H
                                            clear H
                                            go_wp2_with (first | ((with_reducible refine gate_builtin (b := .append) (xs := #[.tmp 86, .tmp 88]) rfl ?_); (try (refine gate_guard (by rfl) ?_; dsimp only)); at_builtin; refine Kd.R_append (Kd.int .i64) (w0 := w) w.heap.size rfl (.tmp 86) (.tmp 88) 63 3 (.int .i64 0) 8 rfl Try.underlying63 info3 rfl (by decide) (by omega) u4 x4_7 x8_35 [.int .i64 x8_35] (fun _ => True) (fun _ => False) rfl rfl ?aP (fun _ hk => hk.elim) ?aF ?aO ?aB ?aS ?aL ?_; (case aP => exact rfl); (case aB => exact (by repeat (first | (with_reducible first | exact HB.out | apply below_alloc | apply pw_below_drewN | apply below_drew1 | refine below_set ?_ GE166.out) | exact HB.out))); (case aF => exact (fun _ _ => trivial)); (case aO => exact (by (with_reducible repeat (first | apply Kd.R_alloc | apply Kd.R_drewN | apply Kd.R_drew)); exact HO_4.out)); (case aS => exact (below_size (by repeat (first | (with_reducible first | exact HB.out | apply below_alloc | apply pw_below_drewN | apply below_drew1 | refine below_set ?_ GE166.out) | exact HB.out)))); (case aL => have := LMc44.out; omega); intro v170 w45 ho hb hg hat; rw [← Ny169.out] at ho; have n0_ := Aside0.mk (blk_grown (g := gb166) (o := .cells #[.int .i64 ((rd_T76 l0 x5_1).f0), .int .i64 ((rd_T76 l0 x5_1).f1)] 76 (0, 0)) (by (with_reducible repeat (first | refine blk_drewN ?_ _ | refine blk_drew ?_ | refine blk_alloc ?_ _)); exact BK166.out) hg (Kd.R_ne HO_4.out BK166.out (by decide))); have n1_ := Aside0.mk (hb); have n2_ := Aside0.mk (ho); clear BK166; clear HB; clear HO_4; have BK166 := n0_; have HB := n1_; have HO171 := n2_; clear n0_ n1_ n2_; clear ho hb hg hat))
                                            repeat (go_quiet (first | ((with_reducible refine gate_builtin (b := .append) (xs := #[.tmp 86, .tmp 88]) rfl ?_); (try (refine gate_guard (by rfl) ?_; dsimp only)); at_builtin; refine Kd.R_append (Kd.int .i64) (w0 := w) w.heap.size rfl (.tmp 86) (.tmp 88) 63 3 (.int .i64 0) 8 rfl Try.underlying63 info3 rfl (by decide) (by omega) u4 x4_7 x8_35 [.int .i64 x8_35] (fun _ => True) (fun _ => False) rfl rfl ?aP (fun _ hk => hk.elim) ?aF ?aO ?aB ?aS ?aL ?_; (case aP => exact rfl); (case aB => exact (by repeat (first | (with_reducible first | exact HB.out | apply below_alloc | apply pw_below_drewN | apply below_drew1 | refine below_set ?_ GE166.out) | exact HB.out))); (case aF => exact (fun _ _ => trivial)); (case aO => exact (by (with_reducible repeat (first | apply Kd.R_alloc | apply Kd.R_drewN | apply Kd.R_drew)); exact HO_4.out)); (case aS => exact (below_size (by repeat (first | (with_reducible first | exact HB.out | apply below_alloc | apply pw_below_drewN | apply below_drew1 | refine below_set ?_ GE166.out) | exact HB.out)))); (case aL => have := LMc44.out; omega); intro v170 w45 ho hb hg hat; rw [← Ny169.out] at ho; have n0_ := Aside0.mk (blk_grown (g := gb166) (o := .cells #[.int .i64 ((rd_T76 l0 x5_1).f0), .int .i64 ((rd_T76 l0 x5_1).f1)] 76 (0, 0)) (by (with_reducible repeat (first | refine blk_drewN ?_ _ | refine blk_drew ?_ | refine blk_alloc ?_ _)); exact BK166.out) hg (Kd.R_ne HO_4.out BK166.out (by decide))); have n1_ := Aside0.mk (hb); have n2_ := Aside0.mk (ho); clear BK166; clear HB; clear HO_4; have BK166 := n0_; have HB := n1_; have HO171 := n2_; clear n0_ n1_ n2_; clear ho hb hg hat)); try go_wp2_with (first | ((with_reducible refine gate_builtin (b := .append) (xs := #[.tmp 86, .tmp 88]) rfl ?_); (try (refine gate_guard (by rfl) ?_; dsimp only)); at_builtin; refine Kd.R_append (Kd.int .i64) (w0 := w) w.heap.size rfl (.tmp 86) (.tmp 88) 63 3 (.int .i64 0) 8 rfl Try.underlying63 info3 rfl (by decide) (by omega) u4 x4_7 x8_35 [.int .i64 x8_35] (fun _ => True) (fun _ => False) rfl rfl ?aP (fun _ hk => hk.elim) ?aF ?aO ?aB ?aS ?aL ?_; (case aP => exact rfl); (case aB => exact (by repeat (first | (with_reducible first | exact HB.out | apply below_alloc | apply pw_below_drewN | apply below_drew1 | refine below_set ?_ GE166.out) | exact HB.out))); (case aF => exact (fun _ _ => trivial)); (case aO => exact (by (with_reducible repeat (first | apply Kd.R_alloc | apply Kd.R_drewN | apply Kd.R_drew)); exact HO_4.out)); (case aS => exact (below_size (by repeat (first | (with_reducible first | exact HB.out | apply below_alloc | apply pw_below_drewN | apply below_drew1 | refine below_set ?_ GE166.out) | exact HB.out)))); (case aL => have := LMc44.out; omega); intro v170 w45 ho hb hg hat; rw [← Ny169.out] at ho; have n0_ := Aside0.mk (blk_grown (g := gb166) (o := .cells #[.int .i64 ((rd_T76 l0 x5_1).f0), .int .i64 ((rd_T76 l0 x5_1).f1)] 76 (0, 0)) (by (with_reducible repeat (first | refine blk_drewN ?_ _ | refine blk_drew ?_ | refine blk_alloc ?_ _)); exact BK166.out) hg (Kd.R_ne HO_4.out BK166.out (by decide))); have n1_ := Aside0.mk (hb); have n2_ := Aside0.mk (ho); clear BK166; clear HB; clear HO_4; have BK166 := n0_; have HB := n1_; have HO171 := n2_; clear n0_ n1_ n2_; clear ho hb hg hat)))
                                            go_roundg k7
                                            case measure => have := HK1.out; have := HJ3.out; have := HJ17.out; have := HJ23.out; have := HJ31.out; have := HJ35.out; have := HK7.out; omega
                                            case rel => exact ⟨(y169), (wrap64 (x9_7 + 1)), (by first | rfl | (simp; done) | (simp [*]; done)), H', ⟨by have := HK1.out; have := HJ3.out; have := HJ17.out; have := HJ23.out; have := HJ31.out; have := HJ35.out; have := HK7.out; omega⟩, ⟨by (with_reducible repeat (first | apply Kd.R_alloc | apply Kd.R_drewN | apply Kd.R_drew)); exact HO171.out⟩, ⟨by (with_reducible repeat (first | refine blk_drewN ?_ _ | refine blk_drew ?_ | refine blk_alloc ?_ _)); exact BK166.out⟩, ⟨by repeat (first | (with_reducible first | exact HB.out | apply below_alloc | apply pw_below_drewN | apply below_drew1 | refine below_set ?_ GE166.out) | exact HB.out)⟩⟩
                                          · rw [if_neg c44] at H
                                            exact absurd H (by simp)
                                        · rw [if_neg c43] at H
                                          have c43b0 : decide (x9_7 < x7_35) = false := decide_eq_false c43
                                          clear c43
                                          have H' := Aside0.mk H
                                          clear H
                                          go_wp2
                                          repeat (go_quiet (fail); try go_wp2)
                                          go_roundg k7
                                          case measure => have := HK1.out; have := HJ3.out; have := HJ17.out; have := HJ23.out; have := HJ31.out; have := HJ35.out; have := HK7.out; omega
                                          case rel => exact ⟨(x4_7), (wrap64 (x5_1 + 1)), (by first | rfl | (simp; done) | (simp [*]; done)), H', ⟨by have := HK1.out; have := HJ3.out; have := HJ17.out; have := HJ23.out; have := HJ31.out; have := HJ35.out; have := HK7.out; omega⟩, ⟨by (with_reducible repeat (first | apply Kd.R_alloc | apply Kd.R_drewN | apply Kd.R_drew)); exact HO_4.out⟩, ⟨by repeat (first | (with_reducible first | exact HB.out | apply below_alloc | apply pw_below_drewN | apply below_drew1 | refine below_set ?_ GE166.out) | exact HB.out)⟩⟩
        · rw [if_neg c3] at H
          exact absurd H (by simp)
      · rw [if_neg c2] at H
        have c2b0 : decide (x5_1 < (l0.length : Int)) = false := decide_eq_false c2
        clear c2
        simp only [Option.some.injEq, Prod.mk.injEq] at H
        obtain ⟨rfl, rfl⟩ := H
        go_wp2
        repeat (go_quiet (fail); try go_wp2)
        go_ret2
        exact ⟨_, by first | rfl | (simp [errW_none, errW_some] <;> rfl) | (simp [*, errW_none, errW_some] <;> rfl), by (with_reducible repeat (first | apply Kd.R_alloc | apply Kd.R_drewN | apply Kd.R_drew)); exact HO_4.out, by repeat (first | (with_reducible first | exact HB.out | apply below_alloc | apply pw_below_drewN | apply below_drew1) | exact HB.out)⟩

end Go.Proofs.Ytndcfccbicognaa.XRunsUnpack
