-- Written by this session's own program wip/xprint.py: a changed copy of the kit's print.
import Derived.Test.YtlgdjacgdflfaaaXTokenOfx0
import Derived.Test.YtlgdjacgdflfaaaXTokenOfx2
namespace Go.Proofs.Ytlgdjacgdflfaaa.XTokenOf
open Go.RowKit Go.Proofs.YtlgdjacgdflfaaaW.PrintWords Go.Proofs.YtlgdjacgdflfaaaW.PrintLast Go.Proofs.YtlgdjacgdflfaaaW.PrintMore
attribute [local go_sem] max2_int min2_int max_two min_two max_three min_three max_four min_four   -- for this text's walks alone
set_option linter.unusedVariables false
set_option linter.unusedSimpArgs false

/-! ### montageref07_lengths: function 43 -/
mutual
def montageref07_lengths.l0 : Nat → List (S96) → Int → Int → Option ((List (S96)))
  | 0, _, _, _ => none
  | k + 1, x1, x2, x3 => if x3 ≤ 284 then (if x3 ≥ 265 then (montageref07_lengths.j1 k x1 x2 x3 (wrap64 (Int.tdiv (wrap64 (x3 - 261)) 4))) else (montageref07_lengths.j1 k x1 x2 x3 0)) else (if x1.length < 5864062014805 then (some (x1 ++ [(⟨285, 258, 0⟩ : S96)])) else (none))
def montageref07_lengths.j1 : Nat → List (S96) → Int → Int → Int → Option ((List (S96)))
  | 0, _, _, _, _ => none
  | k + 1, x1, x2, x3, x4 => if x1.length < 5864062014805 then (montageref07_lengths.l1 k (x1 ++ [(⟨x3, x2, x4⟩ : S96)]) x2 x3 x4 0) else (none)
def montageref07_lengths.l1 : Nat → List (S96) → Int → Int → Int → Int → Option ((List (S96)))
  | 0, _, _, _, _, _ => none
  | k + 1, x1, x2, x3, x4, x5 => (montageref07_power.f k x4).bind fun t148 => (if x5 < t148 then (montageref07_lengths.l1 k x1 (wrap64 (x2 + 1)) x3 x4 (wrap64 (x5 + 1))) else (montageref07_lengths.l0 k x1 x2 (wrap64 (x3 + 1))))
end
def montageref07_lengths.f (k : Nat)  : Option ((List (S96))) := montageref07_lengths.l0 k ([] : List (S96)) 3 257
theorem montageref07_lengths.mono_l : ∀ k, (∀ y0 y1 y2, LeO (montageref07_lengths.l0 k y0 y1 y2) (montageref07_lengths.l0 (k + 1) y0 y1 y2)) ∧ (∀ y0 y1 y2 y3, LeO (montageref07_lengths.j1 k y0 y1 y2 y3) (montageref07_lengths.j1 (k + 1) y0 y1 y2 y3)) ∧ (∀ y0 y1 y2 y3 y4, LeO (montageref07_lengths.l1 k y0 y1 y2 y3 y4) (montageref07_lengths.l1 (k + 1) y0 y1 y2 y3 y4))
  | 0 => ⟨fun _ _ _ r h => by simp [montageref07_lengths.l0] at h, fun _ _ _ _ r h => by simp [montageref07_lengths.j1] at h, fun _ _ _ _ _ r h => by simp [montageref07_lengths.l1] at h⟩
  | k + 1 => by
    obtain ⟨ih0, ih1, ih2⟩ := montageref07_lengths.mono_l k
    refine ⟨?_, ?_, ?_⟩
    · intro y0 y1 y2
      unfold montageref07_lengths.l0
      repeat' first
      | (with_reducible exact ih0 _ _ _)
      | (with_reducible exact ih1 _ _ _ _)
      | (with_reducible exact ih2 _ _ _ _ _)
      | (with_reducible exact montageref07_power.mono _ _)
      | (with_reducible exact LeO.refl _)
      | (with_reducible exact LeO.none _)
      | (with_reducible refine LeO.ite ?_ ?_)
      | (with_reducible refine LeO.bind ?_ (fun _ => ?_))
      | exact ih0 _ _ _
      | exact ih1 _ _ _ _
      | exact ih2 _ _ _ _ _
      | exact montageref07_power.mono _ _
      | exact LeO.none _
      | refine LeO.ite ?_ ?_
      | refine LeO.bind ?_ (fun _ => ?_)
    · intro y0 y1 y2 y3
      unfold montageref07_lengths.j1
      repeat' first
      | (with_reducible exact ih0 _ _ _)
      | (with_reducible exact ih1 _ _ _ _)
      | (with_reducible exact ih2 _ _ _ _ _)
      | (with_reducible exact montageref07_power.mono _ _)
      | (with_reducible exact LeO.refl _)
      | (with_reducible exact LeO.none _)
      | (with_reducible refine LeO.ite ?_ ?_)
      | (with_reducible refine LeO.bind ?_ (fun _ => ?_))
      | exact ih0 _ _ _
      | exact ih1 _ _ _ _
      | exact ih2 _ _ _ _ _
      | exact montageref07_power.mono _ _
      | exact LeO.none _
      | refine LeO.ite ?_ ?_
      | refine LeO.bind ?_ (fun _ => ?_)
    · intro y0 y1 y2 y3 y4
      unfold montageref07_lengths.l1
      repeat' first
      | (with_reducible exact ih0 _ _ _)
      | (with_reducible exact ih1 _ _ _ _)
      | (with_reducible exact ih2 _ _ _ _ _)
      | (with_reducible exact montageref07_power.mono _ _)
      | (with_reducible exact LeO.refl _)
      | (with_reducible exact LeO.none _)
      | (with_reducible refine LeO.ite ?_ ?_)
      | (with_reducible refine LeO.bind ?_ (fun _ => ?_))
      | exact ih0 _ _ _
      | exact ih1 _ _ _ _
      | exact ih2 _ _ _ _ _
      | exact montageref07_power.mono _ _
      | exact LeO.none _
      | refine LeO.ite ?_ ?_
      | refine LeO.bind ?_ (fun _ => ?_)
theorem montageref07_lengths.mono : ∀ k, LeO (montageref07_lengths.f k ) (montageref07_lengths.f (k + 1) ) := by
  intro  k
  obtain ⟨ih0, ih1, ih2⟩ := montageref07_lengths.mono_l k
  unfold montageref07_lengths.f
  repeat' first
      | (with_reducible exact ih0 _ _ _)
      | (with_reducible exact ih1 _ _ _ _)
      | (with_reducible exact ih2 _ _ _ _ _)
      | (with_reducible exact montageref07_power.mono _ _)
      | (with_reducible exact LeO.refl _)
      | (with_reducible exact LeO.none _)
      | (with_reducible refine LeO.ite ?_ ?_)
      | (with_reducible refine LeO.bind ?_ (fun _ => ?_))
      | exact ih0 _ _ _
      | exact ih1 _ _ _ _
      | exact ih2 _ _ _ _ _
      | exact montageref07_power.mono _ _
      | exact LeO.none _
      | refine LeO.ite ?_ ?_
      | refine LeO.bind ?_ (fun _ => ?_)
set_option maxHeartbeats 8000000 in
set_option maxRecDepth 100000 in
theorem montageref07_lengths.calls (k : Nat)  (r : List (S96)) (w : World) (h : montageref07_lengths.f k  = some r) :
    Calls Try.prog 43 #[] w fun e w' => ∃ v0_ : Value, e = .returned (v0_) ∧ Kd.R k96 96 w' w.heap.size (fun _ => True) v0_ r ∧ Below w.heap.size w w' := by
  have hu96 := Try.underlying96
  have HB := Aside0.mk (Below.refl w.heap.size w)
  have H : (montageref07_lengths.l0 k ([] : List (S96)) 3 257) = some r := h
  clear h
  have H' := Aside0.mk H
  clear H
  go_enter Try.func43, Try.ntmps43
  go_wp2
  go_loopg [1, 2, 3] k (fun kq v1 v2 v3 w' => ∃ (x1_1 : List (S96)) (x2_1 : Int) (x3_1 : Int), v2 = .int .i64 x2_1 ∧ v3 = .int .i64 x3_1 ∧ Aside0 (montageref07_lengths.l0 kq x1_1 x2_1 x3_1 = some r) ∧ Aside0 (kq ≤ k) ∧ Aside0 (Kd.R k96 96 w' w.heap.size (fun _ => True) v1 x1_1) ∧ Aside0 (Below w.heap.size w w'))
  case atStart => exact ⟨(([] : List (S96))), (3), (257), (by first | rfl | (simp; done) | (simp [*]; done)), (by first | rfl | (simp; done) | (simp [*]; done)), H', ⟨Nat.le_refl _⟩, ⟨by first | exact Kd.R_nil _ _ _ _ _ | exact Kd.N_nil _ _ _ _ _ | exact Kd.V_nil _ _ _ _ _ | exact Kd.Q_nil _ _ _ _ _ | exact Kd.S_nil _ _ _ _ _⟩, ⟨by repeat (first | (with_reducible first | exact HB.out | apply below_alloc | apply pw_below_drewN | apply below_drew1) | exact HB.out)⟩⟩
  case round =>
    clear H'
    obtain ⟨x1_1, x2_1, x3_1, rfl, rfl, HA, HK1, HO_1, HB⟩ := hrel
    cases gk with
    | zero => exact absurd HA.out (by simp [montageref07_lengths.l0])
    | succ k1 =>
      have H := HA.out
      clear HA
      simp only [montageref07_lengths.l0] at H
      by_cases c1 : x3_1 ≤ 284
      · rw [if_pos c1] at H
        have c1b0 : decide (x3_1 ≤ 284) = true := decide_eq_true c1
        clear c1
        have HC2 := Aside0.mk H
        clear H
        go_upto_if 11 with (fail)
        go_cut [4] (fun v4 wc => ∃ (kq : Nat) (x4_1 : Int), v4 = .int .i64 x4_1 ∧ Aside0 (montageref07_lengths.j1 kq x1_1 x2_1 x3_1 x4_1 = some r) ∧ Aside0 (kq ≤ k1) ∧ Aside0 (Kd.R k96 96 wc w.heap.size (fun _ => True) u1 x1_1) ∧ Aside0 (Below w.heap.size w wc))
        case first =>
          have H := HC2.out
          clear HC2
          by_cases c3 : x3_1 ≥ 265
          · rw [if_pos c3] at H
            have c3b0 : decide (265 ≤ x3_1) = true := decide_eq_true c3
            clear c3
            (first | rw [c3b0] | (simp only [i64_w, i32_w]; rw [c3b0]) | skip)
            have H' := Aside0.mk H
            clear H
            go_wp2
            go_meet
            case rel => exact ⟨_, (wrap64 (Int.tdiv (wrap64 (x3_1 - 261)) 4)), (by first | rfl | (simp; done) | (simp [*]; done)), H', ⟨by have := HK1.out; first | omega | exact Nat.le_refl _⟩, ⟨by (with_reducible repeat (first | apply Kd.R_alloc | apply Kd.R_drewN | apply Kd.R_drew)); exact HO_1.out⟩, ⟨by repeat (first | (with_reducible first | exact HB.out | apply below_alloc | apply pw_below_drewN | apply below_drew1) | exact HB.out)⟩⟩
          · rw [if_neg c3] at H
            have c3b0 : decide (265 ≤ x3_1) = false := decide_eq_false c3
            clear c3
            (first | rw [c3b0] | (simp only [i64_w, i32_w]; rw [c3b0]) | skip)
            have H' := Aside0.mk H
            clear H
            go_wp2
            go_meet
            case rel => exact ⟨_, (0), (by first | rfl | (simp; done) | (simp [*]; done)), H', ⟨by have := HK1.out; first | omega | exact Nat.le_refl _⟩, ⟨by (with_reducible repeat (first | apply Kd.R_alloc | apply Kd.R_drewN | apply Kd.R_drew)); exact HO_1.out⟩, ⟨by repeat (first | (with_reducible first | exact HB.out | apply below_alloc | apply pw_below_drewN | apply below_drew1) | exact HB.out)⟩⟩
        case rest =>
          clear HC2
          try clear c1
          try clear c1b0
          try clear p2
          try clear c3
          try clear c3b0
          obtain ⟨kq, x4_1, rfl, HA, HJ1, HO_1, HB⟩ := hcut
          cases kq with
          | zero => exact absurd HA.out (by simp [montageref07_lengths.j1])
          | succ kj1 =>
            have H := HA.out
            clear HA
            simp only [montageref07_lengths.j1] at H
            by_cases c4 : x1_1.length < 5864062014805
            · rw [if_pos c4] at H
              have LMc4 := Aside0.mk c4
              clear c4
              obtain ⟨y145, hy145⟩ : ∃ y_ : List (S96), y_ = (x1_1 ++ [(⟨x3_1, x2_1, x4_1⟩ : S96)]) := ⟨_, rfl⟩
              replace H : (montageref07_lengths.l1 kj1 y145 x2_1 x3_1 x4_1 0) = some r := by first | (rw [hy145]; with_reducible exact H) | (have H2_ := (Option.bind_some _ _).symm.trans H; rw [hy145]; with_reducible exact H2_) | (have H2_ := (Option.bind_some _ _).symm.trans H; with_reducible exact H2_) | with_reducible exact H | (rw [hy145]; exact H) | exact H
              have Ny145 := Aside0.mk hy145
              clear hy145
              have H' := Aside0.mk H
              clear H
              go_wp2_with (first | ((with_reducible refine gate_builtin (b := .append) (xs := #[.tmp 15, .tmp 20]) rfl ?_); at_builtin; refine Kd.R_append k96 (w0 := w) w.heap.size rfl (.tmp 15) (.tmp 20) 64 96 (.agg #[(.int .i64 0), (.int .i64 0), (.int .i64 0)]) 24 rfl Try.underlying64 info96 rfl (by decide) (by omega) u1 x1_1 (⟨x3_1, x2_1, x4_1⟩ : S96) [.int .i64 x3_1, .int .i64 x2_1, .int .i64 x4_1] (fun _ => True) (fun _ => False) rfl rfl ?aP (fun _ hk => hk.elim) ?aF ?aO ?aB ?aS ?aL ?_; (case aP => exact k96_mkM _ _ _ (⟨x3_1, x2_1, x4_1⟩ : S96)); (case aB => exact (by repeat (first | (with_reducible first | exact HB.out | apply below_alloc | apply pw_below_drewN | apply below_drew1) | exact HB.out))); (case aF => exact (fun _ _ => trivial)); (case aO => exact (by (with_reducible repeat (first | apply Kd.R_alloc | apply Kd.R_drewN | apply Kd.R_drew)); exact HO_1.out)); (case aS => exact (below_size (by repeat (first | (with_reducible first | exact HB.out | apply below_alloc | apply pw_below_drewN | apply below_drew1) | exact HB.out)))); (case aL => have := LMc4.out; omega); intro v146 w5 ho hb hg hat; rw [← Ny145.out] at ho; have n0_ := Aside0.mk (hb); have n1_ := Aside0.mk (ho); clear HB; clear HO_1; have HB := n0_; have HO147 := n1_; clear n0_ n1_; clear ho hb hg hat))
              go_loopg [2, 5] kj1 (fun kq v2 v5 w' => ∃ (x2_3 : Int) (x5_3 : Int), v2 = .int .i64 x2_3 ∧ v5 = .int .i64 x5_3 ∧ Aside0 (montageref07_lengths.l1 kq y145 x2_3 x3_1 x4_1 x5_3 = some r) ∧ Aside0 (kq ≤ kj1) ∧ Aside0 (Kd.R k96 96 w' w.heap.size (fun _ => True) v146 y145) ∧ Aside0 (Below w.heap.size w w'))
              case atStart => exact ⟨(x2_1), (0), (by first | rfl | (simp; done) | (simp [*]; done)), (by first | rfl | (simp; done) | (simp [*]; done)), H', ⟨Nat.le_refl _⟩, ⟨by (with_reducible repeat (first | apply Kd.R_alloc | apply Kd.R_drewN | apply Kd.R_drew)); exact HO147.out⟩, ⟨by repeat (first | (with_reducible first | exact HB.out | apply below_alloc | apply pw_below_drewN | apply below_drew1) | exact HB.out)⟩⟩
              case round =>
                clear H'
                try clear c1
                try clear c1b0
                try clear p2
                try clear c3
                try clear c3b0
                try clear c4
                try clear p2
                obtain ⟨x2_3, x5_3, rfl, rfl, HA, HK3, HO_1, HB⟩ := hrel
                cases gk with
                | zero => exact absurd HA.out (by simp [montageref07_lengths.l1])
                | succ k3 =>
                  have H := HA.out
                  clear HA
                  simp only [montageref07_lengths.l1] at H
                  replace H := Option.bind_eq_some_iff.mp H
                  obtain ⟨t148, A60, H⟩ := H
                  replace H : (if x5_3 < t148 then (montageref07_lengths.l1 k3 y145 (wrap64 (x2_3 + 1)) x3_1 x4_1 (wrap64 (x5_3 + 1))) else (montageref07_lengths.l0 k3 y145 x2_3 (wrap64 (x3_1 + 1)))) = some r := H
                  have A6 := Aside0.mk A60
                  clear A60
                  by_cases c7 : x5_3 < t148
                  · rw [if_pos c7] at H
                    have c7b0 : decide (x5_3 < t148) = true := decide_eq_true c7
                    clear c7
                    have H' := Aside0.mk H
                    clear H
                    go_wp2_with (first | ((with_reducible refine gate_callee (f := 64) rfl ?_); refine goesL_ (some 24) rfl rfl Try.func64 (by kernel_rfl) rfl #[.int .i64 x4_1] rfl (by (try simp only [List.map_toArray, List.map_cons, List.map_nil]); first | done | rfl | (simp only [List.length_drop, List.length_take]; rfl)) ?_; (with_reducible refine (montageref07_power.calls k3 x4_1 t148 _ A6.out).mono ?_); rintro e w' ⟨rfl, ⟨nd, rfl⟩⟩; refine ⟨_, rfl, ?_⟩))
                    go_roundg k3
                    case measure => have := HK1.out; have := HJ1.out; have := HK3.out; omega
                    case rel => exact ⟨(wrap64 (x2_3 + 1)), (wrap64 (x5_3 + 1)), (by first | rfl | (simp; done) | (simp [*]; done)), (by first | rfl | (simp; done) | (simp [*]; done)), H', ⟨by have := HK1.out; have := HJ1.out; have := HK3.out; omega⟩, ⟨by (with_reducible repeat (first | apply Kd.R_alloc | apply Kd.R_drewN | apply Kd.R_drew)); exact HO_1.out⟩, ⟨by repeat (first | (with_reducible first | exact HB.out | apply below_alloc | apply pw_below_drewN | apply below_drew1) | exact HB.out)⟩⟩
                  · rw [if_neg c7] at H
                    have c7b0 : decide (x5_3 < t148) = false := decide_eq_false c7
                    clear c7
                    have H' := Aside0.mk H
                    clear H
                    go_wp2_with (first | ((with_reducible refine gate_callee (f := 64) rfl ?_); refine goesL_ (some 24) rfl rfl Try.func64 (by kernel_rfl) rfl #[.int .i64 x4_1] rfl (by (try simp only [List.map_toArray, List.map_cons, List.map_nil]); first | done | rfl | (simp only [List.length_drop, List.length_take]; rfl)) ?_; (with_reducible refine (montageref07_power.calls k3 x4_1 t148 _ A6.out).mono ?_); rintro e w' ⟨rfl, ⟨nd, rfl⟩⟩; refine ⟨_, rfl, ?_⟩))
                    go_roundg k3
                    case measure => have := HK1.out; have := HJ1.out; have := HK3.out; omega
                    case rel => exact ⟨(y145), (x2_3), (wrap64 (x3_1 + 1)), (by first | rfl | (simp; done) | (simp [*]; done)), (by first | rfl | (simp; done) | (simp [*]; done)), H', ⟨by have := HK1.out; have := HJ1.out; have := HK3.out; omega⟩, ⟨by (with_reducible repeat (first | apply Kd.R_alloc | apply Kd.R_drewN | apply Kd.R_drew)); exact HO_1.out⟩, ⟨by repeat (first | (with_reducible first | exact HB.out | apply below_alloc | apply pw_below_drewN | apply below_drew1) | exact HB.out)⟩⟩
            · rw [if_neg c4] at H
              exact absurd H (by simp)
      · rw [if_neg c1] at H
        have c1b0 : decide (x3_1 ≤ 284) = false := decide_eq_false c1
        clear c1
        by_cases c8 : x1_1.length < 5864062014805
        · rw [if_pos c8] at H
          have LMc8 := Aside0.mk c8
          clear c8
          obtain ⟨y142, hy142⟩ : ∃ y_ : List (S96), y_ = (x1_1 ++ [(⟨285, 258, 0⟩ : S96)]) := ⟨_, rfl⟩
          replace H : (some y142) = some r := by first | (rw [hy142]; with_reducible exact H) | (have H2_ := (Option.bind_some _ _).symm.trans H; rw [hy142]; with_reducible exact H2_) | (have H2_ := (Option.bind_some _ _).symm.trans H; with_reducible exact H2_) | with_reducible exact H | (rw [hy142]; exact H) | exact H
          have Ny142 := Aside0.mk hy142
          clear hy142
          obtain rfl := Option.some.inj H
          go_wp2_with (first | ((with_reducible refine gate_builtin (b := .append) (xs := #[.tmp 30, .tmp 32]) rfl ?_); at_builtin; refine Kd.R_append k96 (w0 := w) w.heap.size rfl (.tmp 30) (.tmp 32) 64 96 (.agg #[(.int .i64 0), (.int .i64 0), (.int .i64 0)]) 24 rfl Try.underlying64 info96 rfl (by decide) (by omega) u1 x1_1 (⟨285, 258, 0⟩ : S96) [.int .i64 285, .int .i64 258, .int .i64 0] (fun _ => True) (fun _ => False) rfl rfl ?aP (fun _ hk => hk.elim) ?aF ?aO ?aB ?aS ?aL ?_; (case aP => exact k96_mkM _ _ _ (⟨285, 258, 0⟩ : S96)); (case aB => exact (by repeat (first | (with_reducible first | exact HB.out | apply below_alloc | apply pw_below_drewN | apply below_drew1) | exact HB.out))); (case aF => exact (fun _ _ => trivial)); (case aO => exact (by (with_reducible repeat (first | apply Kd.R_alloc | apply Kd.R_drewN | apply Kd.R_drew)); exact HO_1.out)); (case aS => exact (below_size (by repeat (first | (with_reducible first | exact HB.out | apply below_alloc | apply pw_below_drewN | apply below_drew1) | exact HB.out)))); (case aL => have := LMc8.out; omega); intro v143 w9 ho hb hg hat; rw [← Ny142.out] at ho; have n0_ := Aside0.mk (hb); have n1_ := Aside0.mk (ho); clear HB; clear HO_1; have HB := n0_; have HO144 := n1_; clear n0_ n1_; clear ho hb hg hat))
          go_ret
          exact ⟨_, by first | rfl | (simp [errW_none, errW_some] <;> rfl) | (simp [*, errW_none, errW_some] <;> rfl), by (with_reducible repeat (first | apply Kd.R_alloc | apply Kd.R_drewN | apply Kd.R_drew)); exact HO144.out, by repeat (first | (with_reducible first | exact HB.out | apply below_alloc | apply pw_below_drewN | apply below_drew1) | exact HB.out)⟩
        · rw [if_neg c8] at H
          exact absurd H (by simp)

/-! ### montageref07_of: function 46 -/
def montageref07_of.l0 : Nat → List (S96) → Int → Int → Int → Option (Int × Bool)
  | 0, _, _, _, _ => none
  | k + 1, x0, x1, x2, x8 => if x8 < (x0.length : Int) then (if 0 ≤ x8 then (if ((rd_T96 x0 x8).f0) = x1 then (if x2 ≥ 0 then ((montageref07_power.f k ((rd_T96 x0 x8).f2)).bind fun t151 => (if x2 < t151 then (some (wrap64 (((rd_T96 x0 x8).f1) + x2), true)) else (montageref07_of.l0 k x0 x1 x2 (wrap64 (x8 + 1))))) else (montageref07_of.l0 k x0 x1 x2 (wrap64 (x8 + 1)))) else (montageref07_of.l0 k x0 x1 x2 (wrap64 (x8 + 1)))) else (none)) else (some (0, false))
def montageref07_of.f (k : Nat) (l0 : List (S96)) (a1 : Int) (a2 : Int) : Option (Int × Bool) := montageref07_of.l0 k l0 a1 a2 0
theorem montageref07_of.mono_l : ∀ k, (∀ y0 y1 y2 y3, LeO (montageref07_of.l0 k y0 y1 y2 y3) (montageref07_of.l0 (k + 1) y0 y1 y2 y3))
  | 0 => fun _ _ _ _ r h => by simp [montageref07_of.l0] at h
  | k + 1 => by
    have ih0 := montageref07_of.mono_l k
    · intro y0 y1 y2 y3
      unfold montageref07_of.l0
      repeat' first
      | (with_reducible exact ih0 _ _ _ _)
      | (with_reducible exact montageref07_power.mono _ _)
      | (with_reducible exact LeO.refl _)
      | (with_reducible exact LeO.none _)
      | (with_reducible refine LeO.ite ?_ ?_)
      | (with_reducible refine LeO.bind ?_ (fun _ => ?_))
      | exact ih0 _ _ _ _
      | exact montageref07_power.mono _ _
      | exact LeO.none _
      | refine LeO.ite ?_ ?_
      | refine LeO.bind ?_ (fun _ => ?_)
theorem montageref07_of.mono : ∀ a0 a1 a2 k, LeO (montageref07_of.f k a0 a1 a2) (montageref07_of.f (k + 1) a0 a1 a2) := by
  intro a0 a1 a2 k
  have ih0 := montageref07_of.mono_l k
  unfold montageref07_of.f
  repeat' first
      | (with_reducible exact ih0 _ _ _ _)
      | (with_reducible exact montageref07_power.mono _ _)
      | (with_reducible exact LeO.refl _)
      | (with_reducible exact LeO.none _)
      | (with_reducible refine LeO.ite ?_ ?_)
      | (with_reducible refine LeO.bind ?_ (fun _ => ?_))
      | exact ih0 _ _ _ _
      | exact montageref07_power.mono _ _
      | exact LeO.none _
      | refine LeO.ite ?_ ?_
      | refine LeO.bind ?_ (fun _ => ?_)
set_option maxHeartbeats 8000000 in
set_option maxRecDepth 100000 in
theorem montageref07_of.calls (k : Nat) (A0 : Option Addr) (c0 : Nat) (l0 : List (S96)) (a1 : Int) (a2 : Int) (r1 : Int) (r2 : Bool) (w : World) (hr0 : Kd.C k96 w A0 l0.length l0) (hc0 : l0.length ≤ c0) (h : montageref07_of.f k l0 a1 a2 = some (r1, r2)) :
    Calls Try.prog 46 #[.slice A0 l0.length c0, .int .i64 a1, .int .i64 a2] w fun e w' => e = .returned (.tuple #[.int .i64 r1, .bool r2]) ∧ Drawn0 w w' := by
  have HR0 := Aside0.mk hr0
  have HC0 := Aside0.mk hc0
  clear hr0 hc0
  have H : (montageref07_of.l0 k l0 a1 a2 0) = some (r1, r2) := h
  clear h
  have H' := Aside0.mk H
  clear H
  go_enter Try.func46, Try.ntmps46
  go_wp2
  go_loopg [8] k (fun kq v8 w' => ∃ (x8_1 : Int), v8 = .int .i64 x8_1 ∧ Aside0 (montageref07_of.l0 kq l0 a1 a2 x8_1 = some (r1, r2)) ∧ Aside0 (kq ≤ k) ∧ Drawn0 w w')
  case atStart => exact ⟨(0), (by first | rfl | (simp; done) | (simp [*]; done)), H', ⟨Nat.le_refl _⟩, by repeat (first | exact Drawn0.refl _ | apply Drawn0.step)⟩
  case round =>
    clear H'
    try clear p2
    obtain ⟨x8_1, rfl, HA, HK1, ⟨m1, rfl⟩⟩ := hrel
    cases gk with
    | zero => exact absurd HA.out (by simp [montageref07_of.l0])
    | succ k1 =>
      have H := HA.out
      clear HA
      simp only [montageref07_of.l0] at H
      by_cases c4 : x8_1 < (l0.length : Int)
      · rw [if_pos c4] at H
        have c4b0 : decide (x8_1 < (l0.length : Int)) = true := decide_eq_true c4
        clear c4
        by_cases c5 : 0 ≤ x8_1
        · rw [if_pos c5] at H
          have c5b0 : decide (0 ≤ x8_1) = true := decide_eq_true c5
          clear c5
          by_cases c6 : ((rd_T96 l0 x8_1).f0) = a1
          · rw [if_pos c6] at H
            have c6b0 : (((rd_T96 l0 x8_1).f0) == a1) = true := beq_iff_eq.mpr c6
            have c6b1 : (((rd_T96 l0 x8_1).f0) != a1) = false := bne_eq_false_iff_eq.mpr c6
            clear c6
            by_cases c7 : a2 ≥ 0
            · rw [if_pos c7] at H
              have c7b0 : decide (0 ≤ a2) = true := decide_eq_true c7
              clear c7
              replace H := Option.bind_eq_some_iff.mp H
              obtain ⟨t151, A80, H⟩ := H
              replace H : (if a2 < t151 then (some (wrap64 (((rd_T96 l0 x8_1).f1) + a2), true)) else (montageref07_of.l0 k1 l0 a1 a2 (wrap64 (x8_1 + 1)))) = some (r1, r2) := H
              have A8 := Aside0.mk A80
              clear A80
              by_cases c9 : a2 < t151
              · rw [if_pos c9] at H
                have c9b0 : decide (a2 < t151) = true := decide_eq_true c9
                clear c9
                simp only [Option.some.injEq, Prod.mk.injEq] at H
                obtain ⟨rfl, rfl⟩ := H
                have p149 : 0 ≤ (x8_1 : Int) := of_decide_eq_true (by first | (with_reducible assumption) | assumption)
                have q149 : x8_1 < (l0.length : Int) := of_decide_eq_true (by first | (with_reducible assumption) | assumption)
                obtain ⟨ad149, e149, hx149_0, hx149_1, hx149_2⟩ := at_T96 HR0.out x8_1 p149 q149
                cases e149
                replace p149 := eq_true p149
                replace q149 := eq_true q149
                have p150 : 0 ≤ (x8_1 : Int) := of_decide_eq_true (by first | (with_reducible assumption) | assumption)
                have q150 : x8_1 < (l0.length : Int) := of_decide_eq_true (by first | (with_reducible assumption) | assumption)
                obtain ⟨ad150, e150, hx150_0, hx150_1, hx150_2⟩ := at_T96 HR0.out x8_1 p150 q150
                obtain rfl : ad149 = ad150 := (by injection e150)
                replace p150 := eq_true p150
                replace q150 := eq_true q150
                go_wp2_with (first | (go_at_call 64; (with_reducible refine (montageref07_power.calls k1 ((rd_T96 l0 x8_1).f2) t151 _ A8.out).mono ?_); rintro e w' ⟨rfl, ⟨nd, rfl⟩⟩; have p152 : 0 ≤ (x8_1 : Int) := of_decide_eq_true (by first | (with_reducible assumption) | assumption); have q152 : x8_1 < (l0.length : Int) := of_decide_eq_true (by first | (with_reducible assumption) | assumption); obtain ⟨ad152, e152, hx152_0, hx152_1, hx152_2⟩ := at_T96 HR0.out x8_1 p152 q152; obtain rfl : ad149 = ad152 := (by injection e152); replace p152 := eq_true p152; replace q152 := eq_true q152))
                go_ret2
                exact ⟨by first | rfl | (simp; done) | (simp [*]; done), by repeat (first | exact Drawn0.refl _ | apply Drawn0.step)⟩
              · rw [if_neg c9] at H
                have c9b0 : decide (a2 < t151) = false := decide_eq_false c9
                clear c9
                have H' := Aside0.mk H
                clear H
                have p149 : 0 ≤ (x8_1 : Int) := of_decide_eq_true (by first | (with_reducible assumption) | assumption)
                have q149 : x8_1 < (l0.length : Int) := of_decide_eq_true (by first | (with_reducible assumption) | assumption)
                obtain ⟨ad149, e149, hx149_0, hx149_1, hx149_2⟩ := at_T96 HR0.out x8_1 p149 q149
                cases e149
                replace p149 := eq_true p149
                replace q149 := eq_true q149
                have p150 : 0 ≤ (x8_1 : Int) := of_decide_eq_true (by first | (with_reducible assumption) | assumption)
                have q150 : x8_1 < (l0.length : Int) := of_decide_eq_true (by first | (with_reducible assumption) | assumption)
                obtain ⟨ad150, e150, hx150_0, hx150_1, hx150_2⟩ := at_T96 HR0.out x8_1 p150 q150
                obtain rfl : ad149 = ad150 := (by injection e150)
                replace p150 := eq_true p150
                replace q150 := eq_true q150
                go_wp2_with (first | (go_at_call 64; (with_reducible refine (montageref07_power.calls k1 ((rd_T96 l0 x8_1).f2) t151 _ A8.out).mono ?_); rintro e w' ⟨rfl, ⟨nd, rfl⟩⟩))
                go_roundg k1
                case measure => have := HK1.out; omega
                case rel => exact ⟨(wrap64 (x8_1 + 1)), (by first | rfl | (simp; done) | (simp [*]; done)), H', ⟨by have := HK1.out; omega⟩, by repeat (first | exact Drawn0.refl _ | apply Drawn0.step)⟩
            · rw [if_neg c7] at H
              have c7b0 : decide (0 ≤ a2) = false := decide_eq_false c7
              clear c7
              have H' := Aside0.mk H
              clear H
              have p149 : 0 ≤ (x8_1 : Int) := of_decide_eq_true (by first | (with_reducible assumption) | assumption)
              have q149 : x8_1 < (l0.length : Int) := of_decide_eq_true (by first | (with_reducible assumption) | assumption)
              obtain ⟨ad149, e149, hx149_0, hx149_1, hx149_2⟩ := at_T96 HR0.out x8_1 p149 q149
              cases e149
              replace p149 := eq_true p149
              replace q149 := eq_true q149
              go_wp2
              go_roundg k1
              case measure => have := HK1.out; omega
              case rel => exact ⟨(wrap64 (x8_1 + 1)), (by first | rfl | (simp; done) | (simp [*]; done)), H', ⟨by have := HK1.out; omega⟩, by repeat (first | exact Drawn0.refl _ | apply Drawn0.step)⟩
          · rw [if_neg c6] at H
            have c6b0 : (((rd_T96 l0 x8_1).f0) == a1) = false := beq_eq_false_iff_ne.mpr c6
            have c6b1 : (((rd_T96 l0 x8_1).f0) != a1) = true := bne_iff_ne.mpr c6
            have H' := Aside0.mk H
            clear H
            have p149 : 0 ≤ (x8_1 : Int) := of_decide_eq_true (by first | (with_reducible assumption) | assumption)
            have q149 : x8_1 < (l0.length : Int) := of_decide_eq_true (by first | (with_reducible assumption) | assumption)
            obtain ⟨ad149, e149, hx149_0, hx149_1, hx149_2⟩ := at_T96 HR0.out x8_1 p149 q149
            cases e149
            replace p149 := eq_true p149
            replace q149 := eq_true q149
            go_wp2
            go_roundg k1
            case measure => have := HK1.out; omega
            case rel => exact ⟨(wrap64 (x8_1 + 1)), (by first | rfl | (simp; done) | (simp [*]; done)), H', ⟨by have := HK1.out; omega⟩, by repeat (first | exact Drawn0.refl _ | apply Drawn0.step)⟩
        · rw [if_neg c5] at H
          exact absurd H (by simp)
      · rw [if_neg c4] at H
        have c4b0 : decide (x8_1 < (l0.length : Int)) = false := decide_eq_false c4
        clear c4
        simp only [Option.some.injEq, Prod.mk.injEq] at H
        obtain ⟨rfl, rfl⟩ := H
        go_wp2
        go_ret2
        exact ⟨by first | rfl | (simp; done) | (simp [*]; done), by repeat (first | exact Drawn0.refl _ | apply Drawn0.step)⟩

/-! ### montageref07_LengthOf: function 23 -/
def montageref07_LengthOf.j0 : Nat → Int → Int → Bool → Option (Int × Bool)
  | 0, _, _, _ => none
  | k + 1, x0, x1, x11 => if x11 = true then (some (0, false)) else ((montageref07_lengths.f k).bind fun t153 => ((montageref07_of.f k t153 x0 x1).bind fun bt156 => (some (bt156.1, bt156.2))))
def montageref07_LengthOf.f (k : Nat) (a0 : Int) (a1 : Int) : Option (Int × Bool) := if a0 = 284 then (montageref07_LengthOf.j0 k a0 a1 (a1 == 31)) else (montageref07_LengthOf.j0 k a0 a1 false)
theorem montageref07_LengthOf.mono_l : ∀ k, (∀ y0 y1 y2, LeO (montageref07_LengthOf.j0 k y0 y1 y2) (montageref07_LengthOf.j0 (k + 1) y0 y1 y2))
  | 0 => fun _ _ _ r h => by simp [montageref07_LengthOf.j0] at h
  | k + 1 => by
    have ih0 := montageref07_LengthOf.mono_l k
    · intro y0 y1 y2
      unfold montageref07_LengthOf.j0
      repeat' first
      | (with_reducible exact ih0 _ _ _)
      | (with_reducible exact montageref07_lengths.mono _)
      | (with_reducible exact montageref07_of.mono _ _ _ _)
      | (with_reducible exact LeO.refl _)
      | (with_reducible exact LeO.none _)
      | (with_reducible refine LeO.ite ?_ ?_)
      | (with_reducible refine LeO.bind ?_ (fun _ => ?_))
      | exact ih0 _ _ _
      | exact montageref07_lengths.mono _
      | exact montageref07_of.mono _ _ _ _
      | exact LeO.none _
      | refine LeO.ite ?_ ?_
      | refine LeO.bind ?_ (fun _ => ?_)
theorem montageref07_LengthOf.mono : ∀ a0 a1 k, LeO (montageref07_LengthOf.f k a0 a1) (montageref07_LengthOf.f (k + 1) a0 a1) := by
  intro a0 a1 k
  have ih0 := montageref07_LengthOf.mono_l k
  unfold montageref07_LengthOf.f
  repeat' first
      | (with_reducible exact ih0 _ _ _)
      | (with_reducible exact montageref07_lengths.mono _)
      | (with_reducible exact montageref07_of.mono _ _ _ _)
      | (with_reducible exact LeO.refl _)
      | (with_reducible exact LeO.none _)
      | (with_reducible refine LeO.ite ?_ ?_)
      | (with_reducible refine LeO.bind ?_ (fun _ => ?_))
      | exact ih0 _ _ _
      | exact montageref07_lengths.mono _
      | exact montageref07_of.mono _ _ _ _
      | exact LeO.none _
      | refine LeO.ite ?_ ?_
      | refine LeO.bind ?_ (fun _ => ?_)
set_option maxHeartbeats 8000000 in
set_option maxRecDepth 100000 in
theorem montageref07_LengthOf.calls (k : Nat) (a0 : Int) (a1 : Int) (r1 : Int) (r2 : Bool) (w : World) (h : montageref07_LengthOf.f k a0 a1 = some (r1, r2)) :
    Calls Try.prog 23 #[.int .i64 a0, .int .i64 a1] w fun e w' => e = .returned (.tuple #[.int .i64 r1, .bool r2]) ∧ Below w.heap.size w w' := by
  have HB := Aside0.mk (Below.refl w.heap.size w)
  have H : (if a0 = 284 then (montageref07_LengthOf.j0 k a0 a1 (a1 == 31)) else (montageref07_LengthOf.j0 k a0 a1 false)) = some (r1, r2) := h
  clear h
  have HC3 := Aside0.mk H
  clear H
  go_enter Try.func23, Try.ntmps23
  go_upto_region 1 with (fail)
  go_cut [11] (fun v11 wc => ∃ (kq : Nat) (x11_2 : Bool), v11 = .bool x11_2 ∧ Aside0 (montageref07_LengthOf.j0 kq a0 a1 x11_2 = some (r1, r2)) ∧ Aside0 (kq ≤ k) ∧ Aside0 (Below w.heap.size w wc))
  case first =>
    have H := HC3.out
    clear HC3
    by_cases c4 : a0 = 284
    · rw [if_pos c4] at H
      have c4b0 : (a0 == 284) = true := beq_iff_eq.mpr c4
      have c4b1 : (a0 != 284) = false := bne_eq_false_iff_eq.mpr c4
      clear c4
      (first | rw [c4b0] | (simp only [i64_w, i32_w]; rw [c4b0]) | skip)
      have H' := Aside0.mk H
      clear H
      go_wp2
      go_meet
      case rel => exact ⟨_, ((a1 == 31)), (by first | rfl | (simp; done) | (simp [*]; done)), H', ⟨by first | omega | exact Nat.le_refl _⟩, ⟨by repeat (first | (with_reducible first | exact HB.out | apply below_alloc | apply pw_below_drewN | apply below_drew1) | exact HB.out)⟩⟩
    · rw [if_neg c4] at H
      have c4b0 : (a0 == 284) = false := beq_eq_false_iff_ne.mpr c4
      have c4b1 : (a0 != 284) = true := bne_iff_ne.mpr c4
      (first | rw [c4b0] | (simp only [i64_w, i32_w]; rw [c4b0]) | skip)
      have H' := Aside0.mk H
      clear H
      go_wp2
      go_meet
      case rel => exact ⟨_, (false), (by first | rfl | (simp; done) | (simp [*]; done)), H', ⟨by first | omega | exact Nat.le_refl _⟩, ⟨by repeat (first | (with_reducible first | exact HB.out | apply below_alloc | apply pw_below_drewN | apply below_drew1) | exact HB.out)⟩⟩
  case rest =>
    clear HC3
    try clear c2
    try clear p2
    try clear c4
    try clear c4b0
    try clear c4b1
    obtain ⟨kq, x11_2, rfl, HA, HJ2, HB⟩ := hcut
    cases kq with
    | zero => exact absurd HA.out (by simp [montageref07_LengthOf.j0])
    | succ kj2 =>
      have H := HA.out
      clear HA
      simp only [montageref07_LengthOf.j0] at H
      by_cases c5 : x11_2 = true
      · subst c5
        have H1 : (some (0, false)) = some (r1, r2) := by rw [if_pos rfl] at H; exact H
        clear H
        have H := H1
        clear H1
        simp only [Option.some.injEq, Prod.mk.injEq] at H
        obtain ⟨rfl, rfl⟩ := H
        go_wp2
        go_ret2
        exact ⟨by first | rfl | (simp [errW_none, errW_some] <;> rfl) | (simp [*, errW_none, errW_some] <;> rfl), by repeat (first | (with_reducible first | exact HB.out | apply below_alloc | apply pw_below_drewN | apply below_drew1) | exact HB.out)⟩
      · replace c5 := Bool.eq_false_iff.mpr c5
        subst c5
        have H1 : ((montageref07_lengths.f kj2).bind fun t153 => ((montageref07_of.f kj2 t153 a0 a1).bind fun bt156 => (some (bt156.1, bt156.2)))) = some (r1, r2) := by rw [if_neg (show ¬ (false = true) by decide)] at H; exact H
        clear H
        have H := H1
        clear H1
        replace H := Option.bind_eq_some_iff.mp H
        obtain ⟨t153, A60, H⟩ := H
        replace H : ((montageref07_of.f kj2 t153 a0 a1).bind fun bt156 => (some (bt156.1, bt156.2))) = some (r1, r2) := H
        have A6 := Aside0.mk A60
        clear A60
        replace H := Option.bind_eq_some_iff.mp H
        obtain ⟨⟨t156, t157⟩, A70, H⟩ := H
        replace H : (some (t156, t157)) = some (r1, r2) := H
        have A7 := Aside0.mk A70
        clear A70
        simp only [Option.some.injEq, Prod.mk.injEq] at H
        obtain ⟨rfl, rfl⟩ := H
        go_wp2_with (first | ((with_reducible refine gate_callee (f := 43) rfl ?_); refine goesL_ (some 12) rfl rfl Try.func43 (by kernel_rfl) rfl #[] rfl (by (try simp only [List.map_toArray, List.map_cons, List.map_nil]); first | done | rfl | (simp only [List.length_drop, List.length_take]; rfl)) ?_; (with_reducible refine (montageref07_lengths.calls kj2  t153 _ A6.out).mono ?_); rintro e w8 ⟨v154, rfl, ho0, hb⟩; refine ⟨_, rfl, ?_⟩; have n0_ := Aside0.mk (Kd.R_lower ho0 (below_size (by repeat (first | (with_reducible first | exact HB.out | apply below_alloc | apply pw_below_drewN | apply below_drew1) | exact HB.out)))); have n1_ := Aside0.mk (below_step (by repeat (first | (with_reducible first | exact HB.out | apply below_alloc | apply pw_below_drewN | apply below_drew1) | exact HB.out)) hb); clear HB; have HO155 := n0_; have HB := n1_; clear n0_ n1_; (try clear hb); (try clear hb2); (try clear hk); (try clear hi); (try clear ho0); obtain ⟨Ao9, co9, eo9⟩ := Kd.R_slice HO155.out; subst eo9) | ((with_reducible refine gate_callee (f := 46) rfl ?_); refine goesL_ (some 15) rfl rfl Try.func46 (by kernel_rfl) rfl #[.slice Ao9 t153.length co9, .int .i64 a0, .int .i64 a1] rfl (by (try simp only [List.map_toArray, List.map_cons, List.map_nil]); first | done | rfl | (simp only [List.length_drop, List.length_take]; rfl)) ?_; (with_reducible refine (montageref07_of.calls kj2 _ _ t153 a0 a1 t156 t157 _ ?side1 ?side2 A7.out).mono ?_); (case side1 => repeat (first | exact (Kd.R_reads' HO155.out).2.2 | (with_reducible refine Kd.C_alloc ?_ _) | (with_reducible refine Kd.C_drewN ?_ _) | (with_reducible refine Kd.C_drew ?_))); (case side2 => exact (Kd.R_reads' HO155.out).2.1); rintro e w' ⟨rfl, ⟨nd, rfl⟩⟩; refine ⟨_, rfl, ?_⟩))
        go_ret2
        exact ⟨by first | rfl | (simp [errW_none, errW_some] <;> rfl) | (simp [*, errW_none, errW_some] <;> rfl), by repeat (first | (with_reducible first | exact HB.out | apply below_alloc | apply pw_below_drewN | apply below_drew1) | exact HB.out)⟩

/-! ### montageref07_distances: function 44 -/
def montageref07_distances.l0 : Nat → List (S96) → Int → Int → Option ((List (S96)))
  | 0, _, _, _ => none
  | k + 1, x1, x2, x3 => if x3 ≤ 29 then (if x3 ≥ 4 then (if x1.length < 5864062014805 then ((montageref07_power.f k (wrap64 (Int.tdiv (wrap64 (x3 - 2)) 2))).bind fun t161 => (montageref07_distances.l0 k (x1 ++ [(⟨x3, x2, wrap64 (Int.tdiv (wrap64 (x3 - 2)) 2)⟩ : S96)]) (wrap64 (x2 + t161)) (wrap64 (x3 + 1)))) else (none)) else (if x1.length < 5864062014805 then ((montageref07_power.f k 0).bind fun t165 => (montageref07_distances.l0 k (x1 ++ [(⟨x3, x2, 0⟩ : S96)]) (wrap64 (x2 + t165)) (wrap64 (x3 + 1)))) else (none))) else (some x1)
def montageref07_distances.f (k : Nat)  : Option ((List (S96))) := montageref07_distances.l0 k ([] : List (S96)) 1 0
theorem montageref07_distances.mono_l : ∀ k, (∀ y0 y1 y2, LeO (montageref07_distances.l0 k y0 y1 y2) (montageref07_distances.l0 (k + 1) y0 y1 y2))
  | 0 => fun _ _ _ r h => by simp [montageref07_distances.l0] at h
  | k + 1 => by
    have ih0 := montageref07_distances.mono_l k
    · intro y0 y1 y2
      unfold montageref07_distances.l0
      repeat' first
      | (with_reducible exact ih0 _ _ _)
      | (with_reducible exact montageref07_power.mono _ _)
      | (with_reducible exact LeO.refl _)
      | (with_reducible exact LeO.none _)
      | (with_reducible refine LeO.ite ?_ ?_)
      | (with_reducible refine LeO.bind ?_ (fun _ => ?_))
      | exact ih0 _ _ _
      | exact montageref07_power.mono _ _
      | exact LeO.none _
      | refine LeO.ite ?_ ?_
      | refine LeO.bind ?_ (fun _ => ?_)
theorem montageref07_distances.mono : ∀ k, LeO (montageref07_distances.f k ) (montageref07_distances.f (k + 1) ) := by
  intro  k
  have ih0 := montageref07_distances.mono_l k
  unfold montageref07_distances.f
  repeat' first
      | (with_reducible exact ih0 _ _ _)
      | (with_reducible exact montageref07_power.mono _ _)
      | (with_reducible exact LeO.refl _)
      | (with_reducible exact LeO.none _)
      | (with_reducible refine LeO.ite ?_ ?_)
      | (with_reducible refine LeO.bind ?_ (fun _ => ?_))
      | exact ih0 _ _ _
      | exact montageref07_power.mono _ _
      | exact LeO.none _
      | refine LeO.ite ?_ ?_
      | refine LeO.bind ?_ (fun _ => ?_)
set_option maxHeartbeats 8000000 in
set_option maxRecDepth 100000 in
theorem montageref07_distances.calls (k : Nat)  (r : List (S96)) (w : World) (h : montageref07_distances.f k  = some r) :
    Calls Try.prog 44 #[] w fun e w' => ∃ v0_ : Value, e = .returned (v0_) ∧ Kd.R k96 96 w' w.heap.size (fun _ => True) v0_ r ∧ Below w.heap.size w w' := by
  have hu96 := Try.underlying96
  have HB := Aside0.mk (Below.refl w.heap.size w)
  have H : (montageref07_distances.l0 k ([] : List (S96)) 1 0) = some r := h
  clear h
  have H' := Aside0.mk H
  clear H
  go_enter Try.func44, Try.ntmps44
  go_wp2
  go_loopg [1, 2, 3] k (fun kq v1 v2 v3 w' => ∃ (x1_1 : List (S96)) (x2_1 : Int) (x3_1 : Int), v2 = .int .i64 x2_1 ∧ v3 = .int .i64 x3_1 ∧ Aside0 (montageref07_distances.l0 kq x1_1 x2_1 x3_1 = some r) ∧ Aside0 (kq ≤ k) ∧ Aside0 (Kd.R k96 96 w' w.heap.size (fun _ => True) v1 x1_1) ∧ Aside0 (Below w.heap.size w w'))
  case atStart => exact ⟨(([] : List (S96))), (1), (0), (by first | rfl | (simp; done) | (simp [*]; done)), (by first | rfl | (simp; done) | (simp [*]; done)), H', ⟨Nat.le_refl _⟩, ⟨by first | exact Kd.R_nil _ _ _ _ _ | exact Kd.N_nil _ _ _ _ _ | exact Kd.V_nil _ _ _ _ _ | exact Kd.Q_nil _ _ _ _ _ | exact Kd.S_nil _ _ _ _ _⟩, ⟨by repeat (first | (with_reducible first | exact HB.out | apply below_alloc | apply pw_below_drewN | apply below_drew1) | exact HB.out)⟩⟩
  case round =>
    clear H'
    obtain ⟨x1_1, x2_1, x3_1, rfl, rfl, HA, HK1, HO_1, HB⟩ := hrel
    cases gk with
    | zero => exact absurd HA.out (by simp [montageref07_distances.l0])
    | succ k1 =>
      have H := HA.out
      clear HA
      simp only [montageref07_distances.l0] at H
      by_cases c1 : x3_1 ≤ 29
      · rw [if_pos c1] at H
        have c1b0 : decide (x3_1 ≤ 29) = true := decide_eq_true c1
        clear c1
        by_cases c2 : x3_1 ≥ 4
        · rw [if_pos c2] at H
          have c2b0 : decide (4 ≤ x3_1) = true := decide_eq_true c2
          clear c2
          by_cases c3 : x1_1.length < 5864062014805
          · rw [if_pos c3] at H
            have LMc3 := Aside0.mk c3
            clear c3
            obtain ⟨y158, hy158⟩ : ∃ y_ : List (S96), y_ = (x1_1 ++ [(⟨x3_1, x2_1, wrap64 (Int.tdiv (wrap64 (x3_1 - 2)) 2)⟩ : S96)]) := ⟨_, rfl⟩
            replace H : ((montageref07_power.f k1 (wrap64 (Int.tdiv (wrap64 (x3_1 - 2)) 2))).bind fun t161 => (montageref07_distances.l0 k1 y158 (wrap64 (x2_1 + t161)) (wrap64 (x3_1 + 1)))) = some r := by first | (rw [hy158]; with_reducible exact H) | (have H2_ := (Option.bind_some _ _).symm.trans H; rw [hy158]; with_reducible exact H2_) | (have H2_ := (Option.bind_some _ _).symm.trans H; with_reducible exact H2_) | with_reducible exact H | (rw [hy158]; exact H) | exact H
            have Ny158 := Aside0.mk hy158
            clear hy158
            replace H := Option.bind_eq_some_iff.mp H
            obtain ⟨t161, A40, H⟩ := H
            replace H : (montageref07_distances.l0 k1 y158 (wrap64 (x2_1 + t161)) (wrap64 (x3_1 + 1))) = some r := H
            have A4 := Aside0.mk A40
            clear A40
            have H' := Aside0.mk H
            clear H
            go_wp2_with (first | ((with_reducible refine gate_builtin (b := .append) (xs := #[.tmp 14, .tmp 19]) rfl ?_); at_builtin; refine Kd.R_append k96 (w0 := w) w.heap.size rfl (.tmp 14) (.tmp 19) 64 96 (.agg #[(.int .i64 0), (.int .i64 0), (.int .i64 0)]) 24 rfl Try.underlying64 info96 rfl (by decide) (by omega) u1 x1_1 (⟨x3_1, x2_1, wrap64 (Int.tdiv (wrap64 (x3_1 - 2)) 2)⟩ : S96) [.int .i64 x3_1, .int .i64 x2_1, .int .i64 (wrap64 (Int.tdiv (wrap64 (x3_1 - 2)) 2))] (fun _ => True) (fun _ => False) rfl rfl ?aP (fun _ hk => hk.elim) ?aF ?aO ?aB ?aS ?aL ?_; (case aP => exact k96_mkM _ _ _ (⟨x3_1, x2_1, wrap64 (Int.tdiv (wrap64 (x3_1 - 2)) 2)⟩ : S96)); (case aB => exact (by repeat (first | (with_reducible first | exact HB.out | apply below_alloc | apply pw_below_drewN | apply below_drew1) | exact HB.out))); (case aF => exact (fun _ _ => trivial)); (case aO => exact (by (with_reducible repeat (first | apply Kd.R_alloc | apply Kd.R_drewN | apply Kd.R_drew)); exact HO_1.out)); (case aS => exact (below_size (by repeat (first | (with_reducible first | exact HB.out | apply below_alloc | apply pw_below_drewN | apply below_drew1) | exact HB.out)))); (case aL => have := LMc3.out; omega); intro v159 w5 ho hb hg hat; rw [← Ny158.out] at ho; have n0_ := Aside0.mk (hb); have n1_ := Aside0.mk (ho); clear HB; clear HO_1; have HB := n0_; have HO160 := n1_; clear n0_ n1_; clear ho hb hg hat) | ((with_reducible refine gate_callee (f := 64) rfl ?_); refine goesL_ (some 23) rfl rfl Try.func64 (by kernel_rfl) rfl #[.int .i64 (wrap64 (Int.tdiv (wrap64 (x3_1 - 2)) 2))] rfl (by (try simp only [List.map_toArray, List.map_cons, List.map_nil]); first | done | rfl | (simp only [List.length_drop, List.length_take]; rfl)) ?_; (with_reducible refine (montageref07_power.calls k1 (wrap64 (Int.tdiv (wrap64 (x3_1 - 2)) 2)) t161 _ A4.out).mono ?_); rintro e w' ⟨rfl, ⟨nd, rfl⟩⟩; refine ⟨_, rfl, ?_⟩))
            go_roundg k1
            case measure => have := HK1.out; omega
            case rel => exact ⟨(y158), (wrap64 (x2_1 + t161)), (wrap64 (x3_1 + 1)), (by first | rfl | (simp; done) | (simp [*]; done)), (by first | rfl | (simp; done) | (simp [*]; done)), H', ⟨by have := HK1.out; omega⟩, ⟨by (with_reducible repeat (first | apply Kd.R_alloc | apply Kd.R_drewN | apply Kd.R_drew)); exact HO160.out⟩, ⟨by repeat (first | (with_reducible first | exact HB.out | apply below_alloc | apply pw_below_drewN | apply below_drew1) | exact HB.out)⟩⟩
          · rw [if_neg c3] at H
            exact absurd H (by simp)
        · rw [if_neg c2] at H
          have c2b0 : decide (4 ≤ x3_1) = false := decide_eq_false c2
          clear c2
          by_cases c6 : x1_1.length < 5864062014805
          · rw [if_pos c6] at H
            have LMc6 := Aside0.mk c6
            clear c6
            obtain ⟨y162, hy162⟩ : ∃ y_ : List (S96), y_ = (x1_1 ++ [(⟨x3_1, x2_1, 0⟩ : S96)]) := ⟨_, rfl⟩
            replace H : ((montageref07_power.f k1 0).bind fun t165 => (montageref07_distances.l0 k1 y162 (wrap64 (x2_1 + t165)) (wrap64 (x3_1 + 1)))) = some r := by first | (rw [hy162]; with_reducible exact H) | (have H2_ := (Option.bind_some _ _).symm.trans H; rw [hy162]; with_reducible exact H2_) | (have H2_ := (Option.bind_some _ _).symm.trans H; with_reducible exact H2_) | with_reducible exact H | (rw [hy162]; exact H) | exact H
            have Ny162 := Aside0.mk hy162
            clear hy162
            replace H := Option.bind_eq_some_iff.mp H
            obtain ⟨t165, A70, H⟩ := H
            replace H : (montageref07_distances.l0 k1 y162 (wrap64 (x2_1 + t165)) (wrap64 (x3_1 + 1))) = some r := H
            have A7 := Aside0.mk A70
            clear A70
            have H' := Aside0.mk H
            clear H
            go_wp2_with (first | ((with_reducible refine gate_builtin (b := .append) (xs := #[.tmp 14, .tmp 19]) rfl ?_); at_builtin; refine Kd.R_append k96 (w0 := w) w.heap.size rfl (.tmp 14) (.tmp 19) 64 96 (.agg #[(.int .i64 0), (.int .i64 0), (.int .i64 0)]) 24 rfl Try.underlying64 info96 rfl (by decide) (by omega) u1 x1_1 (⟨x3_1, x2_1, 0⟩ : S96) [.int .i64 x3_1, .int .i64 x2_1, .int .i64 0] (fun _ => True) (fun _ => False) rfl rfl ?aP (fun _ hk => hk.elim) ?aF ?aO ?aB ?aS ?aL ?_; (case aP => exact k96_mkM _ _ _ (⟨x3_1, x2_1, 0⟩ : S96)); (case aB => exact (by repeat (first | (with_reducible first | exact HB.out | apply below_alloc | apply pw_below_drewN | apply below_drew1) | exact HB.out))); (case aF => exact (fun _ _ => trivial)); (case aO => exact (by (with_reducible repeat (first | apply Kd.R_alloc | apply Kd.R_drewN | apply Kd.R_drew)); exact HO_1.out)); (case aS => exact (below_size (by repeat (first | (with_reducible first | exact HB.out | apply below_alloc | apply pw_below_drewN | apply below_drew1) | exact HB.out)))); (case aL => have := LMc6.out; omega); intro v163 w8 ho hb hg hat; rw [← Ny162.out] at ho; have n0_ := Aside0.mk (hb); have n1_ := Aside0.mk (ho); clear HB; clear HO_1; have HB := n0_; have HO164 := n1_; clear n0_ n1_; clear ho hb hg hat) | ((with_reducible refine gate_callee (f := 64) rfl ?_); refine goesL_ (some 23) rfl rfl Try.func64 (by kernel_rfl) rfl #[.int .i64 0] rfl (by (try simp only [List.map_toArray, List.map_cons, List.map_nil]); first | done | rfl | (simp only [List.length_drop, List.length_take]; rfl)) ?_; (with_reducible refine (montageref07_power.calls k1 0 t165 _ A7.out).mono ?_); rintro e w' ⟨rfl, ⟨nd, rfl⟩⟩; refine ⟨_, rfl, ?_⟩))
            go_roundg k1
            case measure => have := HK1.out; omega
            case rel => exact ⟨(y162), (wrap64 (x2_1 + t165)), (wrap64 (x3_1 + 1)), (by first | rfl | (simp; done) | (simp [*]; done)), (by first | rfl | (simp; done) | (simp [*]; done)), H', ⟨by have := HK1.out; omega⟩, ⟨by (with_reducible repeat (first | apply Kd.R_alloc | apply Kd.R_drewN | apply Kd.R_drew)); exact HO164.out⟩, ⟨by repeat (first | (with_reducible first | exact HB.out | apply below_alloc | apply pw_below_drewN | apply below_drew1) | exact HB.out)⟩⟩
          · rw [if_neg c6] at H
            exact absurd H (by simp)
      · rw [if_neg c1] at H
        have c1b0 : decide (x3_1 ≤ 29) = false := decide_eq_false c1
        clear c1
        obtain rfl := Option.some.inj H
        go_wp2
        go_ret
        exact ⟨_, by first | rfl | (simp [errW_none, errW_some] <;> rfl) | (simp [*, errW_none, errW_some] <;> rfl), by (with_reducible repeat (first | apply Kd.R_alloc | apply Kd.R_drewN | apply Kd.R_drew)); exact HO_1.out, by repeat (first | (with_reducible first | exact HB.out | apply below_alloc | apply pw_below_drewN | apply below_drew1) | exact HB.out)⟩

/-! ### montageref07_DistanceOf: function 24 -/
def montageref07_DistanceOf.f (k : Nat) (a0 : Int) (a1 : Int) : Option (Int × Bool) := (montageref07_distances.f k).bind fun t166 => ((montageref07_of.f k t166 a0 a1).bind fun bt169 => (some (bt169.1, bt169.2)))
theorem montageref07_DistanceOf.mono : ∀ a0 a1 k, LeO (montageref07_DistanceOf.f k a0 a1) (montageref07_DistanceOf.f (k + 1) a0 a1) := by
  intro a0 a1 k
  unfold montageref07_DistanceOf.f
  repeat' first
      | (with_reducible exact montageref07_distances.mono _)
      | (with_reducible exact montageref07_of.mono _ _ _ _)
      | (with_reducible exact LeO.refl _)
      | (with_reducible exact LeO.none _)
      | (with_reducible refine LeO.ite ?_ ?_)
      | (with_reducible refine LeO.bind ?_ (fun _ => ?_))
      | exact montageref07_distances.mono _
      | exact montageref07_of.mono _ _ _ _
      | exact LeO.none _
      | refine LeO.ite ?_ ?_
      | refine LeO.bind ?_ (fun _ => ?_)
set_option maxHeartbeats 8000000 in
set_option maxRecDepth 100000 in
theorem montageref07_DistanceOf.calls (k : Nat) (a0 : Int) (a1 : Int) (r1 : Int) (r2 : Bool) (w : World) (h : montageref07_DistanceOf.f k a0 a1 = some (r1, r2)) :
    Calls Try.prog 24 #[.int .i64 a0, .int .i64 a1] w fun e w' => e = .returned (.tuple #[.int .i64 r1, .bool r2]) ∧ Below w.heap.size w w' := by
  have HB := Aside0.mk (Below.refl w.heap.size w)
  have H : ((montageref07_distances.f k).bind fun t166 => ((montageref07_of.f k t166 a0 a1).bind fun bt169 => (some (bt169.1, bt169.2)))) = some (r1, r2) := h
  clear h
  replace H := Option.bind_eq_some_iff.mp H
  obtain ⟨t166, A30, H⟩ := H
  replace H : ((montageref07_of.f k t166 a0 a1).bind fun bt169 => (some (bt169.1, bt169.2))) = some (r1, r2) := H
  have A3 := Aside0.mk A30
  clear A30
  replace H := Option.bind_eq_some_iff.mp H
  obtain ⟨⟨t169, t170⟩, A40, H⟩ := H
  replace H : (some (t169, t170)) = some (r1, r2) := H
  have A4 := Aside0.mk A40
  clear A40
  simp only [Option.some.injEq, Prod.mk.injEq] at H
  obtain ⟨rfl, rfl⟩ := H
  go_enter Try.func24, Try.ntmps24
  go_wp2_with (first | ((with_reducible refine gate_callee (f := 44) rfl ?_); refine goesL_ (some 6) rfl rfl Try.func44 (by kernel_rfl) rfl #[] rfl (by (try simp only [List.map_toArray, List.map_cons, List.map_nil]); first | done | rfl | (simp only [List.length_drop, List.length_take]; rfl)) ?_; (with_reducible refine (montageref07_distances.calls k  t166 _ A3.out).mono ?_); rintro e w5 ⟨v167, rfl, ho0, hb⟩; refine ⟨_, rfl, ?_⟩; have n0_ := Aside0.mk (Kd.R_lower ho0 (below_size (by repeat (first | (with_reducible first | exact HB.out | apply below_alloc | apply pw_below_drewN | apply below_drew1) | exact HB.out)))); have n1_ := Aside0.mk (below_step (by repeat (first | (with_reducible first | exact HB.out | apply below_alloc | apply pw_below_drewN | apply below_drew1) | exact HB.out)) hb); clear HB; have HO168 := n0_; have HB := n1_; clear n0_ n1_; (try clear hb); (try clear hb2); (try clear hk); (try clear hi); (try clear ho0); obtain ⟨Ao6, co6, eo6⟩ := Kd.R_slice HO168.out; subst eo6) | ((with_reducible refine gate_callee (f := 46) rfl ?_); refine goesL_ (some 9) rfl rfl Try.func46 (by kernel_rfl) rfl #[.slice Ao6 t166.length co6, .int .i64 a0, .int .i64 a1] rfl (by (try simp only [List.map_toArray, List.map_cons, List.map_nil]); first | done | rfl | (simp only [List.length_drop, List.length_take]; rfl)) ?_; (with_reducible refine (montageref07_of.calls k _ _ t166 a0 a1 t169 t170 _ ?side1 ?side2 A4.out).mono ?_); (case side1 => repeat (first | exact (Kd.R_reads' HO168.out).2.2 | (with_reducible refine Kd.C_alloc ?_ _) | (with_reducible refine Kd.C_drewN ?_ _) | (with_reducible refine Kd.C_drew ?_))); (case side2 => exact (Kd.R_reads' HO168.out).2.1); rintro e w' ⟨rfl, ⟨nd, rfl⟩⟩; refine ⟨_, rfl, ?_⟩))
  go_ret2
  exact ⟨by first | rfl | (simp [errW_none, errW_some] <;> rfl) | (simp [*, errW_none, errW_some] <;> rfl), by repeat (first | (with_reducible first | exact HB.out | apply below_alloc | apply pw_below_drewN | apply below_drew1) | exact HB.out)⟩

end Go.Proofs.Ytlgdjacgdflfaaa.XTokenOf
