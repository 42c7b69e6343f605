-- Written by this session's own program wip/xprint.py: a changed copy of the kit's print.
import Derived.Test.YtlgdjacgdflfaaaXTokenSymbolsx0
import Derived.Test.YtlgdjacgdflfaaaXTokenSymbolsx1
import Derived.Test.YtlgdjacgdflfaaaXTokenSymbolsx2
namespace Go.Proofs.Ytlgdjacgdflfaaa.XTokenSymbols
open Go.RowKit Go.Proofs.YtlgdjacgdflfaaaW.PrintWords Go.Proofs.YtlgdjacgdflfaaaW.PrintLast Go.Proofs.YtlgdjacgdflfaaaW.PrintMore
attribute [local go_sem] max2_int min2_int max_two min_two max_three min_three max_four min_four   -- for this text's walks alone
set_option linter.unusedVariables false
set_option linter.unusedSimpArgs false

/-! ### montageref07_lengths: function 43 -/
mutual
def montageref07_lengths.l0 : Nat → List (S96) → Int → Int → Option ((List (S96)))
  | 0, _, _, _ => none
  | k + 1, x1, x2, x3 => if x3 ≤ 284 then (if x3 ≥ 265 then (montageref07_lengths.j1 k x1 x2 x3 (wrap64 (Int.tdiv (wrap64 (x3 - 261)) 4))) else (montageref07_lengths.j1 k x1 x2 x3 0)) else (if x1.length < 5864062014805 then (some (x1 ++ [(⟨285, 258, 0⟩ : S96)])) else (none))
def montageref07_lengths.j1 : Nat → List (S96) → Int → Int → Int → Option ((List (S96)))
  | 0, _, _, _, _ => none
  | k + 1, x1, x2, x3, x4 => if x1.length < 5864062014805 then (montageref07_lengths.l1 k (x1 ++ [(⟨x3, x2, x4⟩ : S96)]) x2 x3 x4 0) else (none)
def montageref07_lengths.l1 : Nat → List (S96) → Int → Int → Int → Int → Option ((List (S96)))
  | 0, _, _, _, _, _ => none
  | k + 1, x1, x2, x3, x4, x5 => (montageref07_power.f k x4).bind fun t145 => (if x5 < t145 then (montageref07_lengths.l1 k x1 (wrap64 (x2 + 1)) x3 x4 (wrap64 (x5 + 1))) else (montageref07_lengths.l0 k x1 x2 (wrap64 (x3 + 1))))
end
def montageref07_lengths.f (k : Nat)  : Option ((List (S96))) := montageref07_lengths.l0 k ([] : List (S96)) 3 257
theorem montageref07_lengths.mono_l : ∀ k, (∀ y0 y1 y2, LeO (montageref07_lengths.l0 k y0 y1 y2) (montageref07_lengths.l0 (k + 1) y0 y1 y2)) ∧ (∀ y0 y1 y2 y3, LeO (montageref07_lengths.j1 k y0 y1 y2 y3) (montageref07_lengths.j1 (k + 1) y0 y1 y2 y3)) ∧ (∀ y0 y1 y2 y3 y4, LeO (montageref07_lengths.l1 k y0 y1 y2 y3 y4) (montageref07_lengths.l1 (k + 1) y0 y1 y2 y3 y4))
  | 0 => ⟨fun _ _ _ r h => by simp [montageref07_lengths.l0] at h, fun _ _ _ _ r h => by simp [montageref07_lengths.j1] at h, fun _ _ _ _ _ r h => by simp [montageref07_lengths.l1] at h⟩
  | k + 1 => by
    obtain ⟨ih0, ih1, ih2⟩ := montageref07_lengths.mono_l k
    refine ⟨?_, ?_, ?_⟩
    · intro y0 y1 y2
      unfold montageref07_lengths.l0
      repeat' first
      | (with_reducible exact ih0 _ _ _)
      | (with_reducible exact ih1 _ _ _ _)
      | (with_reducible exact ih2 _ _ _ _ _)
      | (with_reducible exact montageref07_power.mono _ _)
      | (with_reducible exact LeO.refl _)
      | (with_reducible exact LeO.none _)
      | (with_reducible refine LeO.ite ?_ ?_)
      | (with_reducible refine LeO.bind ?_ (fun _ => ?_))
      | exact ih0 _ _ _
      | exact ih1 _ _ _ _
      | exact ih2 _ _ _ _ _
      | exact montageref07_power.mono _ _
      | exact LeO.none _
      | refine LeO.ite ?_ ?_
      | refine LeO.bind ?_ (fun _ => ?_)
    · intro y0 y1 y2 y3
      unfold montageref07_lengths.j1
      repeat' first
      | (with_reducible exact ih0 _ _ _)
      | (with_reducible exact ih1 _ _ _ _)
      | (with_reducible exact ih2 _ _ _ _ _)
      | (with_reducible exact montageref07_power.mono _ _)
      | (with_reducible exact LeO.refl _)
      | (with_reducible exact LeO.none _)
      | (with_reducible refine LeO.ite ?_ ?_)
      | (with_reducible refine LeO.bind ?_ (fun _ => ?_))
      | exact ih0 _ _ _
      | exact ih1 _ _ _ _
      | exact ih2 _ _ _ _ _
      | exact montageref07_power.mono _ _
      | exact LeO.none _
      | refine LeO.ite ?_ ?_
      | refine LeO.bind ?_ (fun _ => ?_)
    · intro y0 y1 y2 y3 y4
      unfold montageref07_lengths.l1
      repeat' first
      | (with_reducible exact ih0 _ _ _)
      | (with_reducible exact ih1 _ _ _ _)
      | (with_reducible exact ih2 _ _ _ _ _)
      | (with_reducible exact montageref07_power.mono _ _)
      | (with_reducible exact LeO.refl _)
      | (with_reducible exact LeO.none _)
      | (with_reducible refine LeO.ite ?_ ?_)
      | (with_reducible refine LeO.bind ?_ (fun _ => ?_))
      | exact ih0 _ _ _
      | exact ih1 _ _ _ _
      | exact ih2 _ _ _ _ _
      | exact montageref07_power.mono _ _
      | exact LeO.none _
      | refine LeO.ite ?_ ?_
      | refine LeO.bind ?_ (fun _ => ?_)
theorem montageref07_lengths.mono : ∀ k, LeO (montageref07_lengths.f k ) (montageref07_lengths.f (k + 1) ) := by
  intro  k
  obtain ⟨ih0, ih1, ih2⟩ := montageref07_lengths.mono_l k
  unfold montageref07_lengths.f
  repeat' first
      | (with_reducible exact ih0 _ _ _)
      | (with_reducible exact ih1 _ _ _ _)
      | (with_reducible exact ih2 _ _ _ _ _)
      | (with_reducible exact montageref07_power.mono _ _)
      | (with_reducible exact LeO.refl _)
      | (with_reducible exact LeO.none _)
      | (with_reducible refine LeO.ite ?_ ?_)
      | (with_reducible refine LeO.bind ?_ (fun _ => ?_))
      | exact ih0 _ _ _
      | exact ih1 _ _ _ _
      | exact ih2 _ _ _ _ _
      | exact montageref07_power.mono _ _
      | exact LeO.none _
      | refine LeO.ite ?_ ?_
      | refine LeO.bind ?_ (fun _ => ?_)
set_option maxHeartbeats 8000000 in
set_option maxRecDepth 100000 in
theorem montageref07_lengths.calls (k : Nat)  (r : List (S96)) (w : World) (h : montageref07_lengths.f k  = some r) :
    Calls Try.prog 43 #[] w fun e w' => ∃ v0_ : Value, e = .returned (v0_) ∧ Kd.R k96 96 w' w.heap.size (fun _ => True) v0_ r ∧ Below w.heap.size w w' := by
  have hu96 := Try.underlying96
  have HB := Aside0.mk (Below.refl w.heap.size w)
  have H : (montageref07_lengths.l0 k ([] : List (S96)) 3 257) = some r := h
  clear h
  have H' := Aside0.mk H
  clear H
  go_enter Try.func43, Try.ntmps43
  go_wp2
  go_loopg [1, 2, 3] k (fun kq v1 v2 v3 w' => ∃ (x1_1 : List (S96)) (x2_1 : Int) (x3_1 : Int), v2 = .int .i64 x2_1 ∧ v3 = .int .i64 x3_1 ∧ Aside0 (montageref07_lengths.l0 kq x1_1 x2_1 x3_1 = some r) ∧ Aside0 (kq ≤ k) ∧ Aside0 (Kd.R k96 96 w' w.heap.size (fun _ => True) v1 x1_1) ∧ Aside0 (Below w.heap.size w w'))
  case atStart => exact ⟨(([] : List (S96))), (3), (257), (by first | rfl | (simp; done) | (simp [*]; done)), (by first | rfl | (simp; done) | (simp [*]; done)), H', ⟨Nat.le_refl _⟩, ⟨by first | exact Kd.R_nil _ _ _ _ _ | exact Kd.N_nil _ _ _ _ _ | exact Kd.V_nil _ _ _ _ _ | exact Kd.Q_nil _ _ _ _ _ | exact Kd.S_nil _ _ _ _ _⟩, ⟨by repeat (first | (with_reducible first | exact HB.out | apply below_alloc | apply pw_below_drewN | apply below_drew1) | exact HB.out)⟩⟩
  case round =>
    clear H'
    obtain ⟨x1_1, x2_1, x3_1, rfl, rfl, HA, HK1, HO_1, HB⟩ := hrel
    cases gk with
    | zero => exact absurd HA.out (by simp [montageref07_lengths.l0])
    | succ k1 =>
      have H := HA.out
      clear HA
      simp only [montageref07_lengths.l0] at H
      by_cases c1 : x3_1 ≤ 284
      · rw [if_pos c1] at H
        have c1b0 : decide (x3_1 ≤ 284) = true := decide_eq_true c1
        clear c1
        have HC2 := Aside0.mk H
        clear H
        go_upto_if 11 with (fail)
        go_cut [4] (fun v4 wc => ∃ (kq : Nat) (x4_1 : Int), v4 = .int .i64 x4_1 ∧ Aside0 (montageref07_lengths.j1 kq x1_1 x2_1 x3_1 x4_1 = some r) ∧ Aside0 (kq ≤ k1) ∧ Aside0 (Kd.R k96 96 wc w.heap.size (fun _ => True) u1 x1_1) ∧ Aside0 (Below w.heap.size w wc))
        case first =>
          have H := HC2.out
          clear HC2
          by_cases c3 : x3_1 ≥ 265
          · rw [if_pos c3] at H
            have c3b0 : decide (265 ≤ x3_1) = true := decide_eq_true c3
            clear c3
            (first | rw [c3b0] | (simp only [i64_w, i32_w]; rw [c3b0]) | skip)
            have H' := Aside0.mk H
            clear H
            go_wp2
            go_meet
            case rel => exact ⟨_, (wrap64 (Int.tdiv (wrap64 (x3_1 - 261)) 4)), (by first | rfl | (simp; done) | (simp [*]; done)), H', ⟨by have := HK1.out; first | omega | exact Nat.le_refl _⟩, ⟨by (with_reducible repeat (first | apply Kd.R_alloc | apply Kd.R_drewN | apply Kd.R_drew)); exact HO_1.out⟩, ⟨by repeat (first | (with_reducible first | exact HB.out | apply below_alloc | apply pw_below_drewN | apply below_drew1) | exact HB.out)⟩⟩
          · rw [if_neg c3] at H
            have c3b0 : decide (265 ≤ x3_1) = false := decide_eq_false c3
            clear c3
            (first | rw [c3b0] | (simp only [i64_w, i32_w]; rw [c3b0]) | skip)
            have H' := Aside0.mk H
            clear H
            go_wp2
            go_meet
            case rel => exact ⟨_, (0), (by first | rfl | (simp; done) | (simp [*]; done)), H', ⟨by have := HK1.out; first | omega | exact Nat.le_refl _⟩, ⟨by (with_reducible repeat (first | apply Kd.R_alloc | apply Kd.R_drewN | apply Kd.R_drew)); exact HO_1.out⟩, ⟨by repeat (first | (with_reducible first | exact HB.out | apply below_alloc | apply pw_below_drewN | apply below_drew1) | exact HB.out)⟩⟩
        case rest =>
          clear HC2
          try clear c1
          try clear c1b0
          try clear p2
          try clear c3
          try clear c3b0
          obtain ⟨kq, x4_1, rfl, HA, HJ1, HO_1, HB⟩ := hcut
          cases kq with
          | zero => exact absurd HA.out (by simp [montageref07_lengths.j1])
          | succ kj1 =>
            have H := HA.out
            clear HA
            simp only [montageref07_lengths.j1] at H
            by_cases c4 : x1_1.length < 5864062014805
            · rw [if_pos c4] at H
              have LMc4 := Aside0.mk c4
              clear c4
              obtain ⟨y142, hy142⟩ : ∃ y_ : List (S96), y_ = (x1_1 ++ [(⟨x3_1, x2_1, x4_1⟩ : S96)]) := ⟨_, rfl⟩
              replace H : (montageref07_lengths.l1 kj1 y142 x2_1 x3_1 x4_1 0) = some r := by first | (rw [hy142]; with_reducible exact H) | (have H2_ := (Option.bind_some _ _).symm.trans H; rw [hy142]; with_reducible exact H2_) | (have H2_ := (Option.bind_some _ _).symm.trans H; with_reducible exact H2_) | with_reducible exact H | (rw [hy142]; exact H) | exact H
              have Ny142 := Aside0.mk hy142
              clear hy142
              have H' := Aside0.mk H
              clear H
              go_wp2_with (first | ((with_reducible refine gate_builtin (b := .append) (xs := #[.tmp 15, .tmp 20]) rfl ?_); at_builtin; refine Kd.R_append k96 (w0 := w) w.heap.size rfl (.tmp 15) (.tmp 20) 64 96 (.agg #[(.int .i64 0), (.int .i64 0), (.int .i64 0)]) 24 rfl Try.underlying64 info96 rfl (by decide) (by omega) u1 x1_1 (⟨x3_1, x2_1, x4_1⟩ : S96) [.int .i64 x3_1, .int .i64 x2_1, .int .i64 x4_1] (fun _ => True) (fun _ => False) rfl rfl ?aP (fun _ hk => hk.elim) ?aF ?aO ?aB ?aS ?aL ?_; (case aP => exact k96_mkM _ _ _ (⟨x3_1, x2_1, x4_1⟩ : S96)); (case aB => exact (by repeat (first | (with_reducible first | exact HB.out | apply below_alloc | apply pw_below_drewN | apply below_drew1) | exact HB.out))); (case aF => exact (fun _ _ => trivial)); (case aO => exact (by (with_reducible repeat (first | apply Kd.R_alloc | apply Kd.R_drewN | apply Kd.R_drew)); exact HO_1.out)); (case aS => exact (below_size (by repeat (first | (with_reducible first | exact HB.out | apply below_alloc | apply pw_below_drewN | apply below_drew1) | exact HB.out)))); (case aL => have := LMc4.out; omega); intro v143 w5 ho hb hg hat; rw [← Ny142.out] at ho; have n0_ := Aside0.mk (hb); have n1_ := Aside0.mk (ho); clear HB; clear HO_1; have HB := n0_; have HO144 := n1_; clear n0_ n1_; clear ho hb hg hat))
              go_loopg [2, 5] kj1 (fun kq v2 v5 w' => ∃ (x2_3 : Int) (x5_3 : Int), v2 = .int .i64 x2_3 ∧ v5 = .int .i64 x5_3 ∧ Aside0 (montageref07_lengths.l1 kq y142 x2_3 x3_1 x4_1 x5_3 = some r) ∧ Aside0 (kq ≤ kj1) ∧ Aside0 (Kd.R k96 96 w' w.heap.size (fun _ => True) v143 y142) ∧ Aside0 (Below w.heap.size w w'))
              case atStart => exact ⟨(x2_1), (0), (by first | rfl | (simp; done) | (simp [*]; done)), (by first | rfl | (simp; done) | (simp [*]; done)), H', ⟨Nat.le_refl _⟩, ⟨by (with_reducible repeat (first | apply Kd.R_alloc | apply Kd.R_drewN | apply Kd.R_drew)); exact HO144.out⟩, ⟨by repeat (first | (with_reducible first | exact HB.out | apply below_alloc | apply pw_below_drewN | apply below_drew1) | exact HB.out)⟩⟩
              case round =>
                clear H'
                try clear c1
                try clear c1b0
                try clear p2
                try clear c3
                try clear c3b0
                try clear c4
                try clear p2
                obtain ⟨x2_3, x5_3, rfl, rfl, HA, HK3, HO_1, HB⟩ := hrel
                cases gk with
                | zero => exact absurd HA.out (by simp [montageref07_lengths.l1])
                | succ k3 =>
                  have H := HA.out
                  clear HA
                  simp only [montageref07_lengths.l1] at H
                  replace H := Option.bind_eq_some_iff.mp H
                  obtain ⟨t145, A60, H⟩ := H
                  replace H : (if x5_3 < t145 then (montageref07_lengths.l1 k3 y142 (wrap64 (x2_3 + 1)) x3_1 x4_1 (wrap64 (x5_3 + 1))) else (montageref07_lengths.l0 k3 y142 x2_3 (wrap64 (x3_1 + 1)))) = some r := H
                  have A6 := Aside0.mk A60
                  clear A60
                  by_cases c7 : x5_3 < t145
                  · rw [if_pos c7] at H
                    have c7b0 : decide (x5_3 < t145) = true := decide_eq_true c7
                    clear c7
                    have H' := Aside0.mk H
                    clear H
                    go_wp2_with (first | ((with_reducible refine gate_callee (f := 64) rfl ?_); refine goesL_ (some 24) rfl rfl Try.func64 (by kernel_rfl) rfl #[.int .i64 x4_1] rfl (by (try simp only [List.map_toArray, List.map_cons, List.map_nil]); first | done | rfl | (simp only [List.length_drop, List.length_take]; rfl)) ?_; (with_reducible refine (montageref07_power.calls k3 x4_1 t145 _ A6.out).mono ?_); rintro e w' ⟨rfl, ⟨nd, rfl⟩⟩; refine ⟨_, rfl, ?_⟩))
                    go_roundg k3
                    case measure => have := HK1.out; have := HJ1.out; have := HK3.out; omega
                    case rel => exact ⟨(wrap64 (x2_3 + 1)), (wrap64 (x5_3 + 1)), (by first | rfl | (simp; done) | (simp [*]; done)), (by first | rfl | (simp; done) | (simp [*]; done)), H', ⟨by have := HK1.out; have := HJ1.out; have := HK3.out; omega⟩, ⟨by (with_reducible repeat (first | apply Kd.R_alloc | apply Kd.R_drewN | apply Kd.R_drew)); exact HO_1.out⟩, ⟨by repeat (first | (with_reducible first | exact HB.out | apply below_alloc | apply pw_below_drewN | apply below_drew1) | exact HB.out)⟩⟩
                  · rw [if_neg c7] at H
                    have c7b0 : decide (x5_3 < t145) = false := decide_eq_false c7
                    clear c7
                    have H' := Aside0.mk H
                    clear H
                    go_wp2_with (first | ((with_reducible refine gate_callee (f := 64) rfl ?_); refine goesL_ (some 24) rfl rfl Try.func64 (by kernel_rfl) rfl #[.int .i64 x4_1] rfl (by (try simp only [List.map_toArray, List.map_cons, List.map_nil]); first | done | rfl | (simp only [List.length_drop, List.length_take]; rfl)) ?_; (with_reducible refine (montageref07_power.calls k3 x4_1 t145 _ A6.out).mono ?_); rintro e w' ⟨rfl, ⟨nd, rfl⟩⟩; refine ⟨_, rfl, ?_⟩))
                    go_roundg k3
                    case measure => have := HK1.out; have := HJ1.out; have := HK3.out; omega
                    case rel => exact ⟨(y142), (x2_3), (wrap64 (x3_1 + 1)), (by first | rfl | (simp; done) | (simp [*]; done)), (by first | rfl | (simp; done) | (simp [*]; done)), H', ⟨by have := HK1.out; have := HJ1.out; have := HK3.out; omega⟩, ⟨by (with_reducible repeat (first | apply Kd.R_alloc | apply Kd.R_drewN | apply Kd.R_drew)); exact HO_1.out⟩, ⟨by repeat (first | (with_reducible first | exact HB.out | apply below_alloc | apply pw_below_drewN | apply below_drew1) | exact HB.out)⟩⟩
            · rw [if_neg c4] at H
              exact absurd H (by simp)
      · rw [if_neg c1] at H
        have c1b0 : decide (x3_1 ≤ 284) = false := decide_eq_false c1
        clear c1
        by_cases c8 : x1_1.length < 5864062014805
        · rw [if_pos c8] at H
          have LMc8 := Aside0.mk c8
          clear c8
          obtain ⟨y139, hy139⟩ : ∃ y_ : List (S96), y_ = (x1_1 ++ [(⟨285, 258, 0⟩ : S96)]) := ⟨_, rfl⟩
          replace H : (some y139) = some r := by first | (rw [hy139]; with_reducible exact H) | (have H2_ := (Option.bind_some _ _).symm.trans H; rw [hy139]; with_reducible exact H2_) | (have H2_ := (Option.bind_some _ _).symm.trans H; with_reducible exact H2_) | with_reducible exact H | (rw [hy139]; exact H) | exact H
          have Ny139 := Aside0.mk hy139
          clear hy139
          obtain rfl := Option.some.inj H
          go_wp2_with (first | ((with_reducible refine gate_builtin (b := .append) (xs := #[.tmp 30, .tmp 32]) rfl ?_); at_builtin; refine Kd.R_append k96 (w0 := w) w.heap.size rfl (.tmp 30) (.tmp 32) 64 96 (.agg #[(.int .i64 0), (.int .i64 0), (.int .i64 0)]) 24 rfl Try.underlying64 info96 rfl (by decide) (by omega) u1 x1_1 (⟨285, 258, 0⟩ : S96) [.int .i64 285, .int .i64 258, .int .i64 0] (fun _ => True) (fun _ => False) rfl rfl ?aP (fun _ hk => hk.elim) ?aF ?aO ?aB ?aS ?aL ?_; (case aP => exact k96_mkM _ _ _ (⟨285, 258, 0⟩ : S96)); (case aB => exact (by repeat (first | (with_reducible first | exact HB.out | apply below_alloc | apply pw_below_drewN | apply below_drew1) | exact HB.out))); (case aF => exact (fun _ _ => trivial)); (case aO => exact (by (with_reducible repeat (first | apply Kd.R_alloc | apply Kd.R_drewN | apply Kd.R_drew)); exact HO_1.out)); (case aS => exact (below_size (by repeat (first | (with_reducible first | exact HB.out | apply below_alloc | apply pw_below_drewN | apply below_drew1) | exact HB.out)))); (case aL => have := LMc8.out; omega); intro v140 w9 ho hb hg hat; rw [← Ny139.out] at ho; have n0_ := Aside0.mk (hb); have n1_ := Aside0.mk (ho); clear HB; clear HO_1; have HB := n0_; have HO141 := n1_; clear n0_ n1_; clear ho hb hg hat))
          go_ret
          exact ⟨_, by first | rfl | (simp [errW_none, errW_some] <;> rfl) | (simp [*, errW_none, errW_some] <;> rfl), by (with_reducible repeat (first | apply Kd.R_alloc | apply Kd.R_drewN | apply Kd.R_drew)); exact HO141.out, by repeat (first | (with_reducible first | exact HB.out | apply below_alloc | apply pw_below_drewN | apply below_drew1) | exact HB.out)⟩
        · rw [if_neg c8] at H
          exact absurd H (by simp)

/-! ### montageref07_Length: function 18 -/
def montageref07_Length.j0 : Nat → Int → Bool → Option (Int × Int × Int × Bool)
  | 0, _, _ => none
  | k + 1, x0, x14 => if x14 = true then (some (0, 0, 0, false)) else ((montageref07_lengths.f k).bind fun t146 => ((montageref07_find.f k t146 x0).bind fun bt149 => (some (bt149.1, bt149.2.1, bt149.2.2, true))))
def montageref07_Length.f (k : Nat) (a0 : Int) : Option (Int × Int × Int × Bool) := if a0 < 3 then (montageref07_Length.j0 k a0 true) else (montageref07_Length.j0 k a0 (decide (a0 > 258)))
theorem montageref07_Length.mono_l : ∀ k, (∀ y0 y1, LeO (montageref07_Length.j0 k y0 y1) (montageref07_Length.j0 (k + 1) y0 y1))
  | 0 => fun _ _ r h => by simp [montageref07_Length.j0] at h
  | k + 1 => by
    have ih0 := montageref07_Length.mono_l k
    · intro y0 y1
      unfold montageref07_Length.j0
      repeat' first
      | (with_reducible exact ih0 _ _)
      | (with_reducible exact montageref07_find.mono _ _ _)
      | (with_reducible exact montageref07_lengths.mono _)
      | (with_reducible exact LeO.refl _)
      | (with_reducible exact LeO.none _)
      | (with_reducible refine LeO.ite ?_ ?_)
      | (with_reducible refine LeO.bind ?_ (fun _ => ?_))
      | exact ih0 _ _
      | exact montageref07_find.mono _ _ _
      | exact montageref07_lengths.mono _
      | exact LeO.none _
      | refine LeO.ite ?_ ?_
      | refine LeO.bind ?_ (fun _ => ?_)
theorem montageref07_Length.mono : ∀ a0 k, LeO (montageref07_Length.f k a0) (montageref07_Length.f (k + 1) a0) := by
  intro a0 k
  have ih0 := montageref07_Length.mono_l k
  unfold montageref07_Length.f
  repeat' first
      | (with_reducible exact ih0 _ _)
      | (with_reducible exact montageref07_find.mono _ _ _)
      | (with_reducible exact montageref07_lengths.mono _)
      | (with_reducible exact LeO.refl _)
      | (with_reducible exact LeO.none _)
      | (with_reducible refine LeO.ite ?_ ?_)
      | (with_reducible refine LeO.bind ?_ (fun _ => ?_))
      | exact ih0 _ _
      | exact montageref07_find.mono _ _ _
      | exact montageref07_lengths.mono _
      | exact LeO.none _
      | refine LeO.ite ?_ ?_
      | refine LeO.bind ?_ (fun _ => ?_)
set_option maxHeartbeats 8000000 in
set_option maxRecDepth 100000 in
theorem montageref07_Length.calls (k : Nat) (a0 : Int) (r1 : Int) (r2 : Int) (r3 : Int) (r4 : Bool) (w : World) (h : montageref07_Length.f k a0 = some (r1, r2, r3, r4)) :
    Calls Try.prog 18 #[.int .i64 a0] w fun e w' => e = .returned (.tuple #[.int .i64 r1, .int .i64 r2, .int .i64 r3, .bool r4]) ∧ Below w.heap.size w w' := by
  have HB := Aside0.mk (Below.refl w.heap.size w)
  have H : (if a0 < 3 then (montageref07_Length.j0 k a0 true) else (montageref07_Length.j0 k a0 (decide (a0 > 258)))) = some (r1, r2, r3, r4) := h
  clear h
  have HC2 := Aside0.mk H
  clear H
  go_enter Try.func18, Try.ntmps18
  go_upto_region 1 with (fail)
  go_cut [14] (fun v14 wc => ∃ (kq : Nat) (x14_1 : Bool), v14 = .bool x14_1 ∧ Aside0 (montageref07_Length.j0 kq a0 x14_1 = some (r1, r2, r3, r4)) ∧ Aside0 (kq ≤ k) ∧ Aside0 (Below w.heap.size w wc))
  case first =>
    have H := HC2.out
    clear HC2
    by_cases c3 : a0 < 3
    · rw [if_pos c3] at H
      have c3b0 : decide (a0 < 3) = true := decide_eq_true c3
      clear c3
      (first | rw [c3b0] | (simp only [i64_w, i32_w]; rw [c3b0]) | skip)
      have H' := Aside0.mk H
      clear H
      go_wp2
      go_meet
      case rel => exact ⟨_, (true), (by first | rfl | (simp; done) | (simp [*]; done)), H', ⟨by first | omega | exact Nat.le_refl _⟩, ⟨by repeat (first | (with_reducible first | exact HB.out | apply below_alloc | apply pw_below_drewN | apply below_drew1) | exact HB.out)⟩⟩
    · rw [if_neg c3] at H
      have c3b0 : decide (a0 < 3) = false := decide_eq_false c3
      clear c3
      (first | rw [c3b0] | (simp only [i64_w, i32_w]; rw [c3b0]) | skip)
      have H' := Aside0.mk H
      clear H
      go_wp2
      go_meet
      case rel => exact ⟨_, (decide (a0 > 258)), (by first | rfl | (simp; done) | (simp [*]; done)), H', ⟨by first | omega | exact Nat.le_refl _⟩, ⟨by repeat (first | (with_reducible first | exact HB.out | apply below_alloc | apply pw_below_drewN | apply below_drew1) | exact HB.out)⟩⟩
  case rest =>
    clear HC2
    try clear c1
    try clear p2
    try clear c3
    try clear c3b0
    obtain ⟨kq, x14_1, rfl, HA, HJ1, HB⟩ := hcut
    cases kq with
    | zero => exact absurd HA.out (by simp [montageref07_Length.j0])
    | succ kj1 =>
      have H := HA.out
      clear HA
      simp only [montageref07_Length.j0] at H
      by_cases c4 : x14_1 = true
      · subst c4
        have H1 : (some (0, 0, 0, false)) = some (r1, r2, r3, r4) := by rw [if_pos rfl] at H; exact H
        clear H
        have H := H1
        clear H1
        simp only [Option.some.injEq, Prod.mk.injEq] at H
        obtain ⟨rfl, rfl, rfl, rfl⟩ := H
        go_wp2
        refine bodyPost_ret (results_list (rs := [.tmp 2, .tmp 3, .tmp 4, .tmp 5]) rfl (by simp) (.tmp (.tmp (.tmp (.tmp .nil))))) rfl ?_
        exact ⟨by first | rfl | (simp [errW_none, errW_some] <;> rfl) | (simp [*, errW_none, errW_some] <;> rfl), by repeat (first | (with_reducible first | exact HB.out | apply below_alloc | apply pw_below_drewN | apply below_drew1) | exact HB.out)⟩
      · replace c4 := Bool.eq_false_iff.mpr c4
        subst c4
        have H1 : ((montageref07_lengths.f kj1).bind fun t146 => ((montageref07_find.f kj1 t146 a0).bind fun bt149 => (some (bt149.1, bt149.2.1, bt149.2.2, true)))) = some (r1, r2, r3, r4) := by rw [if_neg (show ¬ (false = true) by decide)] at H; exact H
        clear H
        have H := H1
        clear H1
        replace H := Option.bind_eq_some_iff.mp H
        obtain ⟨t146, A50, H⟩ := H
        replace H : ((montageref07_find.f kj1 t146 a0).bind fun bt149 => (some (bt149.1, bt149.2.1, bt149.2.2, true))) = some (r1, r2, r3, r4) := H
        have A5 := Aside0.mk A50
        clear A50
        replace H := Option.bind_eq_some_iff.mp H
        obtain ⟨⟨t149, t150, t151⟩, A60, H⟩ := H
        replace H : (some (t149, t150, t151, true)) = some (r1, r2, r3, r4) := H
        have A6 := Aside0.mk A60
        clear A60
        simp only [Option.some.injEq, Prod.mk.injEq] at H
        obtain ⟨rfl, rfl, rfl, rfl⟩ := H
        go_wp2_with (first | ((with_reducible refine gate_callee (f := 43) rfl ?_); refine goesL_ (some 16) rfl rfl Try.func43 (by kernel_rfl) rfl #[] rfl (by (try simp only [List.map_toArray, List.map_cons, List.map_nil]); first | done | rfl | (simp only [List.length_drop, List.length_take]; rfl)) ?_; (with_reducible refine (montageref07_lengths.calls kj1  t146 _ A5.out).mono ?_); rintro e w7 ⟨v147, rfl, ho0, hb⟩; refine ⟨_, rfl, ?_⟩; have n0_ := Aside0.mk (Kd.R_lower ho0 (below_size (by repeat (first | (with_reducible first | exact HB.out | apply below_alloc | apply pw_below_drewN | apply below_drew1) | exact HB.out)))); have n1_ := Aside0.mk (below_step (by repeat (first | (with_reducible first | exact HB.out | apply below_alloc | apply pw_below_drewN | apply below_drew1) | exact HB.out)) hb); clear HB; have HO148 := n0_; have HB := n1_; clear n0_ n1_; (try clear hb); (try clear hb2); (try clear hk); (try clear hi); (try clear ho0); obtain ⟨Ao8, co8, eo8⟩ := Kd.R_slice HO148.out; subst eo8) | ((with_reducible refine gate_callee (f := 42) rfl ?_); refine goesL_ (some 18) rfl rfl Try.func42 (by kernel_rfl) rfl #[.slice Ao8 t146.length co8, .int .i64 a0] rfl (by (try simp only [List.map_toArray, List.map_cons, List.map_nil]); first | done | rfl | (simp only [List.length_drop, List.length_take]; rfl)) ?_; (with_reducible refine (montageref07_find.calls kj1 _ _ t146 a0 t149 t150 t151 _ ?side1 ?side2 A6.out).mono ?_); (case side1 => repeat (first | exact (Kd.R_reads' HO148.out).2.2 | (with_reducible refine Kd.C_alloc ?_ _) | (with_reducible refine Kd.C_drewN ?_ _) | (with_reducible refine Kd.C_drew ?_))); (case side2 => exact (Kd.R_reads' HO148.out).2.1); rintro e w' ⟨rfl, ⟨nd, rfl⟩⟩; refine ⟨_, rfl, ?_⟩))
        refine bodyPost_ret (results_list (rs := [.tmp 2, .tmp 3, .tmp 4, .tmp 5]) rfl (by simp) (.tmp (.tmp (.tmp (.tmp .nil))))) rfl ?_
        exact ⟨by first | rfl | (simp [errW_none, errW_some] <;> rfl) | (simp [*, errW_none, errW_some] <;> rfl), by repeat (first | (with_reducible first | exact HB.out | apply below_alloc | apply pw_below_drewN | apply below_drew1) | exact HB.out)⟩

/-! ### token_Distance: function 19 -/
def token_Distance.f (k : Nat) (a0 : Int) : Option (Int × Int × Int × Bool) := (token_within.f a0 1 32768).bind fun t152 => (if t152 = true then ((token_parted.f k (wrap64 (a0 - 1)) 1).bind fun bt153 => (some (bt153.1, bt153.2.1, bt153.2.2, true))) else (some (0, 0, 0, false)))
theorem token_Distance.mono : ∀ a0 k, LeO (token_Distance.f k a0) (token_Distance.f (k + 1) a0) := by
  intro a0 k
  unfold token_Distance.f
  repeat' first
      | (with_reducible exact token_parted.mono _ _ _)
      | (with_reducible exact LeO.refl _)
      | (with_reducible exact LeO.none _)
      | (with_reducible refine LeO.ite ?_ ?_)
      | (with_reducible refine LeO.bind ?_ (fun _ => ?_))
      | exact token_parted.mono _ _ _
      | exact LeO.none _
      | refine LeO.ite ?_ ?_
      | refine LeO.bind ?_ (fun _ => ?_)
set_option maxHeartbeats 8000000 in
set_option maxRecDepth 100000 in
theorem token_Distance.calls (k : Nat) (a0 : Int) (r1 : Int) (r2 : Int) (r3 : Int) (r4 : Bool) (w : World) (h : token_Distance.f k a0 = some (r1, r2, r3, r4)) :
    Calls Try.prog 19 #[.int .i64 a0] w fun e w' => e = .returned (.tuple #[.int .i64 r1, .int .i64 r2, .int .i64 r3, .bool r4]) ∧ Drawn0 w w' := by
  have H : ((token_within.f a0 1 32768).bind fun t152 => (if t152 = true then ((token_parted.f k (wrap64 (a0 - 1)) 1).bind fun bt153 => (some (bt153.1, bt153.2.1, bt153.2.2, true))) else (some (0, 0, 0, false)))) = some (r1, r2, r3, r4) := h
  clear h
  replace H := Option.bind_eq_some_iff.mp H
  obtain ⟨t152, A20, H⟩ := H
  replace H : (if t152 = true then ((token_parted.f k (wrap64 (a0 - 1)) 1).bind fun bt153 => (some (bt153.1, bt153.2.1, bt153.2.2, true))) else (some (0, 0, 0, false))) = some (r1, r2, r3, r4) := H
  have A2 := Aside0.mk A20
  clear A20
  by_cases c3 : t152 = true
  · subst c3
    have H1 : ((token_parted.f k (wrap64 (a0 - 1)) 1).bind fun bt153 => (some (bt153.1, bt153.2.1, bt153.2.2, true))) = some (r1, r2, r3, r4) := by rw [if_pos rfl] at H; exact H
    clear H
    have H := H1
    clear H1
    replace H := Option.bind_eq_some_iff.mp H
    obtain ⟨⟨t153, t154, t155⟩, A40, H⟩ := H
    replace H : (some (t153, t154, t155, true)) = some (r1, r2, r3, r4) := H
    have A4 := Aside0.mk A40
    clear A40
    simp only [Option.some.injEq, Prod.mk.injEq] at H
    obtain ⟨rfl, rfl, rfl, rfl⟩ := H
    go_enter Try.func19, Try.ntmps19
    go_wp2_with (first | ((with_reducible refine gate_callee (f := 40) rfl ?_); refine goesL_ (some 10) rfl rfl Try.func40 (by kernel_rfl) rfl #[.int .i64 a0, .int .i64 1, .int .i64 32768] rfl (by (try simp only [List.map_toArray, List.map_cons, List.map_nil]); first | done | rfl | (simp only [List.length_drop, List.length_take]; rfl)) ?_; (with_reducible refine (token_within.calls a0 1 32768 true _ A2.out).mono ?_); rintro e w' ⟨rfl, ⟨nd, rfl⟩⟩; refine ⟨_, rfl, ?_⟩) | ((with_reducible refine gate_callee (f := 41) rfl ?_); refine goesL_ (some 15) rfl rfl Try.func41 (by kernel_rfl) rfl #[.int .i64 (wrap64 (a0 - 1)), .int .i64 1] rfl (by (try simp only [List.map_toArray, List.map_cons, List.map_nil]); first | done | rfl | (simp only [List.length_drop, List.length_take]; rfl)) ?_; (with_reducible refine (token_parted.calls k (wrap64 (a0 - 1)) 1 t153 t154 t155 _ A4.out).mono ?_); rintro e w' ⟨rfl, ⟨nd, rfl⟩⟩; refine ⟨_, rfl, ?_⟩))
    refine bodyPost_ret (results_list (rs := [.tmp 2, .tmp 3, .tmp 4, .tmp 5]) rfl (by simp) (.tmp (.tmp (.tmp (.tmp .nil))))) rfl ?_
    exact ⟨by first | rfl | (simp; done) | (simp [*]; done), by repeat (first | exact Drawn0.refl _ | apply Drawn0.step)⟩
  · replace c3 := Bool.eq_false_iff.mpr c3
    subst c3
    have H1 : (some (0, 0, 0, false)) = some (r1, r2, r3, r4) := by rw [if_neg (show ¬ (false = true) by decide)] at H; exact H
    clear H
    have H := H1
    clear H1
    simp only [Option.some.injEq, Prod.mk.injEq] at H
    obtain ⟨rfl, rfl, rfl, rfl⟩ := H
    go_enter Try.func19, Try.ntmps19
    go_wp2_with (first | ((with_reducible refine gate_callee (f := 40) rfl ?_); refine goesL_ (some 10) rfl rfl Try.func40 (by kernel_rfl) rfl #[.int .i64 a0, .int .i64 1, .int .i64 32768] rfl (by (try simp only [List.map_toArray, List.map_cons, List.map_nil]); first | done | rfl | (simp only [List.length_drop, List.length_take]; rfl)) ?_; (with_reducible refine (token_within.calls a0 1 32768 false _ A2.out).mono ?_); rintro e w' ⟨rfl, ⟨nd, rfl⟩⟩; refine ⟨_, rfl, ?_⟩))
    refine bodyPost_ret (results_list (rs := [.tmp 2, .tmp 3, .tmp 4, .tmp 5]) rfl (by simp) (.tmp (.tmp (.tmp (.tmp .nil))))) rfl ?_
    exact ⟨by first | rfl | (simp; done) | (simp [*]; done), by repeat (first | exact Drawn0.refl _ | apply Drawn0.step)⟩

/-! ### montageref07_distances: function 44 -/
def montageref07_distances.l0 : Nat → List (S96) → Int → Int → Option ((List (S96)))
  | 0, _, _, _ => none
  | k + 1, x1, x2, x3 => if x3 ≤ 29 then (if x3 ≥ 4 then (if x1.length < 5864062014805 then ((montageref07_power.f k (wrap64 (Int.tdiv (wrap64 (x3 - 2)) 2))).bind fun t159 => (montageref07_distances.l0 k (x1 ++ [(⟨x3, x2, wrap64 (Int.tdiv (wrap64 (x3 - 2)) 2)⟩ : S96)]) (wrap64 (x2 + t159)) (wrap64 (x3 + 1)))) else (none)) else (if x1.length < 5864062014805 then ((montageref07_power.f k 0).bind fun t163 => (montageref07_distances.l0 k (x1 ++ [(⟨x3, x2, 0⟩ : S96)]) (wrap64 (x2 + t163)) (wrap64 (x3 + 1)))) else (none))) else (some x1)
def montageref07_distances.f (k : Nat)  : Option ((List (S96))) := montageref07_distances.l0 k ([] : List (S96)) 1 0
theorem montageref07_distances.mono_l : ∀ k, (∀ y0 y1 y2, LeO (montageref07_distances.l0 k y0 y1 y2) (montageref07_distances.l0 (k + 1) y0 y1 y2))
  | 0 => fun _ _ _ r h => by simp [montageref07_distances.l0] at h
  | k + 1 => by
    have ih0 := montageref07_distances.mono_l k
    · intro y0 y1 y2
      unfold montageref07_distances.l0
      repeat' first
      | (with_reducible exact ih0 _ _ _)
      | (with_reducible exact montageref07_power.mono _ _)
      | (with_reducible exact LeO.refl _)
      | (with_reducible exact LeO.none _)
      | (with_reducible refine LeO.ite ?_ ?_)
      | (with_reducible refine LeO.bind ?_ (fun _ => ?_))
      | exact ih0 _ _ _
      | exact montageref07_power.mono _ _
      | exact LeO.none _
      | refine LeO.ite ?_ ?_
      | refine LeO.bind ?_ (fun _ => ?_)
theorem montageref07_distances.mono : ∀ k, LeO (montageref07_distances.f k ) (montageref07_distances.f (k + 1) ) := by
  intro  k
  have ih0 := montageref07_distances.mono_l k
  unfold montageref07_distances.f
  repeat' first
      | (with_reducible exact ih0 _ _ _)
      | (with_reducible exact montageref07_power.mono _ _)
      | (with_reducible exact LeO.refl _)
      | (with_reducible exact LeO.none _)
      | (with_reducible refine LeO.ite ?_ ?_)
      | (with_reducible refine LeO.bind ?_ (fun _ => ?_))
      | exact ih0 _ _ _
      | exact montageref07_power.mono _ _
      | exact LeO.none _
      | refine LeO.ite ?_ ?_
      | refine LeO.bind ?_ (fun _ => ?_)
set_option maxHeartbeats 8000000 in
set_option maxRecDepth 100000 in
theorem montageref07_distances.calls (k : Nat)  (r : List (S96)) (w : World) (h : montageref07_distances.f k  = some r) :
    Calls Try.prog 44 #[] w fun e w' => ∃ v0_ : Value, e = .returned (v0_) ∧ Kd.R k96 96 w' w.heap.size (fun _ => True) v0_ r ∧ Below w.heap.size w w' := by
  have hu96 := Try.underlying96
  have HB := Aside0.mk (Below.refl w.heap.size w)
  have H : (montageref07_distances.l0 k ([] : List (S96)) 1 0) = some r := h
  clear h
  have H' := Aside0.mk H
  clear H
  go_enter Try.func44, Try.ntmps44
  go_wp2
  go_loopg [1, 2, 3] k (fun kq v1 v2 v3 w' => ∃ (x1_1 : List (S96)) (x2_1 : Int) (x3_1 : Int), v2 = .int .i64 x2_1 ∧ v3 = .int .i64 x3_1 ∧ Aside0 (montageref07_distances.l0 kq x1_1 x2_1 x3_1 = some r) ∧ Aside0 (kq ≤ k) ∧ Aside0 (Kd.R k96 96 w' w.heap.size (fun _ => True) v1 x1_1) ∧ Aside0 (Below w.heap.size w w'))
  case atStart => exact ⟨(([] : List (S96))), (1), (0), (by first | rfl | (simp; done) | (simp [*]; done)), (by first | rfl | (simp; done) | (simp [*]; done)), H', ⟨Nat.le_refl _⟩, ⟨by first | exact Kd.R_nil _ _ _ _ _ | exact Kd.N_nil _ _ _ _ _ | exact Kd.V_nil _ _ _ _ _ | exact Kd.Q_nil _ _ _ _ _ | exact Kd.S_nil _ _ _ _ _⟩, ⟨by repeat (first | (with_reducible first | exact HB.out | apply below_alloc | apply pw_below_drewN | apply below_drew1) | exact HB.out)⟩⟩
  case round =>
    clear H'
    obtain ⟨x1_1, x2_1, x3_1, rfl, rfl, HA, HK1, HO_1, HB⟩ := hrel
    cases gk with
    | zero => exact absurd HA.out (by simp [montageref07_distances.l0])
    | succ k1 =>
      have H := HA.out
      clear HA
      simp only [montageref07_distances.l0] at H
      by_cases c1 : x3_1 ≤ 29
      · rw [if_pos c1] at H
        have c1b0 : decide (x3_1 ≤ 29) = true := decide_eq_true c1
        clear c1
        by_cases c2 : x3_1 ≥ 4
        · rw [if_pos c2] at H
          have c2b0 : decide (4 ≤ x3_1) = true := decide_eq_true c2
          clear c2
          by_cases c3 : x1_1.length < 5864062014805
          · rw [if_pos c3] at H
            have LMc3 := Aside0.mk c3
            clear c3
            obtain ⟨y156, hy156⟩ : ∃ y_ : List (S96), y_ = (x1_1 ++ [(⟨x3_1, x2_1, wrap64 (Int.tdiv (wrap64 (x3_1 - 2)) 2)⟩ : S96)]) := ⟨_, rfl⟩
            replace H : ((montageref07_power.f k1 (wrap64 (Int.tdiv (wrap64 (x3_1 - 2)) 2))).bind fun t159 => (montageref07_distances.l0 k1 y156 (wrap64 (x2_1 + t159)) (wrap64 (x3_1 + 1)))) = some r := by first | (rw [hy156]; with_reducible exact H) | (have H2_ := (Option.bind_some _ _).symm.trans H; rw [hy156]; with_reducible exact H2_) | (have H2_ := (Option.bind_some _ _).symm.trans H; with_reducible exact H2_) | with_reducible exact H | (rw [hy156]; exact H) | exact H
            have Ny156 := Aside0.mk hy156
            clear hy156
            replace H := Option.bind_eq_some_iff.mp H
            obtain ⟨t159, A40, H⟩ := H
            replace H : (montageref07_distances.l0 k1 y156 (wrap64 (x2_1 + t159)) (wrap64 (x3_1 + 1))) = some r := H
            have A4 := Aside0.mk A40
            clear A40
            have H' := Aside0.mk H
            clear H
            go_wp2_with (first | ((with_reducible refine gate_builtin (b := .append) (xs := #[.tmp 14, .tmp 19]) rfl ?_); at_builtin; refine Kd.R_append k96 (w0 := w) w.heap.size rfl (.tmp 14) (.tmp 19) 64 96 (.agg #[(.int .i64 0), (.int .i64 0), (.int .i64 0)]) 24 rfl Try.underlying64 info96 rfl (by decide) (by omega) u1 x1_1 (⟨x3_1, x2_1, wrap64 (Int.tdiv (wrap64 (x3_1 - 2)) 2)⟩ : S96) [.int .i64 x3_1, .int .i64 x2_1, .int .i64 (wrap64 (Int.tdiv (wrap64 (x3_1 - 2)) 2))] (fun _ => True) (fun _ => False) rfl rfl ?aP (fun _ hk => hk.elim) ?aF ?aO ?aB ?aS ?aL ?_; (case aP => exact k96_mkM _ _ _ (⟨x3_1, x2_1, wrap64 (Int.tdiv (wrap64 (x3_1 - 2)) 2)⟩ : S96)); (case aB => exact (by repeat (first | (with_reducible first | exact HB.out | apply below_alloc | apply pw_below_drewN | apply below_drew1) | exact HB.out))); (case aF => exact (fun _ _ => trivial)); (case aO => exact (by (with_reducible repeat (first | apply Kd.R_alloc | apply Kd.R_drewN | apply Kd.R_drew)); exact HO_1.out)); (case aS => exact (below_size (by repeat (first | (with_reducible first | exact HB.out | apply below_alloc | apply pw_below_drewN | apply below_drew1) | exact HB.out)))); (case aL => have := LMc3.out; omega); intro v157 w5 ho hb hg hat; rw [← Ny156.out] at ho; have n0_ := Aside0.mk (hb); have n1_ := Aside0.mk (ho); clear HB; clear HO_1; have HB := n0_; have HO158 := n1_; clear n0_ n1_; clear ho hb hg hat) | ((with_reducible refine gate_callee (f := 64) rfl ?_); refine goesL_ (some 23) rfl rfl Try.func64 (by kernel_rfl) rfl #[.int .i64 (wrap64 (Int.tdiv (wrap64 (x3_1 - 2)) 2))] rfl (by (try simp only [List.map_toArray, List.map_cons, List.map_nil]); first | done | rfl | (simp only [List.length_drop, List.length_take]; rfl)) ?_; (with_reducible refine (montageref07_power.calls k1 (wrap64 (Int.tdiv (wrap64 (x3_1 - 2)) 2)) t159 _ A4.out).mono ?_); rintro e w' ⟨rfl, ⟨nd, rfl⟩⟩; refine ⟨_, rfl, ?_⟩))
            go_roundg k1
            case measure => have := HK1.out; omega
            case rel => exact ⟨(y156), (wrap64 (x2_1 + t159)), (wrap64 (x3_1 + 1)), (by first | rfl | (simp; done) | (simp [*]; done)), (by first | rfl | (simp; done) | (simp [*]; done)), H', ⟨by have := HK1.out; omega⟩, ⟨by (with_reducible repeat (first | apply Kd.R_alloc | apply Kd.R_drewN | apply Kd.R_drew)); exact HO158.out⟩, ⟨by repeat (first | (with_reducible first | exact HB.out | apply below_alloc | apply pw_below_drewN | apply below_drew1) | exact HB.out)⟩⟩
          · rw [if_neg c3] at H
            exact absurd H (by simp)
        · rw [if_neg c2] at H
          have c2b0 : decide (4 ≤ x3_1) = false := decide_eq_false c2
          clear c2
          by_cases c6 : x1_1.length < 5864062014805
          · rw [if_pos c6] at H
            have LMc6 := Aside0.mk c6
            clear c6
            obtain ⟨y160, hy160⟩ : ∃ y_ : List (S96), y_ = (x1_1 ++ [(⟨x3_1, x2_1, 0⟩ : S96)]) := ⟨_, rfl⟩
            replace H : ((montageref07_power.f k1 0).bind fun t163 => (montageref07_distances.l0 k1 y160 (wrap64 (x2_1 + t163)) (wrap64 (x3_1 + 1)))) = some r := by first | (rw [hy160]; with_reducible exact H) | (have H2_ := (Option.bind_some _ _).symm.trans H; rw [hy160]; with_reducible exact H2_) | (have H2_ := (Option.bind_some _ _).symm.trans H; with_reducible exact H2_) | with_reducible exact H | (rw [hy160]; exact H) | exact H
            have Ny160 := Aside0.mk hy160
            clear hy160
            replace H := Option.bind_eq_some_iff.mp H
            obtain ⟨t163, A70, H⟩ := H
            replace H : (montageref07_distances.l0 k1 y160 (wrap64 (x2_1 + t163)) (wrap64 (x3_1 + 1))) = some r := H
            have A7 := Aside0.mk A70
            clear A70
            have H' := Aside0.mk H
            clear H
            go_wp2_with (first | ((with_reducible refine gate_builtin (b := .append) (xs := #[.tmp 14, .tmp 19]) rfl ?_); at_builtin; refine Kd.R_append k96 (w0 := w) w.heap.size rfl (.tmp 14) (.tmp 19) 64 96 (.agg #[(.int .i64 0), (.int .i64 0), (.int .i64 0)]) 24 rfl Try.underlying64 info96 rfl (by decide) (by omega) u1 x1_1 (⟨x3_1, x2_1, 0⟩ : S96) [.int .i64 x3_1, .int .i64 x2_1, .int .i64 0] (fun _ => True) (fun _ => False) rfl rfl ?aP (fun _ hk => hk.elim) ?aF ?aO ?aB ?aS ?aL ?_; (case aP => exact k96_mkM _ _ _ (⟨x3_1, x2_1, 0⟩ : S96)); (case aB => exact (by repeat (first | (with_reducible first | exact HB.out | apply below_alloc | apply pw_below_drewN | apply below_drew1) | exact HB.out))); (case aF => exact (fun _ _ => trivial)); (case aO => exact (by (with_reducible repeat (first | apply Kd.R_alloc | apply Kd.R_drewN | apply Kd.R_drew)); exact HO_1.out)); (case aS => exact (below_size (by repeat (first | (with_reducible first | exact HB.out | apply below_alloc | apply pw_below_drewN | apply below_drew1) | exact HB.out)))); (case aL => have := LMc6.out; omega); intro v161 w8 ho hb hg hat; rw [← Ny160.out] at ho; have n0_ := Aside0.mk (hb); have n1_ := Aside0.mk (ho); clear HB; clear HO_1; have HB := n0_; have HO162 := n1_; clear n0_ n1_; clear ho hb hg hat) | ((with_reducible refine gate_callee (f := 64) rfl ?_); refine goesL_ (some 23) rfl rfl Try.func64 (by kernel_rfl) rfl #[.int .i64 0] rfl (by (try simp only [List.map_toArray, List.map_cons, List.map_nil]); first | done | rfl | (simp only [List.length_drop, List.length_take]; rfl)) ?_; (with_reducible refine (montageref07_power.calls k1 0 t163 _ A7.out).mono ?_); rintro e w' ⟨rfl, ⟨nd, rfl⟩⟩; refine ⟨_, rfl, ?_⟩))
            go_roundg k1
            case measure => have := HK1.out; omega
            case rel => exact ⟨(y160), (wrap64 (x2_1 + t163)), (wrap64 (x3_1 + 1)), (by first | rfl | (simp; done) | (simp [*]; done)), (by first | rfl | (simp; done) | (simp [*]; done)), H', ⟨by have := HK1.out; omega⟩, ⟨by (with_reducible repeat (first | apply Kd.R_alloc | apply Kd.R_drewN | apply Kd.R_drew)); exact HO162.out⟩, ⟨by repeat (first | (with_reducible first | exact HB.out | apply below_alloc | apply pw_below_drewN | apply below_drew1) | exact HB.out)⟩⟩
          · rw [if_neg c6] at H
            exact absurd H (by simp)
      · rw [if_neg c1] at H
        have c1b0 : decide (x3_1 ≤ 29) = false := decide_eq_false c1
        clear c1
        obtain rfl := Option.some.inj H
        go_wp2
        go_ret
        exact ⟨_, by first | rfl | (simp [errW_none, errW_some] <;> rfl) | (simp [*, errW_none, errW_some] <;> rfl), by (with_reducible repeat (first | apply Kd.R_alloc | apply Kd.R_drewN | apply Kd.R_drew)); exact HO_1.out, by repeat (first | (with_reducible first | exact HB.out | apply below_alloc | apply pw_below_drewN | apply below_drew1) | exact HB.out)⟩

/-! ### montageref07_Distance: function 20 -/
def montageref07_Distance.j0 : Nat → Int → Bool → Option (Int × Int × Int × Bool)
  | 0, _, _ => none
  | k + 1, x0, x14 => if x14 = true then (some (0, 0, 0, false)) else ((montageref07_distances.f k).bind fun t164 => ((montageref07_find.f k t164 x0).bind fun bt167 => (some (bt167.1, bt167.2.1, bt167.2.2, true))))
def montageref07_Distance.f (k : Nat) (a0 : Int) : Option (Int × Int × Int × Bool) := if a0 < 1 then (montageref07_Distance.j0 k a0 true) else (montageref07_Distance.j0 k a0 (decide (a0 > 32768)))
theorem montageref07_Distance.mono_l : ∀ k, (∀ y0 y1, LeO (montageref07_Distance.j0 k y0 y1) (montageref07_Distance.j0 (k + 1) y0 y1))
  | 0 => fun _ _ r h => by simp [montageref07_Distance.j0] at h
  | k + 1 => by
    have ih0 := montageref07_Distance.mono_l k
    · intro y0 y1
      unfold montageref07_Distance.j0
      repeat' first
      | (with_reducible exact ih0 _ _)
      | (with_reducible exact montageref07_distances.mono _)
      | (with_reducible exact montageref07_find.mono _ _ _)
      | (with_reducible exact LeO.refl _)
      | (with_reducible exact LeO.none _)
      | (with_reducible refine LeO.ite ?_ ?_)
      | (with_reducible refine LeO.bind ?_ (fun _ => ?_))
      | exact ih0 _ _
      | exact montageref07_distances.mono _
      | exact montageref07_find.mono _ _ _
      | exact LeO.none _
      | refine LeO.ite ?_ ?_
      | refine LeO.bind ?_ (fun _ => ?_)
theorem montageref07_Distance.mono : ∀ a0 k, LeO (montageref07_Distance.f k a0) (montageref07_Distance.f (k + 1) a0) := by
  intro a0 k
  have ih0 := montageref07_Distance.mono_l k
  unfold montageref07_Distance.f
  repeat' first
      | (with_reducible exact ih0 _ _)
      | (with_reducible exact montageref07_distances.mono _)
      | (with_reducible exact montageref07_find.mono _ _ _)
      | (with_reducible exact LeO.refl _)
      | (with_reducible exact LeO.none _)
      | (with_reducible refine LeO.ite ?_ ?_)
      | (with_reducible refine LeO.bind ?_ (fun _ => ?_))
      | exact ih0 _ _
      | exact montageref07_distances.mono _
      | exact montageref07_find.mono _ _ _
      | exact LeO.none _
      | refine LeO.ite ?_ ?_
      | refine LeO.bind ?_ (fun _ => ?_)
set_option maxHeartbeats 8000000 in
set_option maxRecDepth 100000 in
theorem montageref07_Distance.calls (k : Nat) (a0 : Int) (r1 : Int) (r2 : Int) (r3 : Int) (r4 : Bool) (w : World) (h : montageref07_Distance.f k a0 = some (r1, r2, r3, r4)) :
    Calls Try.prog 20 #[.int .i64 a0] w fun e w' => e = .returned (.tuple #[.int .i64 r1, .int .i64 r2, .int .i64 r3, .bool r4]) ∧ Below w.heap.size w w' := by
  have HB := Aside0.mk (Below.refl w.heap.size w)
  have H : (if a0 < 1 then (montageref07_Distance.j0 k a0 true) else (montageref07_Distance.j0 k a0 (decide (a0 > 32768)))) = some (r1, r2, r3, r4) := h
  clear h
  have HC2 := Aside0.mk H
  clear H
  go_enter Try.func20, Try.ntmps20
  go_upto_region 1 with (fail)
  go_cut [14] (fun v14 wc => ∃ (kq : Nat) (x14_1 : Bool), v14 = .bool x14_1 ∧ Aside0 (montageref07_Distance.j0 kq a0 x14_1 = some (r1, r2, r3, r4)) ∧ Aside0 (kq ≤ k) ∧ Aside0 (Below w.heap.size w wc))
  case first =>
    have H := HC2.out
    clear HC2
    by_cases c3 : a0 < 1
    · rw [if_pos c3] at H
      have c3b0 : decide (a0 < 1) = true := decide_eq_true c3
      clear c3
      (first | rw [c3b0] | (simp only [i64_w, i32_w]; rw [c3b0]) | skip)
      have H' := Aside0.mk H
      clear H
      go_wp2
      go_meet
      case rel => exact ⟨_, (true), (by first | rfl | (simp; done) | (simp [*]; done)), H', ⟨by first | omega | exact Nat.le_refl _⟩, ⟨by repeat (first | (with_reducible first | exact HB.out | apply below_alloc | apply pw_below_drewN | apply below_drew1) | exact HB.out)⟩⟩
    · rw [if_neg c3] at H
      have c3b0 : decide (a0 < 1) = false := decide_eq_false c3
      clear c3
      (first | rw [c3b0] | (simp only [i64_w, i32_w]; rw [c3b0]) | skip)
      have H' := Aside0.mk H
      clear H
      go_wp2
      go_meet
      case rel => exact ⟨_, (decide (a0 > 32768)), (by first | rfl | (simp; done) | (simp [*]; done)), H', ⟨by first | omega | exact Nat.le_refl _⟩, ⟨by repeat (first | (with_reducible first | exact HB.out | apply below_alloc | apply pw_below_drewN | apply below_drew1) | exact HB.out)⟩⟩
  case rest =>
    clear HC2
    try clear c2
    try clear p2
    try clear c3
    try clear c3b0
    obtain ⟨kq, x14_1, rfl, HA, HJ1, HB⟩ := hcut
    cases kq with
    | zero => exact absurd HA.out (by simp [montageref07_Distance.j0])
    | succ kj1 =>
      have H := HA.out
      clear HA
      simp only [montageref07_Distance.j0] at H
      by_cases c4 : x14_1 = true
      · subst c4
        have H1 : (some (0, 0, 0, false)) = some (r1, r2, r3, r4) := by rw [if_pos rfl] at H; exact H
        clear H
        have H := H1
        clear H1
        simp only [Option.some.injEq, Prod.mk.injEq] at H
        obtain ⟨rfl, rfl, rfl, rfl⟩ := H
        go_wp2
        refine bodyPost_ret (results_list (rs := [.tmp 2, .tmp 3, .tmp 4, .tmp 5]) rfl (by simp) (.tmp (.tmp (.tmp (.tmp .nil))))) rfl ?_
        exact ⟨by first | rfl | (simp [errW_none, errW_some] <;> rfl) | (simp [*, errW_none, errW_some] <;> rfl), by repeat (first | (with_reducible first | exact HB.out | apply below_alloc | apply pw_below_drewN | apply below_drew1) | exact HB.out)⟩
      · replace c4 := Bool.eq_false_iff.mpr c4
        subst c4
        have H1 : ((montageref07_distances.f kj1).bind fun t164 => ((montageref07_find.f kj1 t164 a0).bind fun bt167 => (some (bt167.1, bt167.2.1, bt167.2.2, true)))) = some (r1, r2, r3, r4) := by rw [if_neg (show ¬ (false = true) by decide)] at H; exact H
        clear H
        have H := H1
        clear H1
        replace H := Option.bind_eq_some_iff.mp H
        obtain ⟨t164, A50, H⟩ := H
        replace H : ((montageref07_find.f kj1 t164 a0).bind fun bt167 => (some (bt167.1, bt167.2.1, bt167.2.2, true))) = some (r1, r2, r3, r4) := H
        have A5 := Aside0.mk A50
        clear A50
        replace H := Option.bind_eq_some_iff.mp H
        obtain ⟨⟨t167, t168, t169⟩, A60, H⟩ := H
        replace H : (some (t167, t168, t169, true)) = some (r1, r2, r3, r4) := H
        have A6 := Aside0.mk A60
        clear A60
        simp only [Option.some.injEq, Prod.mk.injEq] at H
        obtain ⟨rfl, rfl, rfl, rfl⟩ := H
        go_wp2_with (first | ((with_reducible refine gate_callee (f := 44) rfl ?_); refine goesL_ (some 16) rfl rfl Try.func44 (by kernel_rfl) rfl #[] rfl (by (try simp only [List.map_toArray, List.map_cons, List.map_nil]); first | done | rfl | (simp only [List.length_drop, List.length_take]; rfl)) ?_; (with_reducible refine (montageref07_distances.calls kj1  t164 _ A5.out).mono ?_); rintro e w7 ⟨v165, rfl, ho0, hb⟩; refine ⟨_, rfl, ?_⟩; have n0_ := Aside0.mk (Kd.R_lower ho0 (below_size (by repeat (first | (with_reducible first | exact HB.out | apply below_alloc | apply pw_below_drewN | apply below_drew1) | exact HB.out)))); have n1_ := Aside0.mk (below_step (by repeat (first | (with_reducible first | exact HB.out | apply below_alloc | apply pw_below_drewN | apply below_drew1) | exact HB.out)) hb); clear HB; have HO166 := n0_; have HB := n1_; clear n0_ n1_; (try clear hb); (try clear hb2); (try clear hk); (try clear hi); (try clear ho0); obtain ⟨Ao8, co8, eo8⟩ := Kd.R_slice HO166.out; subst eo8) | ((with_reducible refine gate_callee (f := 42) rfl ?_); refine goesL_ (some 18) rfl rfl Try.func42 (by kernel_rfl) rfl #[.slice Ao8 t164.length co8, .int .i64 a0] rfl (by (try simp only [List.map_toArray, List.map_cons, List.map_nil]); first | done | rfl | (simp only [List.length_drop, List.length_take]; rfl)) ?_; (with_reducible refine (montageref07_find.calls kj1 _ _ t164 a0 t167 t168 t169 _ ?side1 ?side2 A6.out).mono ?_); (case side1 => repeat (first | exact (Kd.R_reads' HO166.out).2.2 | (with_reducible refine Kd.C_alloc ?_ _) | (with_reducible refine Kd.C_drewN ?_ _) | (with_reducible refine Kd.C_drew ?_))); (case side2 => exact (Kd.R_reads' HO166.out).2.1); rintro e w' ⟨rfl, ⟨nd, rfl⟩⟩; refine ⟨_, rfl, ?_⟩))
        refine bodyPost_ret (results_list (rs := [.tmp 2, .tmp 3, .tmp 4, .tmp 5]) rfl (by simp) (.tmp (.tmp (.tmp (.tmp .nil))))) rfl ?_
        exact ⟨by first | rfl | (simp [errW_none, errW_some] <;> rfl) | (simp [*, errW_none, errW_some] <;> rfl), by repeat (first | (with_reducible first | exact HB.out | apply below_alloc | apply pw_below_drewN | apply below_drew1) | exact HB.out)⟩

/-! ### token_LengthOf: function 21 -/
def token_LengthOf.f (k : Nat) (a0 : Int) (a1 : Int) : Option (Int × Bool) := (token_within.f a0 257 285).bind fun t170 => (if t170 = true then (if a0 = 285 then (if a1 = 0 then (some (258, true)) else (some (0, false))) else ((token_whole.f k (wrap64 (a0 - 257)) 2 a1).bind fun bt171 => (if bt171.2 = true then (if (wrap64 (bt171.1 + 3)) ≥ 258 then (some (0, false)) else (some (wrap64 (bt171.1 + 3), true))) else (some (0, false))))) else (some (0, false)))
theorem token_LengthOf.mono : ∀ a0 a1 k, LeO (token_LengthOf.f k a0 a1) (token_LengthOf.f (k + 1) a0 a1) := by
  intro a0 a1 k
  unfold token_LengthOf.f
  repeat' first
      | (with_reducible exact token_whole.mono _ _ _ _)
      | (with_reducible exact LeO.refl _)
      | (with_reducible exact LeO.none _)
      | (with_reducible refine LeO.ite ?_ ?_)
      | (with_reducible refine LeO.bind ?_ (fun _ => ?_))
      | exact token_whole.mono _ _ _ _
      | exact LeO.none _
      | refine LeO.ite ?_ ?_
      | refine LeO.bind ?_ (fun _ => ?_)
set_option maxHeartbeats 8000000 in
set_option maxRecDepth 100000 in
theorem token_LengthOf.calls (k : Nat) (a0 : Int) (a1 : Int) (r1 : Int) (r2 : Bool) (w : World) (h : token_LengthOf.f k a0 a1 = some (r1, r2)) :
    Calls Try.prog 21 #[.int .i64 a0, .int .i64 a1] w fun e w' => e = .returned (.tuple #[.int .i64 r1, .bool r2]) ∧ Below w.heap.size w w' := by
  have HB := Aside0.mk (Below.refl w.heap.size w)
  have H : ((token_within.f a0 257 285).bind fun t170 => (if t170 = true then (if a0 = 285 then (if a1 = 0 then (some (258, true)) else (some (0, false))) else ((token_whole.f k (wrap64 (a0 - 257)) 2 a1).bind fun bt171 => (if bt171.2 = true then (if (wrap64 (bt171.1 + 3)) ≥ 258 then (some (0, false)) else (some (wrap64 (bt171.1 + 3), true))) else (some (0, false))))) else (some (0, false)))) = some (r1, r2) := h
  clear h
  replace H := Option.bind_eq_some_iff.mp H
  obtain ⟨t170, A30, H⟩ := H
  replace H : (if t170 = true then (if a0 = 285 then (if a1 = 0 then (some (258, true)) else (some (0, false))) else ((token_whole.f k (wrap64 (a0 - 257)) 2 a1).bind fun bt171 => (if bt171.2 = true then (if (wrap64 (bt171.1 + 3)) ≥ 258 then (some (0, false)) else (some (wrap64 (bt171.1 + 3), true))) else (some (0, false))))) else (some (0, false))) = some (r1, r2) := H
  have A3 := Aside0.mk A30
  clear A30
  by_cases c4 : t170 = true
  · subst c4
    have H1 : (if a0 = 285 then (if a1 = 0 then (some (258, true)) else (some (0, false))) else ((token_whole.f k (wrap64 (a0 - 257)) 2 a1).bind fun bt171 => (if bt171.2 = true then (if (wrap64 (bt171.1 + 3)) ≥ 258 then (some (0, false)) else (some (wrap64 (bt171.1 + 3), true))) else (some (0, false))))) = some (r1, r2) := by rw [if_pos rfl] at H; exact H
    clear H
    have H := H1
    clear H1
    by_cases c5 : a0 = 285
    · rw [if_pos c5] at H
      have c5b0 : (a0 == 285) = true := beq_iff_eq.mpr c5
      have c5b1 : (a0 != 285) = false := bne_eq_false_iff_eq.mpr c5
      clear c5
      by_cases c6 : a1 = 0
      · rw [if_pos c6] at H
        have c6b0 : (a1 == 0) = true := beq_iff_eq.mpr c6
        have c6b1 : (a1 != 0) = false := bne_eq_false_iff_eq.mpr c6
        clear c6
        simp only [Option.some.injEq, Prod.mk.injEq] at H
        obtain ⟨rfl, rfl⟩ := H
        go_enter Try.func21, Try.ntmps21
        go_wp2_with (first | ((with_reducible refine gate_callee (f := 40) rfl ?_); refine goesL_ (some 10) rfl rfl Try.func40 (by kernel_rfl) rfl #[.int .i64 a0, .int .i64 257, .int .i64 285] rfl (by (try simp only [List.map_toArray, List.map_cons, List.map_nil]); first | done | rfl | (simp only [List.length_drop, List.length_take]; rfl)) ?_; (with_reducible refine (token_within.calls a0 257 285 true _ A3.out).mono ?_); rintro e w' ⟨rfl, ⟨nd, rfl⟩⟩; refine ⟨_, rfl, ?_⟩))
        go_ret2
        exact ⟨by first | rfl | (simp [errW_none, errW_some] <;> rfl) | (simp [*, errW_none, errW_some] <;> rfl), by repeat (first | (with_reducible first | exact HB.out | apply below_alloc | apply pw_below_drewN | apply below_drew1) | exact HB.out)⟩
      · rw [if_neg c6] at H
        have c6b0 : (a1 == 0) = false := beq_eq_false_iff_ne.mpr c6
        have c6b1 : (a1 != 0) = true := bne_iff_ne.mpr c6
        simp only [Option.some.injEq, Prod.mk.injEq] at H
        obtain ⟨rfl, rfl⟩ := H
        go_enter Try.func21, Try.ntmps21
        go_wp2_with (first | ((with_reducible refine gate_callee (f := 40) rfl ?_); refine goesL_ (some 10) rfl rfl Try.func40 (by kernel_rfl) rfl #[.int .i64 a0, .int .i64 257, .int .i64 285] rfl (by (try simp only [List.map_toArray, List.map_cons, List.map_nil]); first | done | rfl | (simp only [List.length_drop, List.length_take]; rfl)) ?_; (with_reducible refine (token_within.calls a0 257 285 true _ A3.out).mono ?_); rintro e w' ⟨rfl, ⟨nd, rfl⟩⟩; refine ⟨_, rfl, ?_⟩))
        go_ret2
        exact ⟨by first | rfl | (simp [errW_none, errW_some] <;> rfl) | (simp [*, errW_none, errW_some] <;> rfl), by repeat (first | (with_reducible first | exact HB.out | apply below_alloc | apply pw_below_drewN | apply below_drew1) | exact HB.out)⟩
    · rw [if_neg c5] at H
      have c5b0 : (a0 == 285) = false := beq_eq_false_iff_ne.mpr c5
      have c5b1 : (a0 != 285) = true := bne_iff_ne.mpr c5
      replace H := Option.bind_eq_some_iff.mp H
      obtain ⟨⟨t171, t172⟩, A70, H⟩ := H
      replace H : (if t172 = true then (if (wrap64 (t171 + 3)) ≥ 258 then (some (0, false)) else (some (wrap64 (t171 + 3), true))) else (some (0, false))) = some (r1, r2) := H
      have A7 := Aside0.mk A70
      clear A70
      by_cases c8 : t172 = true
      · subst c8
        have H1 : (if (wrap64 (t171 + 3)) ≥ 258 then (some (0, false)) else (some (wrap64 (t171 + 3), true))) = some (r1, r2) := by rw [if_pos rfl] at H; exact H
        clear H
        have H := H1
        clear H1
        by_cases c9 : (wrap64 (t171 + 3)) ≥ 258
        · rw [if_pos c9] at H
          have c9b0 : decide (258 ≤ (wrap64 (t171 + 3))) = true := decide_eq_true c9
          clear c9
          simp only [Option.some.injEq, Prod.mk.injEq] at H
          obtain ⟨rfl, rfl⟩ := H
          go_enter Try.func21, Try.ntmps21
          go_wp2_with (first | ((with_reducible refine gate_callee (f := 40) rfl ?_); refine goesL_ (some 10) rfl rfl Try.func40 (by kernel_rfl) rfl #[.int .i64 a0, .int .i64 257, .int .i64 285] rfl (by (try simp only [List.map_toArray, List.map_cons, List.map_nil]); first | done | rfl | (simp only [List.length_drop, List.length_take]; rfl)) ?_; (with_reducible refine (token_within.calls a0 257 285 true _ A3.out).mono ?_); rintro e w' ⟨rfl, ⟨nd, rfl⟩⟩; refine ⟨_, rfl, ?_⟩) | ((with_reducible refine gate_callee (f := 45) rfl ?_); refine goesL_ (some 21) rfl rfl Try.func45 (by kernel_rfl) rfl #[.int .i64 (wrap64 (a0 - 257)), .int .i64 2, .int .i64 a1] rfl (by (try simp only [List.map_toArray, List.map_cons, List.map_nil]); first | done | rfl | (simp only [List.length_drop, List.length_take]; rfl)) ?_; (with_reducible refine (token_whole.calls k (wrap64 (a0 - 257)) 2 a1 t171 true _ A7.out).mono ?_); rintro e w10 ⟨rfl, hb⟩; refine ⟨_, rfl, ?_⟩; have n0_ := Aside0.mk (below_step (by repeat (first | (with_reducible first | exact HB.out | apply below_alloc | apply pw_below_drewN | apply below_drew1) | exact HB.out)) hb); clear HB; have HB := n0_; clear n0_; (try clear hb); (try clear hb2); (try clear hk); (try clear hi)))
          go_ret2
          exact ⟨by first | rfl | (simp [errW_none, errW_some] <;> rfl) | (simp [*, errW_none, errW_some] <;> rfl), by repeat (first | (with_reducible first | exact HB.out | apply below_alloc | apply pw_below_drewN | apply below_drew1) | exact HB.out)⟩
        · rw [if_neg c9] at H
          have c9b0 : decide (258 ≤ (wrap64 (t171 + 3))) = false := decide_eq_false c9
          clear c9
          simp only [Option.some.injEq, Prod.mk.injEq] at H
          obtain ⟨rfl, rfl⟩ := H
          go_enter Try.func21, Try.ntmps21
          go_wp2_with (first | ((with_reducible refine gate_callee (f := 40) rfl ?_); refine goesL_ (some 10) rfl rfl Try.func40 (by kernel_rfl) rfl #[.int .i64 a0, .int .i64 257, .int .i64 285] rfl (by (try simp only [List.map_toArray, List.map_cons, List.map_nil]); first | done | rfl | (simp only [List.length_drop, List.length_take]; rfl)) ?_; (with_reducible refine (token_within.calls a0 257 285 true _ A3.out).mono ?_); rintro e w' ⟨rfl, ⟨nd, rfl⟩⟩; refine ⟨_, rfl, ?_⟩) | ((with_reducible refine gate_callee (f := 45) rfl ?_); refine goesL_ (some 21) rfl rfl Try.func45 (by kernel_rfl) rfl #[.int .i64 (wrap64 (a0 - 257)), .int .i64 2, .int .i64 a1] rfl (by (try simp only [List.map_toArray, List.map_cons, List.map_nil]); first | done | rfl | (simp only [List.length_drop, List.length_take]; rfl)) ?_; (with_reducible refine (token_whole.calls k (wrap64 (a0 - 257)) 2 a1 t171 true _ A7.out).mono ?_); rintro e w11 ⟨rfl, hb⟩; refine ⟨_, rfl, ?_⟩; have n0_ := Aside0.mk (below_step (by repeat (first | (with_reducible first | exact HB.out | apply below_alloc | apply pw_below_drewN | apply below_drew1) | exact HB.out)) hb); clear HB; have HB := n0_; clear n0_; (try clear hb); (try clear hb2); (try clear hk); (try clear hi)))
          go_ret2
          exact ⟨by first | rfl | (simp [errW_none, errW_some] <;> rfl) | (simp [*, errW_none, errW_some] <;> rfl), by repeat (first | (with_reducible first | exact HB.out | apply below_alloc | apply pw_below_drewN | apply below_drew1) | exact HB.out)⟩
      · replace c8 := Bool.eq_false_iff.mpr c8
        subst c8
        have H1 : (some (0, false)) = some (r1, r2) := by rw [if_neg (show ¬ (false = true) by decide)] at H; exact H
        clear H
        have H := H1
        clear H1
        simp only [Option.some.injEq, Prod.mk.injEq] at H
        obtain ⟨rfl, rfl⟩ := H
        go_enter Try.func21, Try.ntmps21
        go_wp2_with (first | ((with_reducible refine gate_callee (f := 40) rfl ?_); refine goesL_ (some 10) rfl rfl Try.func40 (by kernel_rfl) rfl #[.int .i64 a0, .int .i64 257, .int .i64 285] rfl (by (try simp only [List.map_toArray, List.map_cons, List.map_nil]); first | done | rfl | (simp only [List.length_drop, List.length_take]; rfl)) ?_; (with_reducible refine (token_within.calls a0 257 285 true _ A3.out).mono ?_); rintro e w' ⟨rfl, ⟨nd, rfl⟩⟩; refine ⟨_, rfl, ?_⟩) | ((with_reducible refine gate_callee (f := 45) rfl ?_); refine goesL_ (some 21) rfl rfl Try.func45 (by kernel_rfl) rfl #[.int .i64 (wrap64 (a0 - 257)), .int .i64 2, .int .i64 a1] rfl (by (try simp only [List.map_toArray, List.map_cons, List.map_nil]); first | done | rfl | (simp only [List.length_drop, List.length_take]; rfl)) ?_; (with_reducible refine (token_whole.calls k (wrap64 (a0 - 257)) 2 a1 t171 false _ A7.out).mono ?_); rintro e w12 ⟨rfl, hb⟩; refine ⟨_, rfl, ?_⟩; have n0_ := Aside0.mk (below_step (by repeat (first | (with_reducible first | exact HB.out | apply below_alloc | apply pw_below_drewN | apply below_drew1) | exact HB.out)) hb); clear HB; have HB := n0_; clear n0_; (try clear hb); (try clear hb2); (try clear hk); (try clear hi)))
        go_ret2
        exact ⟨by first | rfl | (simp [errW_none, errW_some] <;> rfl) | (simp [*, errW_none, errW_some] <;> rfl), by repeat (first | (with_reducible first | exact HB.out | apply below_alloc | apply pw_below_drewN | apply below_drew1) | exact HB.out)⟩
  · replace c4 := Bool.eq_false_iff.mpr c4
    subst c4
    have H1 : (some (0, false)) = some (r1, r2) := by rw [if_neg (show ¬ (false = true) by decide)] at H; exact H
    clear H
    have H := H1
    clear H1
    simp only [Option.some.injEq, Prod.mk.injEq] at H
    obtain ⟨rfl, rfl⟩ := H
    go_enter Try.func21, Try.ntmps21
    go_wp2_with (first | ((with_reducible refine gate_callee (f := 40) rfl ?_); refine goesL_ (some 10) rfl rfl Try.func40 (by kernel_rfl) rfl #[.int .i64 a0, .int .i64 257, .int .i64 285] rfl (by (try simp only [List.map_toArray, List.map_cons, List.map_nil]); first | done | rfl | (simp only [List.length_drop, List.length_take]; rfl)) ?_; (with_reducible refine (token_within.calls a0 257 285 false _ A3.out).mono ?_); rintro e w' ⟨rfl, ⟨nd, rfl⟩⟩; refine ⟨_, rfl, ?_⟩))
    go_ret2
    exact ⟨by first | rfl | (simp [errW_none, errW_some] <;> rfl) | (simp [*, errW_none, errW_some] <;> rfl), by repeat (first | (with_reducible first | exact HB.out | apply below_alloc | apply pw_below_drewN | apply below_drew1) | exact HB.out)⟩

end Go.Proofs.Ytlgdjacgdflfaaa.XTokenSymbols
