-- Written by this session's own program wip/xprint.py: a changed copy of the kit's print.
import Derived.Test.YtdaofffedfccmaaDoorXArmorSignsx0
namespace Go.Proofs.YtdaofffedfccmaaDoor.XArmorSigns
open Go.RowKit Go.Proofs.YtdaofffedfccmaaDoorW.PrintWords Go.Proofs.YtdaofffedfccmaaDoorW.PrintLast Go.Proofs.YtdaofffedfccmaaDoorW.PrintMore
attribute [local go_sem] max2_int min2_int max_two min_two max_three min_three max_four min_four   -- for this text's walks alone
set_option linter.unusedVariables false
set_option linter.unusedSimpArgs false

/-! ### armor_Signs: function 23 -/
-- rounds: no making: yes
-- uses:
def armor_Signs.f (a0 : ByteArray) : Option ByteArray := if a0.size ≤ 1099511627776 then some ⟨(XGlob.signsL a0.data.toList).toArray⟩ else none
theorem armor_Signs.calls (a0 : ByteArray) (r : ByteArray) (w : World) (h : armor_Signs.f a0 = some r) :
    Calls Tryd.prog 23 #[.string a0] w fun e w' => e = .returned (.string r) ∧ Below w.heap.size w w' := by
  unfold armor_Signs.f at h
  by_cases hc : a0.size ≤ 1099511627776
  · rw [if_pos hc] at h
    obtain rfl := Option.some.inj h
    exact XGlob.signs_calls a0 w hc
  · rw [if_neg hc] at h
    cases h


/-! ### strings_TrimRight: function 104 -/
-- rounds: no making: yes
-- uses:
def strings_TrimRight.f (a0 a1 : ByteArray) : Option ByteArray := if (a1.data.toList.all fun b => decide (b.toNat < 128)) = true ∧ a1.size < 4294967281 ∧ a0.size ≤ 9223372036854775807 then some ⟨(Lib.trimRightS a0.data.toList a1.data.toList).toArray⟩ else none
theorem strings_TrimRight.calls (a0 a1 : ByteArray) (r : ByteArray) (w : World) (h : strings_TrimRight.f a0 a1 = some r) :
    Calls Tryd.prog 104 #[.string a0, .string a1] w fun e w' => e = .returned (.string r) ∧ Below w.heap.size w w' := by
  unfold strings_TrimRight.f at h
  by_cases hc : (a1.data.toList.all fun b => decide (b.toNat < 128)) = true ∧ a1.size < 4294967281 ∧ a0.size ≤ 9223372036854775807
  · rw [if_pos hc] at h
    obtain rfl := Option.some.inj h
    exact Any.strings_TrimRight_laid Tryd.lays162 (by kernel_rfl) a0 a1 w hc.2.2 hc.2.1 (fun _ b hb => of_decide_eq_true (List.all_eq_true.1 hc.1 b (List.mem_of_getElem? hb)))
  · rw [if_neg hc] at h
    cases h


/-! ### strings_IndexByte: function 105 -/
-- rounds: no making: no
-- uses:
def strings_IndexByte.f (a0 : ByteArray) (a1 : Int) : Option Int := some (Lib.indexByte a0.data.toList a1.toNat.toUInt8)
theorem strings_IndexByte.calls (a0 : ByteArray) (a1 : Int) (r : Int) (w : World) (h : strings_IndexByte.f a0 a1 = some r) :
    Calls Tryd.prog 105 #[.string a0, .int .u8 a1] w fun e w' => e = .returned (.int .i64 r) ∧ Drawn0 w w' := by
  unfold strings_IndexByte.f at h
  obtain rfl := Option.some.inj h
  refine (Tryd.strings_IndexByte a0 a1 w).mono ?_
  rintro e w' ⟨rfl, rfl⟩
  exact ⟨rfl, Drawn0.refl _⟩


/-! ### strings_Trim: function 106 -/
-- rounds: no making: yes
-- uses:
def strings_Trim.f (a0 a1 : ByteArray) : Option ByteArray := if (a1.data.toList.all fun b => decide (b.toNat < 128)) = true ∧ a1.size < 4294967281 ∧ a0.size ≤ 9223372036854775807 then some ⟨(Lib.trimS a0.data.toList a1.data.toList).toArray⟩ else none
theorem strings_Trim.calls (a0 a1 : ByteArray) (r : ByteArray) (w : World) (h : strings_Trim.f a0 a1 = some r) :
    Calls Tryd.prog 106 #[.string a0, .string a1] w fun e w' => e = .returned (.string r) ∧ Below w.heap.size w w' := by
  unfold strings_Trim.f at h
  by_cases hc : (a1.data.toList.all fun b => decide (b.toNat < 128)) = true ∧ a1.size < 4294967281 ∧ a0.size ≤ 9223372036854775807
  · rw [if_pos hc] at h
    obtain rfl := Option.some.inj h
    exact Any.strings_Trim_laid Tryd.lays160 (by kernel_rfl) a0 a1 w hc.2.2 hc.2.1 (fun _ b hb => of_decide_eq_true (List.all_eq_true.1 hc.1 b (List.mem_of_getElem? hb)))
  · rw [if_neg hc] at h
    cases h


/-! ### armor_quad: function 62 -/
mutual
def armor_quad.j0 : Nat → ByteArray → Int → Bool → Option (ByteArray × Bool)
  | 0, _, _, _ => none
  | k + 1, x6, x7, x26 => if x26 = true then (some ((⟨#[]⟩ : ByteArray), false)) else (armor_quad.l0 k x6 x7 0 0)
def armor_quad.l0 : Nat → ByteArray → Int → Int → Int → Option (ByteArray × Bool)
  | 0, _, _, _, _ => none
  | k + 1, x6, x7, x8, x27 => if x27 < 4 then (if x27 ≥ (x6.size : Int) then (armor_quad.l0 k x6 x7 ((x8 * 64) % 4294967296) (wrap64 (x27 + 1))) else (if 0 ≤ x27 then (if x27 < (x6.size : Int) then ((strings_IndexByte.f (⟨#[65, 66, 67, 68, 69, 70, 71, 72, 73, 74, 75, 76, 77, 78, 79, 80, 81, 82, 83, 84, 85, 86, 87, 88, 89, 90, 97, 98, 99, 100, 101, 102, 103, 104, 105, 106, 107, 108, 109, 110, 111, 112, 113, 114, 115, 116, 117, 118, 119, 120, 121, 122, 48, 49, 50, 51, 52, 53, 54, 55, 56, 57, 43, 47]⟩ : ByteArray) (bt x6 x27)).bind fun t106 => (if t106 < 0 then (some ((⟨#[]⟩ : ByteArray), false)) else (armor_quad.l0 k x6 x7 (Go.bits .or .u32 ((x8 * 64) % 4294967296) ((t106) % 4294967296)) (wrap64 (x27 + 1))))) else (none)) else (none))) else ((some (([(x8 / 65536) % 256, (x8 / 256) % 256, (x8) % 256] : List Int) : List Int)).bind fun y102 => (if 0 ≤ x7 then (if x7 ≤ ((strOfNums y102).size : Int) then ((strings_Trim.f ((strOfNums y102).extract (x7 : Int).toNat (strOfNums y102).size) (⟨#[0]⟩ : ByteArray)).bind fun t105 => (some ((strOfNums y102).extract 0 (x7 : Int).toNat, (t105.toList == ([] : List UInt8))))) else (none)) else (none)))
end
def armor_quad.f (k : Nat) (a0 : ByteArray) (a1 : Bool) : Option (ByteArray × Bool) := (strings_TrimRight.f a0 (⟨#[61]⟩ : ByteArray)).bind fun t101 => (if (wrap64 ((t101.size : Int) - 1)) < 1 then (armor_quad.j0 k t101 (wrap64 ((t101.size : Int) - 1)) true) else (if (wrap64 ((t101.size : Int) - 1)) < 3 then (armor_quad.j0 k t101 (wrap64 ((t101.size : Int) - 1)) (!a1)) else (armor_quad.j0 k t101 (wrap64 ((t101.size : Int) - 1)) false)))
theorem armor_quad.mono_l : ∀ k, (∀ y0 y1 y2, LeO (armor_quad.j0 k y0 y1 y2) (armor_quad.j0 (k + 1) y0 y1 y2)) ∧ (∀ y0 y1 y2 y3, LeO (armor_quad.l0 k y0 y1 y2 y3) (armor_quad.l0 (k + 1) y0 y1 y2 y3))
  | 0 => ⟨fun _ _ _ r h => by simp [armor_quad.j0] at h, fun _ _ _ _ r h => by simp [armor_quad.l0] at h⟩
  | k + 1 => by
    obtain ⟨ih0, ih1⟩ := armor_quad.mono_l k
    refine ⟨?_, ?_⟩
    · intro y0 y1 y2
      unfold armor_quad.j0
      repeat' first
      | (with_reducible exact ih0 _ _ _)
      | (with_reducible exact ih1 _ _ _ _)
      | (with_reducible exact LeO.refl _)
      | (with_reducible exact LeO.none _)
      | (with_reducible refine LeO.ite ?_ ?_)
      | (with_reducible refine LeO.bind ?_ (fun _ => ?_))
      | exact ih0 _ _ _
      | exact ih1 _ _ _ _
      | exact LeO.none _
      | refine LeO.ite ?_ ?_
      | refine LeO.bind ?_ (fun _ => ?_)
    · intro y0 y1 y2 y3
      unfold armor_quad.l0
      repeat' first
      | (with_reducible exact ih0 _ _ _)
      | (with_reducible exact ih1 _ _ _ _)
      | (with_reducible exact LeO.refl _)
      | (with_reducible exact LeO.none _)
      | (with_reducible refine LeO.ite ?_ ?_)
      | (with_reducible refine LeO.bind ?_ (fun _ => ?_))
      | exact ih0 _ _ _
      | exact ih1 _ _ _ _
      | exact LeO.none _
      | refine LeO.ite ?_ ?_
      | refine LeO.bind ?_ (fun _ => ?_)
theorem armor_quad.mono : ∀ a0 a1 k, LeO (armor_quad.f k a0 a1) (armor_quad.f (k + 1) a0 a1) := by
  intro a0 a1 k
  obtain ⟨ih0, ih1⟩ := armor_quad.mono_l k
  unfold armor_quad.f
  repeat' first
      | (with_reducible exact ih0 _ _ _)
      | (with_reducible exact ih1 _ _ _ _)
      | (with_reducible exact LeO.refl _)
      | (with_reducible exact LeO.none _)
      | (with_reducible refine LeO.ite ?_ ?_)
      | (with_reducible refine LeO.bind ?_ (fun _ => ?_))
      | exact ih0 _ _ _
      | exact ih1 _ _ _ _
      | exact LeO.none _
      | refine LeO.ite ?_ ?_
      | refine LeO.bind ?_ (fun _ => ?_)
def armor_quad.T17 : Bool × List (List Nat × List Nat) := (true, [([], []), ([], []), ([0, 1], [0, 1]), ([], []), ([], []), ([3, 4], [3, 4]), ([5], [5]), ([6], [6]), ([2, 6, 0, 1, 2], [2]), ([7, 8, 0, 1, 2, 3, 4, 5, 6, 7, 8], [7])])
def armor_quad.B17 : List Nat := [0, 0, 3, 0, 0, 24, 56, 120, 127, 511]
theorem armor_quad.tab17 : rtab .any (opsOf Tryd.f62 17) = armor_quad.T17 := by kernel_rfl
theorem armor_quad.bits17 : waitsOk armor_quad.T17.2 armor_quad.B17 = true := by kernel_rfl
set_option maxHeartbeats 8000000 in
set_option maxRecDepth 100000 in
theorem armor_quad.calls (k : Nat) (a0 : ByteArray) (a1 : Bool) (r1 : ByteArray) (r2 : Bool) (w : World) (h : armor_quad.f k a0 a1 = some (r1, r2)) :
    Calls Tryd.prog 62 #[.string a0, .bool a1] w fun e w' => e = .returned (.tuple #[.string r1, .bool r2]) ∧ Below w.heap.size w w' := by
  have HB := Aside0.mk (Below.refl w.heap.size w)
  have H : ((strings_TrimRight.f a0 (⟨#[61]⟩ : ByteArray)).bind fun t101 => (if (wrap64 ((t101.size : Int) - 1)) < 1 then (armor_quad.j0 k t101 (wrap64 ((t101.size : Int) - 1)) true) else (if (wrap64 ((t101.size : Int) - 1)) < 3 then (armor_quad.j0 k t101 (wrap64 ((t101.size : Int) - 1)) (!a1)) else (armor_quad.j0 k t101 (wrap64 ((t101.size : Int) - 1)) false)))) = some (r1, r2) := h
  clear h
  replace H := Option.bind_eq_some_iff.mp H
  obtain ⟨t101, A30, H⟩ := H
  replace H : (if (wrap64 ((t101.size : Int) - 1)) < 1 then (armor_quad.j0 k t101 (wrap64 ((t101.size : Int) - 1)) true) else (if (wrap64 ((t101.size : Int) - 1)) < 3 then (armor_quad.j0 k t101 (wrap64 ((t101.size : Int) - 1)) (!a1)) else (armor_quad.j0 k t101 (wrap64 ((t101.size : Int) - 1)) false))) = some (r1, r2) := H
  have A3 := Aside0.mk A30
  clear A30
  have HC4 := Aside0.mk H
  clear H
  go_enter Tryd.func62, Tryd.ntmps62
  go_upto_region 3 with (first | ((with_reducible refine gate_callee (f := 104) rfl ?_); refine goesL_ (some 13) rfl rfl Tryd.func104 (by kernel_rfl) rfl #[.string a0, .string (⟨#[61]⟩ : ByteArray)] rfl (by (try simp only [List.map_toArray, List.map_cons, List.map_nil]); first | done | rfl | (simp only [List.length_drop, List.length_take]; rfl)) ?_; (with_reducible refine (strings_TrimRight.calls a0 (⟨#[61]⟩ : ByteArray) t101 _ A3.out).mono ?_); rintro e w5 ⟨rfl, hb⟩; refine ⟨_, rfl, ?_⟩; have n0_ := Aside0.mk (below_step (by repeat (first | (with_reducible first | exact HB.out | apply below_alloc | apply pw_below_drewN | apply below_drew1) | exact HB.out)) hb); clear HB; have HB := n0_; clear n0_; (try clear hb); (try clear hb2); (try clear hk); (try clear hi)))
  (try simp only [Act.put, List.setIfInBounds_toArray, List.set_cons_zero, List.set_cons_succ])
  go_cut [26] (fun v26 wc => ∃ (kq : Nat) (x26_3 : Bool), v26 = .bool x26_3 ∧ Aside0 (armor_quad.j0 kq t101 (wrap64 ((t101.size : Int) - 1)) x26_3 = some (r1, r2)) ∧ Aside0 (kq ≤ k) ∧ Aside0 (Below w.heap.size w wc))
  case first =>
    have H := HC4.out
    clear HC4
    by_cases c6 : (wrap64 ((t101.size : Int) - 1)) < 1
    · rw [if_pos c6] at H
      have c6b0 : decide ((wrap64 ((t101.size : Int) - 1)) < 1) = true := decide_eq_true c6
      clear c6
      (first | rw [c6b0] | (simp only [i64_w, i32_w]; rw [c6b0]) | skip)
      have H' := Aside0.mk H
      clear H
      go_wp2
      go_meet
      case rel => exact ⟨_, (true), (by first | rfl | (simp; done) | (simp [*]; done)), H', ⟨by first | omega | exact Nat.le_refl _⟩, ⟨by repeat (first | (with_reducible first | exact HB.out | apply below_alloc | apply pw_below_drewN | apply below_drew1) | exact HB.out)⟩⟩
    · rw [if_neg c6] at H
      have c6b0 : decide ((wrap64 ((t101.size : Int) - 1)) < 1) = false := decide_eq_false c6
      clear c6
      (first | rw [c6b0] | (simp only [i64_w, i32_w]; rw [c6b0]) | skip)
      by_cases c7 : (wrap64 ((t101.size : Int) - 1)) < 3
      · rw [if_pos c7] at H
        have c7b0 : decide ((wrap64 ((t101.size : Int) - 1)) < 3) = true := decide_eq_true c7
        clear c7
        have H' := Aside0.mk H
        clear H
        go_wp2
        go_meet
        case rel => exact ⟨_, (!a1), (by first | rfl | (simp; done) | (simp [*]; done)), H', ⟨by first | omega | exact Nat.le_refl _⟩, ⟨by repeat (first | (with_reducible first | exact HB.out | apply below_alloc | apply pw_below_drewN | apply below_drew1) | exact HB.out)⟩⟩
      · rw [if_neg c7] at H
        have c7b0 : decide ((wrap64 ((t101.size : Int) - 1)) < 3) = false := decide_eq_false c7
        clear c7
        have H' := Aside0.mk H
        clear H
        go_wp2
        go_meet
        case rel => exact ⟨_, (false), (by first | rfl | (simp; done) | (simp [*]; done)), H', ⟨by first | omega | exact Nat.le_refl _⟩, ⟨by repeat (first | (with_reducible first | exact HB.out | apply below_alloc | apply pw_below_drewN | apply below_drew1) | exact HB.out)⟩⟩
  case rest =>
    clear HC4
    try clear c1
    try clear p2
    try clear c6
    try clear c6b0
    try clear p6
    try clear c7
    try clear c7b0
    obtain ⟨kq, x26_3, rfl, HA, HJ3, HB⟩ := hcut
    cases kq with
    | zero => exact absurd HA.out (by simp [armor_quad.j0])
    | succ kj3 =>
      have H := HA.out
      clear HA
      simp only [armor_quad.j0] at H
      by_cases c8 : x26_3 = true
      · subst c8
        have H1 : (some ((⟨#[]⟩ : ByteArray), false)) = some (r1, r2) := by rw [if_pos rfl] at H; exact H
        clear H
        have H := H1
        clear H1
        simp only [Option.some.injEq, Prod.mk.injEq] at H
        obtain ⟨rfl, rfl⟩ := H
        go_wp2
        go_ret2
        exact ⟨by first | rfl | (simp [errW_none, errW_some] <;> rfl) | (simp [*, errW_none, errW_some] <;> rfl), by repeat (first | (with_reducible first | exact HB.out | apply below_alloc | apply pw_below_drewN | apply below_drew1) | exact HB.out)⟩
      · replace c8 := Bool.eq_false_iff.mpr c8
        subst c8
        have H1 : (armor_quad.l0 kj3 t101 (wrap64 ((t101.size : Int) - 1)) 0 0) = some (r1, r2) := by rw [if_neg (show ¬ (false = true) by decide)] at H; exact H
        clear H
        have H := H1
        clear H1
        have H' := Aside0.mk H
        clear H
        go_wp2
        go_loopg [8, 27] kj3 (fun kq v8 v27 w' => ∃ (x8_2 : Int) (x27_2 : Int), v8 = .int .u32 x8_2 ∧ v27 = .int .i64 x27_2 ∧ Aside0 (armor_quad.l0 kq t101 (wrap64 ((t101.size : Int) - 1)) x8_2 x27_2 = some (r1, r2)) ∧ Aside0 (kq ≤ kj3) ∧ Aside0 (Below w.heap.size w w'))
        case atStart => exact ⟨(0), (0), (by first | rfl | (simp; done) | (simp [*]; done)), (by first | rfl | (simp; done) | (simp [*]; done)), H', ⟨Nat.le_refl _⟩, ⟨by repeat (first | (with_reducible first | exact HB.out | apply below_alloc | apply pw_below_drewN | apply below_drew1) | exact HB.out)⟩⟩
        case round =>
          clear H'
          try clear c1
          try clear p2
          try clear c6
          try clear c6b0
          try clear p6
          try clear c7
          try clear c7b0
          try clear c8
          try clear p2
          try clear p6
          obtain ⟨x8_2, x27_2, rfl, rfl, HA, HK2, HB⟩ := hrel
          cases gk with
          | zero => exact absurd HA.out (by simp [armor_quad.l0])
          | succ k2 =>
            have H := HA.out
            clear HA
            simp only [armor_quad.l0] at H
            by_cases c9 : x27_2 < 4
            · rw [if_pos c9] at H
              have c9b0 : decide (x27_2 < 4) = true := decide_eq_true c9
              clear c9
              by_cases c10 : x27_2 ≥ (t101.size : Int)
              · rw [if_pos c10] at H
                have c10b0 : decide ((t101.size : Int) ≤ x27_2) = true := decide_eq_true c10
                clear c10
                have H' := Aside0.mk H
                clear H
                go_wp2
                go_roundg k2
                case measure => have := HJ3.out; have := HK2.out; omega
                case rel => exact ⟨((x8_2 * 64) % 4294967296), (wrap64 (x27_2 + 1)), (by first | rfl | (simp; done) | (simp [*]; done)), (by first | rfl | (simp; done) | (simp [*]; done)), H', ⟨by have := HJ3.out; have := HK2.out; omega⟩, ⟨by repeat (first | (with_reducible first | exact HB.out | apply below_alloc | apply pw_below_drewN | apply below_drew1) | exact HB.out)⟩⟩
              · rw [if_neg c10] at H
                have c10b0 : decide ((t101.size : Int) ≤ x27_2) = false := decide_eq_false c10
                clear c10
                by_cases c11 : 0 ≤ x27_2
                · rw [if_pos c11] at H
                  have c11b0 : decide (0 ≤ x27_2) = true := decide_eq_true c11
                  clear c11
                  by_cases c12 : x27_2 < (t101.size : Int)
                  · rw [if_pos c12] at H
                    have c12b0 : decide (x27_2 < (t101.size : Int)) = true := decide_eq_true c12
                    clear c12
                    replace H := Option.bind_eq_some_iff.mp H
                    obtain ⟨t106, A140, H⟩ := H
                    replace H : (if t106 < 0 then (some ((⟨#[]⟩ : ByteArray), false)) else (armor_quad.l0 k2 t101 (wrap64 ((t101.size : Int) - 1)) (Go.bits .or .u32 ((x8_2 * 64) % 4294967296) ((t106) % 4294967296)) (wrap64 (x27_2 + 1)))) = some (r1, r2) := H
                    have A14 := Aside0.mk A140
                    clear A140
                    by_cases c15 : t106 < 0
                    · rw [if_pos c15] at H
                      have c15b0 : decide (t106 < 0) = true := decide_eq_true c15
                      clear c15
                      simp only [Option.some.injEq, Prod.mk.injEq] at H
                      obtain ⟨rfl, rfl⟩ := H
                      have p13 : 0 ≤ (x27_2 : Int) := of_decide_eq_true (by first | (with_reducible assumption) | assumption)
                      have q13 : x27_2 < (t101.size : Int) := of_decide_eq_true (by first | (with_reducible assumption) | assumption)
                      have hx13 := bt_at t101 x27_2
                      replace p13 := eq_true p13
                      replace q13 := eq_true q13
                      go_wp2_with (first | ((with_reducible refine gate_callee (f := 105) rfl ?_); refine goesL_ (some 39) rfl rfl Tryd.func105 (by kernel_rfl) rfl #[.string (⟨#[65, 66, 67, 68, 69, 70, 71, 72, 73, 74, 75, 76, 77, 78, 79, 80, 81, 82, 83, 84, 85, 86, 87, 88, 89, 90, 97, 98, 99, 100, 101, 102, 103, 104, 105, 106, 107, 108, 109, 110, 111, 112, 113, 114, 115, 116, 117, 118, 119, 120, 121, 122, 48, 49, 50, 51, 52, 53, 54, 55, 56, 57, 43, 47]⟩ : ByteArray), .int .u8 (bt t101 x27_2)] rfl (by (try simp only [List.map_toArray, List.map_cons, List.map_nil]); first | done | rfl | (simp only [List.length_drop, List.length_take]; rfl)) ?_; (with_reducible refine (strings_IndexByte.calls (⟨#[65, 66, 67, 68, 69, 70, 71, 72, 73, 74, 75, 76, 77, 78, 79, 80, 81, 82, 83, 84, 85, 86, 87, 88, 89, 90, 97, 98, 99, 100, 101, 102, 103, 104, 105, 106, 107, 108, 109, 110, 111, 112, 113, 114, 115, 116, 117, 118, 119, 120, 121, 122, 48, 49, 50, 51, 52, 53, 54, 55, 56, 57, 43, 47]⟩ : ByteArray) (bt t101 x27_2) t106 _ A14.out).mono ?_); rintro e w' ⟨rfl, ⟨nd, rfl⟩⟩; refine ⟨_, rfl, ?_⟩))
                      go_ret2
                      exact ⟨by first | rfl | (simp [errW_none, errW_some] <;> rfl) | (simp [*, errW_none, errW_some] <;> rfl), by repeat (first | (with_reducible first | exact HB.out | apply below_alloc | apply pw_below_drewN | apply below_drew1) | exact HB.out)⟩
                    · rw [if_neg c15] at H
                      have c15b0 : decide (t106 < 0) = false := decide_eq_false c15
                      clear c15
                      have H' := Aside0.mk H
                      clear H
                      have p13 : 0 ≤ (x27_2 : Int) := of_decide_eq_true (by first | (with_reducible assumption) | assumption)
                      have q13 : x27_2 < (t101.size : Int) := of_decide_eq_true (by first | (with_reducible assumption) | assumption)
                      have hx13 := bt_at t101 x27_2
                      replace p13 := eq_true p13
                      replace q13 := eq_true q13
                      go_wp2_with (first | ((with_reducible refine gate_callee (f := 105) rfl ?_); refine goesL_ (some 39) rfl rfl Tryd.func105 (by kernel_rfl) rfl #[.string (⟨#[65, 66, 67, 68, 69, 70, 71, 72, 73, 74, 75, 76, 77, 78, 79, 80, 81, 82, 83, 84, 85, 86, 87, 88, 89, 90, 97, 98, 99, 100, 101, 102, 103, 104, 105, 106, 107, 108, 109, 110, 111, 112, 113, 114, 115, 116, 117, 118, 119, 120, 121, 122, 48, 49, 50, 51, 52, 53, 54, 55, 56, 57, 43, 47]⟩ : ByteArray), .int .u8 (bt t101 x27_2)] rfl (by (try simp only [List.map_toArray, List.map_cons, List.map_nil]); first | done | rfl | (simp only [List.length_drop, List.length_take]; rfl)) ?_; (with_reducible refine (strings_IndexByte.calls (⟨#[65, 66, 67, 68, 69, 70, 71, 72, 73, 74, 75, 76, 77, 78, 79, 80, 81, 82, 83, 84, 85, 86, 87, 88, 89, 90, 97, 98, 99, 100, 101, 102, 103, 104, 105, 106, 107, 108, 109, 110, 111, 112, 113, 114, 115, 116, 117, 118, 119, 120, 121, 122, 48, 49, 50, 51, 52, 53, 54, 55, 56, 57, 43, 47]⟩ : ByteArray) (bt t101 x27_2) t106 _ A14.out).mono ?_); rintro e w' ⟨rfl, ⟨nd, rfl⟩⟩; refine ⟨_, rfl, ?_⟩))
                      go_roundg k2
                      case measure => have := HJ3.out; have := HK2.out; omega
                      case rel => exact ⟨(Go.bits .or .u32 ((x8_2 * 64) % 4294967296) ((t106) % 4294967296)), (wrap64 (x27_2 + 1)), (by first | rfl | (simp; done) | (simp [*]; done)), (by first | rfl | (simp; done) | (simp [*]; done)), H', ⟨by have := HJ3.out; have := HK2.out; omega⟩, ⟨by repeat (first | (with_reducible first | exact HB.out | apply below_alloc | apply pw_below_drewN | apply below_drew1) | exact HB.out)⟩⟩
                  · rw [if_neg c12] at H
                    exact absurd H (by simp)
                · rw [if_neg c11] at H
                  exact absurd H (by simp)
            · rw [if_neg c9] at H
              have c9b0 : decide (x27_2 < 4) = false := decide_eq_false c9
              clear c9
              obtain ⟨y102, hy102⟩ : ∃ y_ : List Int, y_ = (([(x8_2 / 65536) % 256, (x8_2 / 256) % 256, (x8_2) % 256] : List Int)) := ⟨_, rfl⟩
              replace H : (if 0 ≤ (wrap64 ((t101.size : Int) - 1)) then (if (wrap64 ((t101.size : Int) - 1)) ≤ ((strOfNums y102).size : Int) then ((strings_Trim.f ((strOfNums y102).extract ((wrap64 ((t101.size : Int) - 1)) : Int).toNat (strOfNums y102).size) (⟨#[0]⟩ : ByteArray)).bind fun t105 => (some ((strOfNums y102).extract 0 ((wrap64 ((t101.size : Int) - 1)) : Int).toNat, (t105.toList == ([] : List UInt8))))) else (none)) else (none)) = some (r1, r2) := by first | (rw [hy102]; with_reducible exact H) | (have H2_ := (Option.bind_some _ _).symm.trans H; rw [hy102]; with_reducible exact H2_) | (have H2_ := (Option.bind_some _ _).symm.trans H; with_reducible exact H2_) | with_reducible exact H | (rw [hy102]; exact H) | exact H
              have Ny102 := Aside0.mk hy102
              clear hy102
              obtain ⟨ji16, hji16⟩ : ∃ j_ : Int, (wrap64 ((t101.size : Int) - 1)) = j_ := ⟨_, rfl⟩
              replace H : (if 0 ≤ (ji16) then (if (ji16) ≤ ((strOfNums y102).size : Int) then ((strings_Trim.f ((strOfNums y102).extract ((ji16) : Int).toNat (strOfNums y102).size) (⟨#[0]⟩ : ByteArray)).bind fun t105 => (some ((strOfNums y102).extract 0 ((ji16) : Int).toNat, (t105.toList == ([] : List UInt8))))) else (none)) else (none)) = some (r1, r2) := by first | (rw [hji16] at H; exact H) | (simp only [hji16] at H ⊢; exact H)
              have hji16w : (IntKind.i64.wrap ((t101.size : Int) - 1)) = ji16 := (i64_w _).trans hji16
              by_cases c17 : 0 ≤ (ji16)
              · rw [if_pos c17] at H
                have c17b0 := eq_true c17
                have c17b1 : decide (0 ≤ (ji16)) = true := decide_eq_true c17
                clear c17
                by_cases c18 : (ji16) ≤ ((strOfNums y102).size : Int)
                · rw [if_pos c18] at H
                  have c18b0 := eq_true c18
                  have c18b1 : decide ((ji16) ≤ ((strOfNums y102).size : Int)) = true := decide_eq_true c18
                  clear c18
                  have c19b0 := eq_true (of_decide_eq_true (by first | (with_reducible assumption) | assumption) : 0 ≤ (ji16))
                  have c20b0 := eq_true (of_decide_eq_true (by first | (with_reducible assumption) | assumption) : (ji16) ≤ ((strOfNums y102).size : Int))
                  replace H := Option.bind_eq_some_iff.mp H
                  obtain ⟨t105, A210, H⟩ := H
                  replace H : (some ((strOfNums y102).extract 0 ((ji16) : Int).toNat, (t105.toList == ([] : List UInt8)))) = some (r1, r2) := H
                  have A21 := Aside0.mk A210
                  clear A210
                  simp only [Option.some.injEq, Prod.mk.injEq] at H
                  obtain ⟨rfl, rfl⟩ := H
                  try go_wp2_with (first | ((with_reducible refine gate_dst (N := 55) rfl ?_); refine Kd.R_lit (Kd.int .u8) _ 5 ?hg (N := 55) ?hd (xs := ([(x8_2 / 65536) % 256, (x8_2 / 256) % 256, (x8_2) % 256] : List Int)) (inner := [.int .u8 ((x8_2 / 65536) % 256), .int .u8 ((x8_2 / 256) % 256), .int .u8 ((x8_2) % 256)]) (ok := fun _ => True) (okp := fun _ => True) ?hr ?hp (fun _ hk => hk) trivial (Below.refl _ _) (Nat.le_refl _) (by simp) ?_; (case hd => rfl); (case hg => rfl); (case hr => first | (go_simp; done) | (go_simp; rfl)); (case hp => exact (Reps.one (show Kd.M (Kd.int .u8) _ _ _ ((x8_2 / 65536) % 256) [.int .u8 ((x8_2 / 65536) % 256)] from rfl) (Reps.one (show Kd.M (Kd.int .u8) _ _ _ ((x8_2 / 256) % 256) [.int .u8 ((x8_2 / 256) % 256)] from rfl) (Reps.one (show Kd.M (Kd.int .u8) _ _ _ ((x8_2) % 256) [.int .u8 ((x8_2) % 256)] from rfl) (Reps.none _ _))))); intro v103 w22 ho23 hb hg_ hnew_; clear hg_ hnew_; (first | rw [← Ny102.out] at ho23 | (simp only [Int.reduceToNat] at ho23; rw [← Ny102.out] at ho23)); have n0_ := Aside0.mk (Kd.R_lower ho23 (below_size (by repeat (first | (with_reducible first | exact HB.out | apply below_alloc | apply pw_below_drewN | apply below_drew1) | exact HB.out)))); have n1_ := Aside0.mk (below_step (by repeat (first | (with_reducible first | exact HB.out | apply below_alloc | apply pw_below_drewN | apply below_drew1) | exact HB.out)) hb); clear HB; have HO104 := n0_; have HB := n1_; clear n0_ n1_; clear hb ho23; have hcv24 := own_string (P := Tryd.prog) Tryd.underlying84 Tryd.underlying5 Tryd.underlying9 (Kd.own_of_R HO104.out)))
                  have n0_ := Aside0.mk (Kd.R_drew HO104.out)
                  have n1_ := Aside0.mk (below_drew1 HB.out)
                  clear HO104
                  clear HB
                  have HO104 := n0_
                  have HB := n1_
                  clear n0_ n1_
                  refine start_ (n := 10) (S := fun w' => True) (ds := []) #[false, false, false, false, false, false, false, false, false, false] (by kernel_rfl) rfl rfl trivial (fun hHeld => ?_); refine with_tabW armor_quad.tab17 armor_quad.bits17 (fun HT_ HW_ => ?_)
                  generalize w22.drew = w25 at HO104 HB hHeld ⊢
                  refine pure_ (i := 0) (N := some 57) (v := ?_) (a' := ?_) #[true, false, false, false, false, false, false, false, false, false] rfl rfl (any_of HT_.out (by kernel_rfl)) (fun _ _ _ h => h) (Or.inl ⟨by rfl, ?_⟩) ?_ ?_
                  rotate_left
                  · intro w'
                    go_simp
                    with_reducible rfl
                  rotate_left
                  · simp only [Act.put, List.setIfInBounds_toArray, List.set_cons_zero, List.set_cons_succ, i64_w, i32_w]
                    rfl
                  refine pure_ (i := 1) (N := some 58) (v := ?_) (a' := ?_) #[true, true, false, false, false, false, false, false, false, false] rfl rfl (any_of HT_.out (by kernel_rfl)) (fun _ _ _ h => h) (Or.inl ⟨by rfl, ?_⟩) ?_ ?_
                  rotate_left
                  · intro w'
                    go_simp
                    with_reducible rfl
                  rotate_left
                  · simp only [Act.put, List.setIfInBounds_toArray, List.set_cons_zero, List.set_cons_succ, i64_w, i32_w]
                    rfl
                  refine pure_ (i := 2) (N := some 59) (v := ?_) (a' := ?_) #[true, true, true, false, false, false, false, false, false, false] rfl rfl (any_of HT_.out (by kernel_rfl)) (fun _ _ _ h => h) (Or.inl ⟨by rfl, ?_⟩) ?_ ?_
                  rotate_left
                  · intro w'
                    go_simp
                    with_reducible rfl
                  rotate_left
                  · simp only [Act.put, List.setIfInBounds_toArray, List.set_cons_zero, List.set_cons_succ, i64_w, i32_w]
                    rfl
                  refine pure_ (i := 3) (N := some 60) (v := ?_) (a' := ?_) #[true, true, true, true, false, false, false, false, false, false] rfl rfl (any_of HT_.out (by kernel_rfl)) (fun _ _ _ h => h) (Or.inl ⟨by rfl, ?_⟩) ?_ ?_
                  rotate_left
                  · intro w'
                    go_simp
                    with_reducible rfl
                  rotate_left
                  · simp only [Act.put, List.setIfInBounds_toArray, List.set_cons_zero, List.set_cons_succ, i64_w, i32_w]
                    rfl
                  refine pure_ (i := 4) (N := some 61) (v := ?_) (a' := ?_) #[true, true, true, true, true, false, false, false, false, false] rfl rfl (any_of HT_.out (by kernel_rfl)) (fun _ _ _ h => h) (Or.inl ⟨by rfl, ?_⟩) ?_ ?_
                  rotate_left
                  · intro w'
                    go_simp
                    with_reducible rfl
                  rotate_left
                  · simp only [Act.put, List.setIfInBounds_toArray, List.set_cons_zero, List.set_cons_succ, i64_w, i32_w]
                    rfl
                  refine pure_ (i := 5) (N := some 62) (v := ?_) (a' := ?_) #[true, true, true, true, true, true, false, false, false, false] rfl rfl (any_of HT_.out (by kernel_rfl)) (fun _ _ _ h => h) (Or.inl ⟨by rfl, ?_⟩) ?_ ?_
                  rotate_left
                  · intro w'
                    go_simp
                    with_reducible rfl
                  rotate_left
                  · simp only [Act.put, List.setIfInBounds_toArray, List.set_cons_zero, List.set_cons_succ, i64_w, i32_w]
                    rfl
                  refine one_ (i := 6) (N := some 63) #[true, true, true, true, true, true, true, false, false, false] rfl rfl (one_of HT_.out (by kernel_rfl)) (by decide) (fun K hK => ?_)
                  refine goes_ Tryd.func106 (by kernel_rfl) rfl #[.string ((strOfNums y102).extract ((ji16) : Int).toNat (strOfNums y102).size), .string (⟨#[0]⟩ : ByteArray)] (by rfl) rfl rfl (by (try simp only [List.map_toArray, List.map_cons, List.map_nil]); first | done | (simp only [hji16]; rfl) | rfl | (simp only [List.length_drop, List.length_take]; rfl)) ?_
                  with_reducible refine (strings_Trim.calls ((strOfNums y102).extract ((ji16) : Int).toNat (strOfNums y102).size) (⟨#[0]⟩ : ByteArray) t105 _ A21.out).mono ?_
                  rintro e w26 ⟨rfl, hb⟩
                  refine ⟨_, rfl, ?_⟩
                  have n0_ := Aside0.mk (Kd.R_below (by (with_reducible repeat (first | apply Kd.R_alloc | apply Kd.R_drewN | apply Kd.R_drew)); exact HO104.out) hb)
                  have n1_ := Aside0.mk (below_step (by repeat (first | (with_reducible first | exact HB.out | apply below_alloc | apply pw_below_drewN | apply below_drew1) | exact HB.out)) hb)
                  clear HO104
                  clear HB
                  have HO104 := n0_
                  have HB := n1_
                  clear n0_ n1_
                  (try clear hb)
                  (try clear hb2)
                  (try clear hk)
                  (try clear hi)
                  refine hK.out _ _ trivial (fun hHeld => ?_)
                  clear hK K
                  refine norm_ (a' := ?_) ?_ ?_
                  rotate_left
                  · show Act.put _ (some 63) _ = _
                    simp only [Act.put, List.setIfInBounds_toArray, List.set_cons_zero, List.set_cons_succ, i64_w, i32_w]
                    rfl
                  refine pure_ (i := 7) (N := some 64) (v := ?_) (a' := ?_) #[true, true, true, true, true, true, true, true, false, false] rfl rfl (any_of HT_.out (by kernel_rfl)) (fun _ _ _ h => h) (Or.inl ⟨by rfl, ?_⟩) ?_ ?_
                  rotate_left
                  · intro w'
                    go_simp
                    with_reducible rfl
                  rotate_left
                  · simp only [Act.put, List.setIfInBounds_toArray, List.set_cons_zero, List.set_cons_succ, i64_w, i32_w]
                    rfl
                  refine pure_ (i := 8) (N := some 4) (v := ?_) (a' := ?_) #[true, true, true, true, true, true, true, true, true, false] rfl rfl (any_of HT_.out (by kernel_rfl)) (fun _ _ _ h => h) (Or.inl ⟨by rfl, ?_⟩) ?_ ?_
                  rotate_left
                  · intro w'
                    go_simp
                    with_reducible rfl
                  rotate_left
                  · simp only [Act.put, List.setIfInBounds_toArray, List.set_cons_zero, List.set_cons_succ, i64_w, i32_w]
                    rfl
                  refine pure_ (i := 9) (N := some 5) (v := ?_) (a' := ?_) #[true, true, true, true, true, true, true, true, true, true] rfl rfl (any_of HT_.out (by kernel_rfl)) (fun _ _ _ h => h) (Or.inl ⟨by rfl, ?_⟩) ?_ ?_
                  rotate_left
                  · intro w'
                    go_simp
                    with_reducible rfl
                  rotate_left
                  · simp only [Act.put, List.setIfInBounds_toArray, List.set_cons_zero, List.set_cons_succ, i64_w, i32_w]
                    rfl
                  refine done_ (done_of HT_.out (by kernel_rfl)) ?_
                  try go_wp2
                  go_ret2
                  exact ⟨by first | rfl | (simp [errW_none, errW_some] <;> rfl) | (simp only [← hji16]; first | rfl | (simp [errW_none, errW_some] <;> rfl)) | (simp [*, errW_none, errW_some] <;> rfl), by repeat (first | (with_reducible first | exact HB.out | apply below_alloc | apply pw_below_drewN | apply below_drew1) | exact HB.out)⟩
                · rw [if_neg c18] at H
                  exact absurd H (by simp)
              · rw [if_neg c17] at H
                exact absurd H (by simp)

/-! ### armor_Bytes: function 24 -/
-- rounds: yes making: yes
-- uses: montage/armor.quad
/-- Four signs after four; dn: the bytes that they said. -/
def bytesA (k : Nat) : Nat → ByteArray → ByteArray → Option (ByteArray × Int)
  | 0, _, _ => none
  | n + 1, t, dn => if t.size = 0 then some (dn, 0) else (armor_quad.f k (t.extract 0 4) (decide (t.size = 4))).bind fun q => if q.2 = true then (if dn.size + q.1.size ≤ 1099511627776 then bytesA k n (t.extract 4 t.size) (dn ++ q.1) else none) else some (⟨#[]⟩, 2)
theorem bytesA_mono (k n : Nat) : ∀ t dn, LeO (bytesA k n t dn) (bytesA (k + 1) (n + 1) t dn) := by
  induction n with
  | zero => intro t dn r h; cases h
  | succ n ih =>
    intro t dn
    rw [bytesA, bytesA]
    exact LeO.ite (LeO.refl _) (LeO.bind (armor_quad.mono _ _ _) fun _ => LeO.ite (LeO.ite (ih _ _) (LeO.refl _)) (LeO.refl _))
theorem toList_eqA (r : ByteArray) (h : 0 < r.size) : ¬ (r.toList = []) := by
  rw [ByteArray.toList_eq]
  intro e
  have := congrArg List.length e
  rw [Array.length_toList] at this
  have h9 : r.size = 0 := this
  omega
theorem toList_eqB (r : ByteArray) (h : r.size = 0) : r.toList = [] := by
  rw [ByteArray.toList_eq]
  exact List.length_eq_zero_iff.1 (by rw [Array.length_toList]; exact h)
set_option maxHeartbeats 3200000 in
set_option maxRecDepth 100000 in
theorem bytes_walk (k : Nat) (a0 r1 : ByteArray) (r2 : Int) (w : World) (hs : a0.size ≤ 1099511627776) (h4 : a0.size % 4 = 0) (h : bytesA k k a0 ⟨#[]⟩ = some (r1, r2)) :
    Calls Tryd.prog 24 #[.string a0] w fun e w' => e = .returned (.tuple #[.string r1, .int .i64 r2]) ∧ Below w.heap.size w w' := by
  have H0 := Aside0.mk h
  have hm : (a0.size : Int) % 4 = 0 := by omega
  have hm2 : Int.tmod (a0.size : Int) 4 = 0 := by rw [Int.tmod_eq_emod_of_nonneg (by omega)]; exact hm
  have hm3 : (Int.tmod (a0.size : Int) 4 != 0) = false := by rw [hm2]; rfl
  have hm4 : ((a0.size : Int) % 4 != 0) = false := by rw [hm]; rfl
  clear h
  go_enter Tryd.func24, Tryd.ntmps24
  go_wp2
  go_loopg [0] k (fun gg v0 W => ∃ (n : Nat) (t dn : ByteArray), v0 = .string t ∧ n ≤ gg ∧ t.size ≤ a0.size ∧ t.size % 4 = 0 ∧ dn.size ≤ 1099511627776 ∧ Aside0 (bytesA k n t dn = some (r1, r2)) ∧ Aside0 (Lib.IsBuilder 86 5 w.heap.size w.heap.size (Lib.byteCells dn.data.toList) W) ∧ Aside0 (Below w.heap.size w W))
  case atStart => exact ⟨k, a0, ⟨#[]⟩, rfl, Nat.le_refl _, Nat.le_refl _, h4, by show 0 ≤ _; omega, H0, ⟨XGlob.isB_new 86 5 w w.heap.size (Nat.le_refl _)⟩, ⟨below_alloc (Below.refl _ _) _⟩⟩
  case round =>
    clear hm hm2 hm3 hm4 H0 h4
    obtain ⟨n, t, dn, rfl, hg, hle, h4, hdn, H, HI, HB⟩ := hrel
    obtain _ | n := n
    · cases H.out
    have H1 := H.out
    rw [bytesA] at H1
    clear H
    by_cases h0 : t.size = 0
    · rw [if_pos h0] at H1
      have H2 := Option.some.inj H1
      simp only [Prod.mk.injEq] at H2
      obtain ⟨rfl, rfl⟩ := H2
      have e1 := toList_eqB t h0
      have e2 : t.toList.isEmpty = true := by simpa using e1
      have K2 := XGlob.builderString w.heap.size w.heap.size _ wr HI.out HB.out.size
      rw [show (⟨dn.data.toList.toArray⟩ : ByteArray) = dn from rfl] at K2
      clear H1
      go_wp2_with fail
      refine Calls.mono K2 ?_
      rintro e w2 ⟨rfl, b2⟩
      clear K2
      go_wp2
      go_ret2
      exact ⟨rfl, HB.out.trans b2⟩
    · rw [if_neg h0] at H1
      have e1 := toList_eqA t (by omega)
      have e2 : t.toList.isEmpty = false := by simpa using e1
      obtain ⟨⟨q, ok⟩, hq, H2⟩ := Option.bind_eq_some_iff.1 H1
      clear H1
      have K2 := fun W => armor_quad.calls k (t.extract 0 4) (decide (t.size = 4)) q ok W hq
      have hb4 : ((t.size : Int) == 4) = decide (t.size = 4) := by
        by_cases e : t.size = 4
        · rw [decide_eq_true e, e]; rfl
        · rw [decide_eq_false e]; exact beq_eq_false_iff_ne.mpr (by omega)
      obtain ⟨b4, hb4'⟩ : ∃ b, decide (t.size = 4) = b := ⟨_, rfl⟩
      rw [hb4'] at K2 hb4
      have h44 : (4 : Int) ≤ (t.size : Int) := by omega
      have H2 := Aside0.mk H2
      clear hq hb4'
      go_wp2_with fail
      refine Calls.mono (K2 _) ?_
      rintro e w2 ⟨rfl, b2⟩
      clear K2
      have hbs := HB.out.size
      have I2 := XGlob.isB_below HI.out b2
      have B2 := Aside0.mk (below_step HB.out b2)
      cases ok with
      | true =>
        have H3 := H2.out
        rw [if_pos rfl] at H3
        by_cases hz : dn.size + q.size ≤ 1099511627776
        · rw [if_pos hz] at H3
          have H3 := Aside0.mk H3
          have K3 := XGlob.writeString w.heap.size w.heap.size _ q w2 I2 (by rw [Lib.byteCells_length, Array.length_toList]; show dn.size + q.size ≤ _; omega) (Nat.le_trans hbs b2.size)
          clear b2 H2 I2
          go_wp2_with fail
          refine Calls.mono K3 ?_
          rintro e w3 ⟨rfl, i3, b3⟩
          clear K3
          have I3 : Aside0 (Lib.IsBuilder 86 5 w.heap.size w.heap.size (Lib.byteCells (dn ++ q).data.toList) w3) := ⟨by
            rw [XGlob.strCells_bytes, XGlob.byteCells_append] at i3
            rw [ByteArray.data_append, Array.toList_append]
            exact i3⟩
          have B3 := Aside0.mk (B2.out.trans b3)
          clear i3 b3
          go_wp2
          go_roundg n
          case measure => omega
          case rel => exact ⟨n, t.extract 4 t.size, dn ++ q, rfl, Nat.le_refl _, by simp; omega, by simp; omega, by rw [ByteArray.size_append]; exact hz, H3, I3, B3⟩
        · rw [if_neg hz] at H3
          cases H3
      | false =>
        have H3 := H2.out
        rw [if_neg (by decide)] at H3
        have H4 := Option.some.inj H3
        simp only [Prod.mk.injEq] at H4
        obtain ⟨rfl, rfl⟩ := H4
        clear H3 H2 b2 I2
        go_wp2
        go_ret2
        exact ⟨rfl, B2.out⟩
set_option maxHeartbeats 3200000 in
set_option maxRecDepth 100000 in
theorem bytes_odd (a0 : ByteArray) (w : World) (h4 : ¬ a0.size % 4 = 0) :
    Calls Tryd.prog 24 #[.string a0] w fun e w' => e = .returned (.tuple #[.string ⟨#[]⟩, .int .i64 2]) ∧ Below w.heap.size w w' := by
  have hm : ¬ (a0.size : Int) % 4 = 0 := by omega
  have hm2 : ¬ Int.tmod (a0.size : Int) 4 = 0 := by rw [Int.tmod_eq_emod_of_nonneg (by omega)]; exact hm
  have hm3 : (Int.tmod (a0.size : Int) 4 != 0) = true := bne_iff_ne.mpr hm2
  have hm4 : ((a0.size : Int) % 4 != 0) = true := bne_iff_ne.mpr hm
  go_enter Tryd.func24, Tryd.ntmps24
  go_wp2
  go_ret2
  exact ⟨rfl, Below.refl _ _⟩
def armor_Bytes.f (k : Nat) (a0 : ByteArray) : Option (ByteArray × Int) := if a0.size % 4 = 0 ∧ a0.size ≤ 1099511627776 then bytesA k k a0 ⟨#[]⟩ else if a0.size % 4 = 0 then none else some (⟨#[]⟩, 2)
theorem armor_Bytes.mono : ∀ a0 k, LeO (armor_Bytes.f k a0) (armor_Bytes.f (k + 1) a0) := by
  intro a0 k
  unfold armor_Bytes.f
  exact LeO.ite (bytesA_mono _ _ _ _) (LeO.refl _)
theorem armor_Bytes.calls (k : Nat) (a0 : ByteArray) (r1 : ByteArray) (r2 : Int) (w : World) (h : armor_Bytes.f k a0 = some (r1, r2)) :
    Calls Tryd.prog 24 #[.string a0] w fun e w' => e = .returned (.tuple #[.string r1, .int .i64 r2]) ∧ Below w.heap.size w w' := by
  unfold armor_Bytes.f at h
  by_cases hc : a0.size % 4 = 0 ∧ a0.size ≤ 1099511627776
  · rw [if_pos hc] at h
    exact bytes_walk k a0 r1 r2 w hc.2 hc.1 h
  · rw [if_neg hc] at h
    by_cases h4 : a0.size % 4 = 0
    · rw [if_pos h4] at h
      cases h
    · rw [if_neg h4] at h
      have h2 := Option.some.inj h
      simp only [Prod.mk.injEq] at h2
      obtain ⟨rfl, rfl⟩ := h2
      exact bytes_odd a0 w h4


/-! ### armor_right: function 66 -/
def armor_right.f (a0 : ByteArray) : Option (Bool) := if a0.toList = ([] : List UInt8) then (some false) else (if (a0.size : Int) ≤ 30 then ((strings_Trim.f a0 (⟨#[65, 66, 67, 68, 69, 70, 71, 72, 73, 74, 75, 76, 77, 78, 79, 80, 81, 82, 83, 84, 85, 86, 87, 88, 89, 90]⟩ : ByteArray)).bind fun t107 => (some (t107.toList == ([] : List UInt8)))) else (some false))
set_option maxHeartbeats 8000000 in
set_option maxRecDepth 100000 in
theorem armor_right.calls (a0 : ByteArray) (r : Bool) (w : World) (h : armor_right.f a0 = some r) :
    Calls Tryd.prog 66 #[.string a0] w fun e w' => e = .returned (.bool r) ∧ Below w.heap.size w w' := by
  have HB := Aside0.mk (Below.refl w.heap.size w)
  have H : (if a0.toList = ([] : List UInt8) then (some false) else (if (a0.size : Int) ≤ 30 then ((strings_Trim.f a0 (⟨#[65, 66, 67, 68, 69, 70, 71, 72, 73, 74, 75, 76, 77, 78, 79, 80, 81, 82, 83, 84, 85, 86, 87, 88, 89, 90]⟩ : ByteArray)).bind fun t107 => (some (t107.toList == ([] : List UInt8)))) else (some false))) = some r := h
  clear h
  by_cases c2 : a0.toList = ([] : List UInt8)
  · rw [if_pos c2] at H
    have c2b0 : (a0.toList == ([] : List UInt8)) = true := beq_iff_eq.mpr c2
    have c2b1 : (a0.toList != ([] : List UInt8)) = false := bne_eq_false_iff_eq.mpr c2
    clear c2
    obtain rfl := Option.some.inj H
    simp only [Option.some.injEq, Prod.mk.injEq] at H
    obtain ⟨rfl⟩ := H
    go_enter Tryd.func66, Tryd.ntmps66
    go_wp2
    go_ret
    exact ⟨by first | rfl | (simp [errW_none, errW_some] <;> rfl) | (simp [*, errW_none, errW_some] <;> rfl), by repeat (first | (with_reducible first | exact HB.out | apply below_alloc | apply pw_below_drewN | apply below_drew1) | exact HB.out)⟩
  · rw [if_neg c2] at H
    have c2b0 : (a0.toList == ([] : List UInt8)) = false := beq_eq_false_iff_ne.mpr c2
    have c2b1 : (a0.toList != ([] : List UInt8)) = true := bne_iff_ne.mpr c2
    by_cases c3 : (a0.size : Int) ≤ 30
    · rw [if_pos c3] at H
      have c3b0 : decide ((a0.size : Int) ≤ 30) = true := decide_eq_true c3
      have c3b1 : decide (a0.size ≤ 30) = true := decide_eq_true (by omega)
      clear c3
      replace H := Option.bind_eq_some_iff.mp H
      obtain ⟨t107, A40, H⟩ := H
      replace H : (some (t107.toList == ([] : List UInt8))) = some r := H
      have A4 := Aside0.mk A40
      clear A40
      obtain rfl := Option.some.inj H
      simp only [Option.some.injEq, Prod.mk.injEq] at H
      obtain ⟨rfl⟩ := H
      go_enter Tryd.func66, Tryd.ntmps66
      go_wp2_with (first | (go_at_call 106; (with_reducible refine (strings_Trim.calls a0 (⟨#[65, 66, 67, 68, 69, 70, 71, 72, 73, 74, 75, 76, 77, 78, 79, 80, 81, 82, 83, 84, 85, 86, 87, 88, 89, 90]⟩ : ByteArray) t107 _ A4.out).mono ?_); rintro e w5 ⟨rfl, hb⟩; have n0_ := Aside0.mk (below_step (by repeat (first | (with_reducible first | exact HB.out | apply below_alloc | apply pw_below_drewN | apply below_drew1) | exact HB.out)) hb); clear HB; have HB := n0_; clear n0_; (try clear hb); (try clear hb2); (try clear hk); (try clear hi)))
      go_ret
      exact ⟨by first | rfl | (simp [errW_none, errW_some] <;> rfl) | (simp [*, errW_none, errW_some] <;> rfl), by repeat (first | (with_reducible first | exact HB.out | apply below_alloc | apply pw_below_drewN | apply below_drew1) | exact HB.out)⟩
    · rw [if_neg c3] at H
      have c3b0 : decide ((a0.size : Int) ≤ 30) = false := decide_eq_false c3
      have c3b1 : decide (a0.size ≤ 30) = false := decide_eq_false (by omega)
      clear c3
      obtain rfl := Option.some.inj H
      simp only [Option.some.injEq, Prod.mk.injEq] at H
      obtain ⟨rfl⟩ := H
      go_enter Tryd.func66, Tryd.ntmps66
      go_wp2
      go_ret
      exact ⟨by first | rfl | (simp [errW_none, errW_some] <;> rfl) | (simp [*, errW_none, errW_some] <;> rfl), by repeat (first | (with_reducible first | exact HB.out | apply below_alloc | apply pw_below_drewN | apply below_drew1) | exact HB.out)⟩

/-! ### armor_wide: function 67 -/
def armor_wide.f (a0 : Int) : Option (Bool) := if a0 ≥ 4 then (if a0 ≤ 76 then (some ((Int.tmod a0 4) == 0)) else (some false)) else (some false)
set_option maxHeartbeats 8000000 in
set_option maxRecDepth 100000 in
theorem armor_wide.calls (a0 : Int) (r : Bool) (w : World) (h : armor_wide.f a0 = some r) :
    Calls Tryd.prog 67 #[.int .i64 a0] w fun e w' => e = .returned (.bool r) ∧ Drawn0 w w' := by
  have H : (if a0 ≥ 4 then (if a0 ≤ 76 then (some ((Int.tmod a0 4) == 0)) else (some false)) else (some false)) = some r := h
  clear h
  by_cases c2 : a0 ≥ 4
  · rw [if_pos c2] at H
    have c2b0 : decide (4 ≤ a0) = true := decide_eq_true c2
    clear c2
    by_cases c3 : a0 ≤ 76
    · rw [if_pos c3] at H
      have c3b0 : decide (a0 ≤ 76) = true := decide_eq_true c3
      clear c3
      obtain rfl := Option.some.inj H
      simp only [Option.some.injEq, Prod.mk.injEq] at H
      obtain ⟨rfl⟩ := H
      go_enter Tryd.func67, Tryd.ntmps67
      go_wp2
      go_ret
      exact ⟨by first | rfl | (simp; done) | (simp [*]; done), by repeat (first | exact Drawn0.refl _ | apply Drawn0.step)⟩
    · rw [if_neg c3] at H
      have c3b0 : decide (a0 ≤ 76) = false := decide_eq_false c3
      clear c3
      obtain rfl := Option.some.inj H
      simp only [Option.some.injEq, Prod.mk.injEq] at H
      obtain ⟨rfl⟩ := H
      go_enter Tryd.func67, Tryd.ntmps67
      go_wp2
      go_ret
      exact ⟨by first | rfl | (simp; done) | (simp [*]; done), by repeat (first | exact Drawn0.refl _ | apply Drawn0.step)⟩
  · rw [if_neg c2] at H
    have c2b0 : decide (4 ≤ a0) = false := decide_eq_false c2
    clear c2
    obtain rfl := Option.some.inj H
    simp only [Option.some.injEq, Prod.mk.injEq] at H
    obtain ⟨rfl⟩ := H
    go_enter Tryd.func67, Tryd.ntmps67
    go_wp2
    go_ret
    exact ⟨by first | rfl | (simp; done) | (simp [*]; done), by repeat (first | exact Drawn0.refl _ | apply Drawn0.step)⟩

/-! ### crc_shifted: function 174 -/
def crc_shifted.l0 : Nat → Int → Int → Int → Option (Int)
  | 0, _, _, _ => none
  | k + 1, x0, x5, x6 => if x6 < x5 then (crc_shifted.l0 k (Go.bits .xor .u32 (x0 / 2) (Go.bits .and .u32 3988292384 ((-(Go.bits .and .u32 x0 1)) % 4294967296))) x5 (wrap64 (x6 + 1))) else (some x0)
def crc_shifted.f (k : Nat) (a0 : Int) (a1 : Int) : Option (Int) := crc_shifted.l0 k a0 a1 0
theorem crc_shifted.mono_l : ∀ k, (∀ y0 y1 y2, LeO (crc_shifted.l0 k y0 y1 y2) (crc_shifted.l0 (k + 1) y0 y1 y2))
  | 0 => fun _ _ _ r h => by simp [crc_shifted.l0] at h
  | k + 1 => by
    have ih0 := crc_shifted.mono_l k
    · intro y0 y1 y2
      unfold crc_shifted.l0
      repeat' first
      | (with_reducible exact ih0 _ _ _)
      | (with_reducible exact LeO.refl _)
      | (with_reducible exact LeO.none _)
      | (with_reducible refine LeO.ite ?_ ?_)
      | (with_reducible refine LeO.bind ?_ (fun _ => ?_))
      | exact ih0 _ _ _
      | exact LeO.none _
      | refine LeO.ite ?_ ?_
      | refine LeO.bind ?_ (fun _ => ?_)
theorem crc_shifted.mono : ∀ a0 a1 k, LeO (crc_shifted.f k a0 a1) (crc_shifted.f (k + 1) a0 a1) := by
  intro a0 a1 k
  have ih0 := crc_shifted.mono_l k
  unfold crc_shifted.f
  repeat' first
      | (with_reducible exact ih0 _ _ _)
      | (with_reducible exact LeO.refl _)
      | (with_reducible exact LeO.none _)
      | (with_reducible refine LeO.ite ?_ ?_)
      | (with_reducible refine LeO.bind ?_ (fun _ => ?_))
      | exact ih0 _ _ _
      | exact LeO.none _
      | refine LeO.ite ?_ ?_
      | refine LeO.bind ?_ (fun _ => ?_)
set_option maxHeartbeats 8000000 in
set_option maxRecDepth 100000 in
theorem crc_shifted.calls (k : Nat) (a0 : Int) (a1 : Int) (r : Int) (w : World) (h : crc_shifted.f k a0 a1 = some r) :
    Calls Tryd.prog 174 #[.int .u32 a0, .int .i64 a1] w fun e w' => e = .returned (.int .u32 r) ∧ Drawn0 w w' := by
  have H : (crc_shifted.l0 k a0 a1 0) = some r := h
  clear h
  have H' := Aside0.mk H
  clear H
  go_enter Tryd.func174, Tryd.ntmps174
  go_wp2
  go_loopg [0, 6] k (fun kq v0 v6 w' => ∃ (x0_1 : Int) (x6_1 : Int), v0 = .int .u32 x0_1 ∧ v6 = .int .i64 x6_1 ∧ Aside0 (crc_shifted.l0 kq x0_1 a1 x6_1 = some r) ∧ Aside0 (kq ≤ k) ∧ Drawn0 w w')
  case atStart => exact ⟨(a0), (0), (by first | rfl | (simp; done) | (simp [*]; done)), (by first | rfl | (simp; done) | (simp [*]; done)), H', ⟨Nat.le_refl _⟩, by repeat (first | exact Drawn0.refl _ | apply Drawn0.step)⟩
  case round =>
    clear H'
    try clear c1
    try clear p2
    obtain ⟨x0_1, x6_1, rfl, rfl, HA, HK1, ⟨m1, rfl⟩⟩ := hrel
    cases gk with
    | zero => exact absurd HA.out (by simp [crc_shifted.l0])
    | succ k1 =>
      have H := HA.out
      clear HA
      simp only [crc_shifted.l0] at H
      by_cases c3 : x6_1 < a1
      · rw [if_pos c3] at H
        have c3b0 : decide (x6_1 < a1) = true := decide_eq_true c3
        clear c3
        have H' := Aside0.mk H
        clear H
        go_wp2
        go_roundg k1
        case measure => have := HK1.out; omega
        case rel => exact ⟨(Go.bits .xor .u32 (x0_1 / 2) (Go.bits .and .u32 3988292384 ((-(Go.bits .and .u32 x0_1 1)) % 4294967296))), (wrap64 (x6_1 + 1)), (by first | rfl | (simp; done) | (simp [*]; done)), (by first | rfl | (simp; done) | (simp [*]; done)), H', ⟨by have := HK1.out; omega⟩, by repeat (first | exact Drawn0.refl _ | apply Drawn0.step)⟩
      · rw [if_neg c3] at H
        have c3b0 : decide (x6_1 < a1) = false := decide_eq_false c3
        clear c3
        obtain rfl := Option.some.inj H
        simp only [Option.some.injEq, Prod.mk.injEq] at H
        obtain ⟨rfl⟩ := H
        go_wp2
        go_ret
        exact ⟨by first | rfl | (simp; done) | (simp [*]; done), by repeat (first | exact Drawn0.refl _ | apply Drawn0.step)⟩

end Go.Proofs.YtdaofffedfccmaaDoor.XArmorSigns
