-- Written by this session's own program wip/xprint.py: a changed copy of the kit's print.
import Derived.Test.YtdaofffedfccmaaDoorXArmorSignsx0
import Derived.Test.YtdaofffedfccmaaDoorXArmorSignsx2
import Derived.Test.YtdaofffedfccmaaDoorXArmorSignsx4
import Derived.Test.YtdaofffedfccmaaDoorXArmorSignsx5
import Derived.Test.YtdaofffedfccmaaDoorXArmorSignsx7
namespace Go.Proofs.YtdaofffedfccmaaDoor.XArmorSigns
open Go.RowKit Go.Proofs.YtdaofffedfccmaaDoorW.PrintWords Go.Proofs.YtdaofffedfccmaaDoorW.PrintLast Go.Proofs.YtdaofffedfccmaaDoorW.PrintMore
attribute [local go_sem] max2_int min2_int max_two min_two max_three min_three max_four min_four   -- for this text's walks alone
set_option linter.unusedVariables false
set_option linter.unusedSimpArgs false

/-! ### montageref42_Encode: function 28 -/
mutual
def montageref42_Encode.j0 : Nat → ByteArray → ByteArray → Int → Bool → Option (ByteArray × Int)
  | 0, _, _, _, _ => none
  | k + 1, x0, x1, x2, x26 => if x26 = true then (some ((⟨#[]⟩ : ByteArray), 1)) else (if (x0.size : Int) > 4194304 then (some ((⟨#[]⟩ : ByteArray), 7)) else (if 11 + x1.size ≤ 9223372036854775807 then (if ((⟨#[45, 45, 45, 45, 45, 66, 69, 71, 73, 78, 32]⟩ : ByteArray) ++ x1).size + 6 ≤ 9223372036854775807 then ((montageref42_Signs.f k x0).bind fun t201 => (montageref42_Encode.l0 k x0 x1 x2 (((⟨#[45, 45, 45, 45, 45, 66, 69, 71, 73, 78, 32]⟩ : ByteArray) ++ x1) ++ (⟨#[45, 45, 45, 45, 45, 10]⟩ : ByteArray)) t201)) else (none)) else (none)))
def montageref42_Encode.l0 : Nat → ByteArray → ByteArray → Int → ByteArray → ByteArray → Option (ByteArray × Int)
  | 0, _, _, _, _, _ => none
  | k + 1, x0, x1, x2, x8, x9 => if x9.toList = ([] : List UInt8) then ((montageref42_sum.f k x0).bind fun t202 => (if x8.size + t202.size ≤ 9223372036854775807 then (if (x8 ++ t202).size + 10 ≤ 9223372036854775807 then (if ((x8 ++ t202) ++ (⟨#[10, 45, 45, 45, 45, 45, 69, 78, 68, 32]⟩ : ByteArray)).size + x1.size ≤ 9223372036854775807 then (if (((x8 ++ t202) ++ (⟨#[10, 45, 45, 45, 45, 45, 69, 78, 68, 32]⟩ : ByteArray)) ++ x1).size + 6 ≤ 9223372036854775807 then (some ((((x8 ++ t202) ++ (⟨#[10, 45, 45, 45, 45, 45, 69, 78, 68, 32]⟩ : ByteArray)) ++ x1) ++ (⟨#[45, 45, 45, 45, 45, 10]⟩ : ByteArray), 0)) else (none)) else (none)) else (none)) else (none))) else (if 0 ≤ (mn x2 (x9.size : Int)) then (if (mn x2 (x9.size : Int)) ≤ (x9.size : Int) then (if x8.size + (x9.extract 0 ((mn x2 (x9.size : Int)) : Int).toNat).size ≤ 9223372036854775807 then (if (x8 ++ (x9.extract 0 ((mn x2 (x9.size : Int)) : Int).toNat)).size + 1 ≤ 9223372036854775807 then (montageref42_Encode.l0 k x0 x1 x2 ((x8 ++ (x9.extract 0 ((mn x2 (x9.size : Int)) : Int).toNat)) ++ (⟨#[10]⟩ : ByteArray)) (x9.extract ((mn x2 (x9.size : Int)) : Int).toNat x9.size)) else (none)) else (none)) else (none)) else (none))
end
def montageref42_Encode.f (k : Nat) (a0 : ByteArray) (a1 : ByteArray) (a2 : Int) : Option (ByteArray × Int) := (montageref42_name.f k a1).bind fun t200 => (if t200 = true then (if a2 < 4 then (montageref42_Encode.j0 k a0 a1 a2 true) else (if a2 > 76 then (montageref42_Encode.j0 k a0 a1 a2 true) else (montageref42_Encode.j0 k a0 a1 a2 ((Int.tmod a2 4) != 0)))) else (montageref42_Encode.j0 k a0 a1 a2 true))
theorem montageref42_Encode.mono_l : ∀ k, (∀ y0 y1 y2 y3, LeO (montageref42_Encode.j0 k y0 y1 y2 y3) (montageref42_Encode.j0 (k + 1) y0 y1 y2 y3)) ∧ (∀ y0 y1 y2 y3 y4, LeO (montageref42_Encode.l0 k y0 y1 y2 y3 y4) (montageref42_Encode.l0 (k + 1) y0 y1 y2 y3 y4))
  | 0 => ⟨fun _ _ _ _ r h => by simp [montageref42_Encode.j0] at h, fun _ _ _ _ _ r h => by simp [montageref42_Encode.l0] at h⟩
  | k + 1 => by
    obtain ⟨ih0, ih1⟩ := montageref42_Encode.mono_l k
    refine ⟨?_, ?_⟩
    · intro y0 y1 y2 y3
      unfold montageref42_Encode.j0
      repeat' first
      | (with_reducible exact ih0 _ _ _ _)
      | (with_reducible exact ih1 _ _ _ _ _)
      | (with_reducible exact montageref42_Signs.mono _ _)
      | (with_reducible exact montageref42_name.mono _ _)
      | (with_reducible exact montageref42_sum.mono _ _)
      | (with_reducible exact LeO.refl _)
      | (with_reducible exact LeO.none _)
      | (with_reducible refine LeO.ite ?_ ?_)
      | (with_reducible refine LeO.bind ?_ (fun _ => ?_))
      | exact ih0 _ _ _ _
      | exact ih1 _ _ _ _ _
      | exact montageref42_Signs.mono _ _
      | exact montageref42_name.mono _ _
      | exact montageref42_sum.mono _ _
      | exact LeO.none _
      | refine LeO.ite ?_ ?_
      | refine LeO.bind ?_ (fun _ => ?_)
    · intro y0 y1 y2 y3 y4
      unfold montageref42_Encode.l0
      repeat' first
      | (with_reducible exact ih0 _ _ _ _)
      | (with_reducible exact ih1 _ _ _ _ _)
      | (with_reducible exact montageref42_Signs.mono _ _)
      | (with_reducible exact montageref42_name.mono _ _)
      | (with_reducible exact montageref42_sum.mono _ _)
      | (with_reducible exact LeO.refl _)
      | (with_reducible exact LeO.none _)
      | (with_reducible refine LeO.ite ?_ ?_)
      | (with_reducible refine LeO.bind ?_ (fun _ => ?_))
      | exact ih0 _ _ _ _
      | exact ih1 _ _ _ _ _
      | exact montageref42_Signs.mono _ _
      | exact montageref42_name.mono _ _
      | exact montageref42_sum.mono _ _
      | exact LeO.none _
      | refine LeO.ite ?_ ?_
      | refine LeO.bind ?_ (fun _ => ?_)
theorem montageref42_Encode.mono : ∀ a0 a1 a2 k, LeO (montageref42_Encode.f k a0 a1 a2) (montageref42_Encode.f (k + 1) a0 a1 a2) := by
  intro a0 a1 a2 k
  obtain ⟨ih0, ih1⟩ := montageref42_Encode.mono_l k
  unfold montageref42_Encode.f
  repeat' first
      | (with_reducible exact ih0 _ _ _ _)
      | (with_reducible exact ih1 _ _ _ _ _)
      | (with_reducible exact montageref42_Signs.mono _ _)
      | (with_reducible exact montageref42_name.mono _ _)
      | (with_reducible exact montageref42_sum.mono _ _)
      | (with_reducible exact LeO.refl _)
      | (with_reducible exact LeO.none _)
      | (with_reducible refine LeO.ite ?_ ?_)
      | (with_reducible refine LeO.bind ?_ (fun _ => ?_))
      | exact ih0 _ _ _ _
      | exact ih1 _ _ _ _ _
      | exact montageref42_Signs.mono _ _
      | exact montageref42_name.mono _ _
      | exact montageref42_sum.mono _ _
      | exact LeO.none _
      | refine LeO.ite ?_ ?_
      | refine LeO.bind ?_ (fun _ => ?_)
set_option maxHeartbeats 8000000 in
set_option maxRecDepth 100000 in
theorem montageref42_Encode.calls (k : Nat) (a0 : ByteArray) (a1 : ByteArray) (a2 : Int) (r1 : ByteArray) (r2 : Int) (w : World) (h : montageref42_Encode.f k a0 a1 a2 = some (r1, r2)) :
    Calls Tryd.prog 28 #[.string a0, .string a1, .int .i64 a2] w fun e w' => e = .returned (.tuple #[.string r1, .int .i64 r2]) ∧ Below w.heap.size w w' := by
  have HB := Aside0.mk (Below.refl w.heap.size w)
  have H : ((montageref42_name.f k a1).bind fun t200 => (if t200 = true then (if a2 < 4 then (montageref42_Encode.j0 k a0 a1 a2 true) else (if a2 > 76 then (montageref42_Encode.j0 k a0 a1 a2 true) else (montageref42_Encode.j0 k a0 a1 a2 ((Int.tmod a2 4) != 0)))) else (montageref42_Encode.j0 k a0 a1 a2 true))) = some (r1, r2) := h
  clear h
  have HC4 := Aside0.mk H
  clear H
  go_enter Tryd.func28, Tryd.ntmps28
  go_upto_region 1 with (fail)
  go_cut [26] (fun v26 wc => ∃ (kq : Nat) (x26_3 : Bool), v26 = .bool x26_3 ∧ Aside0 (montageref42_Encode.j0 kq a0 a1 a2 x26_3 = some (r1, r2)) ∧ Aside0 (kq ≤ k) ∧ Aside0 (Below w.heap.size w wc))
  case first =>
    have H := HC4.out
    clear HC4
    replace H := Option.bind_eq_some_iff.mp H
    obtain ⟨t200, A50, H⟩ := H
    replace H : (if t200 = true then (if a2 < 4 then (montageref42_Encode.j0 k a0 a1 a2 true) else (if a2 > 76 then (montageref42_Encode.j0 k a0 a1 a2 true) else (montageref42_Encode.j0 k a0 a1 a2 ((Int.tmod a2 4) != 0)))) else (montageref42_Encode.j0 k a0 a1 a2 true)) = some (r1, r2) := H
    have A5 := Aside0.mk A50
    clear A50
    by_cases c6 : t200 = true
    · subst c6
      have H1 : (if a2 < 4 then (montageref42_Encode.j0 k a0 a1 a2 true) else (if a2 > 76 then (montageref42_Encode.j0 k a0 a1 a2 true) else (montageref42_Encode.j0 k a0 a1 a2 ((Int.tmod a2 4) != 0)))) = some (r1, r2) := by rw [if_pos rfl] at H; exact H
      clear H
      have H := H1
      clear H1
      by_cases c7 : a2 < 4
      · rw [if_pos c7] at H
        have c7b0 : decide (a2 < 4) = true := decide_eq_true c7
        clear c7
        (first | rw [c7b0] | (simp only [i64_w, i32_w]; rw [c7b0]) | skip)
        have H' := Aside0.mk H
        clear H
        go_wp2_with (first | ((with_reducible refine gate_callee (f := 69) rfl ?_); refine goesL_ (some 12) rfl rfl Tryd.func69 (by kernel_rfl) rfl #[.string a1] rfl (by (try simp only [List.map_toArray, List.map_cons, List.map_nil]); first | done | rfl | (simp only [List.length_drop, List.length_take]; rfl)) ?_; (with_reducible refine (montageref42_name.calls k a1 true _ A5.out).mono ?_); rintro e w' ⟨rfl, ⟨nd, rfl⟩⟩; refine ⟨_, rfl, ?_⟩))
        go_meet
        case rel => exact ⟨_, (true), (by first | rfl | (simp; done) | (simp [*]; done)), H', ⟨by first | omega | exact Nat.le_refl _⟩, ⟨by repeat (first | (with_reducible first | exact HB.out | apply below_alloc | apply pw_below_drewN | apply below_drew1) | exact HB.out)⟩⟩
      · rw [if_neg c7] at H
        have c7b0 : decide (a2 < 4) = false := decide_eq_false c7
        clear c7
        (first | rw [c7b0] | (simp only [i64_w, i32_w]; rw [c7b0]) | skip)
        by_cases c8 : a2 > 76
        · rw [if_pos c8] at H
          have c8b0 : decide (76 < a2) = true := decide_eq_true c8
          clear c8
          have H' := Aside0.mk H
          clear H
          go_wp2_with (first | ((with_reducible refine gate_callee (f := 69) rfl ?_); refine goesL_ (some 12) rfl rfl Tryd.func69 (by kernel_rfl) rfl #[.string a1] rfl (by (try simp only [List.map_toArray, List.map_cons, List.map_nil]); first | done | rfl | (simp only [List.length_drop, List.length_take]; rfl)) ?_; (with_reducible refine (montageref42_name.calls k a1 true _ A5.out).mono ?_); rintro e w' ⟨rfl, ⟨nd, rfl⟩⟩; refine ⟨_, rfl, ?_⟩))
          go_meet
          case rel => exact ⟨_, (true), (by first | rfl | (simp; done) | (simp [*]; done)), H', ⟨by first | omega | exact Nat.le_refl _⟩, ⟨by repeat (first | (with_reducible first | exact HB.out | apply below_alloc | apply pw_below_drewN | apply below_drew1) | exact HB.out)⟩⟩
        · rw [if_neg c8] at H
          have c8b0 : decide (76 < a2) = false := decide_eq_false c8
          clear c8
          have H' := Aside0.mk H
          clear H
          go_wp2_with (first | ((with_reducible refine gate_callee (f := 69) rfl ?_); refine goesL_ (some 12) rfl rfl Tryd.func69 (by kernel_rfl) rfl #[.string a1] rfl (by (try simp only [List.map_toArray, List.map_cons, List.map_nil]); first | done | rfl | (simp only [List.length_drop, List.length_take]; rfl)) ?_; (with_reducible refine (montageref42_name.calls k a1 true _ A5.out).mono ?_); rintro e w' ⟨rfl, ⟨nd, rfl⟩⟩; refine ⟨_, rfl, ?_⟩))
          go_meet
          case rel => exact ⟨_, (((Int.tmod a2 4) != 0)), (by first | rfl | (simp; done) | (simp [*]; done)), H', ⟨by first | omega | exact Nat.le_refl _⟩, ⟨by repeat (first | (with_reducible first | exact HB.out | apply below_alloc | apply pw_below_drewN | apply below_drew1) | exact HB.out)⟩⟩
    · replace c6 := Bool.eq_false_iff.mpr c6
      subst c6
      have H1 : (montageref42_Encode.j0 k a0 a1 a2 true) = some (r1, r2) := by rw [if_neg (show ¬ (false = true) by decide)] at H; exact H
      clear H
      have H := H1
      clear H1
      have H' := Aside0.mk H
      clear H
      go_wp2_with (first | ((with_reducible refine gate_callee (f := 69) rfl ?_); refine goesL_ (some 12) rfl rfl Tryd.func69 (by kernel_rfl) rfl #[.string a1] rfl (by (try simp only [List.map_toArray, List.map_cons, List.map_nil]); first | done | rfl | (simp only [List.length_drop, List.length_take]; rfl)) ?_; (with_reducible refine (montageref42_name.calls k a1 false _ A5.out).mono ?_); rintro e w' ⟨rfl, ⟨nd, rfl⟩⟩; refine ⟨_, rfl, ?_⟩))
      go_meet
      case rel => exact ⟨_, (true), (by first | rfl | (simp; done) | (simp [*]; done)), H', ⟨by first | omega | exact Nat.le_refl _⟩, ⟨by repeat (first | (with_reducible first | exact HB.out | apply below_alloc | apply pw_below_drewN | apply below_drew1) | exact HB.out)⟩⟩
  case rest =>
    clear HC4
    try clear c2
    try clear p2
    try clear c6
    try clear c7
    try clear c7b0
    try clear c8
    try clear c8b0
    obtain ⟨kq, x26_3, rfl, HA, HJ3, HB⟩ := hcut
    cases kq with
    | zero => exact absurd HA.out (by simp [montageref42_Encode.j0])
    | succ kj3 =>
      have H := HA.out
      clear HA
      simp only [montageref42_Encode.j0] at H
      by_cases c9 : x26_3 = true
      · subst c9
        have H1 : (some ((⟨#[]⟩ : ByteArray), 1)) = some (r1, r2) := by rw [if_pos rfl] at H; exact H
        clear H
        have H := H1
        clear H1
        simp only [Option.some.injEq, Prod.mk.injEq] at H
        obtain ⟨rfl, rfl⟩ := H
        go_wp2
        go_ret2
        exact ⟨by first | rfl | (simp [errW_none, errW_some] <;> rfl) | (simp [*, errW_none, errW_some] <;> rfl), by repeat (first | (with_reducible first | exact HB.out | apply below_alloc | apply pw_below_drewN | apply below_drew1) | exact HB.out)⟩
      · replace c9 := Bool.eq_false_iff.mpr c9
        subst c9
        have H1 : (if (a0.size : Int) > 4194304 then (some ((⟨#[]⟩ : ByteArray), 7)) else (if 11 + a1.size ≤ 9223372036854775807 then (if ((⟨#[45, 45, 45, 45, 45, 66, 69, 71, 73, 78, 32]⟩ : ByteArray) ++ a1).size + 6 ≤ 9223372036854775807 then ((montageref42_Signs.f kj3 a0).bind fun t201 => (montageref42_Encode.l0 kj3 a0 a1 a2 (((⟨#[45, 45, 45, 45, 45, 66, 69, 71, 73, 78, 32]⟩ : ByteArray) ++ a1) ++ (⟨#[45, 45, 45, 45, 45, 10]⟩ : ByteArray)) t201)) else (none)) else (none))) = some (r1, r2) := by rw [if_neg (show ¬ (false = true) by decide)] at H; exact H
        clear H
        have H := H1
        clear H1
        by_cases c10 : (a0.size : Int) > 4194304
        · rw [if_pos c10] at H
          have c10b0 : decide (4194304 < (a0.size : Int)) = true := decide_eq_true c10
          have c10b1 : decide (4194304 < a0.size) = true := decide_eq_true (by omega)
          clear c10
          simp only [Option.some.injEq, Prod.mk.injEq] at H
          obtain ⟨rfl, rfl⟩ := H
          go_wp2
          go_ret2
          exact ⟨by first | rfl | (simp [errW_none, errW_some] <;> rfl) | (simp [*, errW_none, errW_some] <;> rfl), by repeat (first | (with_reducible first | exact HB.out | apply below_alloc | apply pw_below_drewN | apply below_drew1) | exact HB.out)⟩
        · rw [if_neg c10] at H
          have c10b0 : decide (4194304 < (a0.size : Int)) = false := decide_eq_false c10
          have c10b1 : decide (4194304 < a0.size) = false := decide_eq_false (by omega)
          clear c10
          by_cases c11 : 11 + a1.size ≤ 9223372036854775807
          · rw [if_pos c11] at H
            have c11b0 := eq_true c11
            have c11b1 : decide (11 + a1.size ≤ 9223372036854775807) = true := decide_eq_true c11
            try have c11b2 : (9223372036854775807 < 11 + a1.size) = False := eq_false (Nat.not_lt.2 c11)
            by_cases c12 : ((⟨#[45, 45, 45, 45, 45, 66, 69, 71, 73, 78, 32]⟩ : ByteArray) ++ a1).size + 6 ≤ 9223372036854775807
            · rw [if_pos c12] at H
              have c12b0 := eq_true c12
              have c12b1 : decide (((⟨#[45, 45, 45, 45, 45, 66, 69, 71, 73, 78, 32]⟩ : ByteArray) ++ a1).size + 6 ≤ 9223372036854775807) = true := decide_eq_true c12
              try have c12b2 : (9223372036854775807 < ((⟨#[45, 45, 45, 45, 45, 66, 69, 71, 73, 78, 32]⟩ : ByteArray) ++ a1).size + 6) = False := eq_false (Nat.not_lt.2 c12)
              (try (have c12b3 := c12b2; simp only [ByteArray.size_append', show (⟨#[45, 45, 45, 45, 45, 66, 69, 71, 73, 78, 32]⟩ : ByteArray).size = 11 from rfl] at c12b3))
              replace H := Option.bind_eq_some_iff.mp H
              obtain ⟨t201, A130, H⟩ := H
              replace H : (montageref42_Encode.l0 kj3 a0 a1 a2 (((⟨#[45, 45, 45, 45, 45, 66, 69, 71, 73, 78, 32]⟩ : ByteArray) ++ a1) ++ (⟨#[45, 45, 45, 45, 45, 10]⟩ : ByteArray)) t201) = some (r1, r2) := H
              have A13 := Aside0.mk A130
              clear A130
              have H' := Aside0.mk H
              clear H
              go_wp2_with (first | ((with_reducible refine gate_callee (f := 26) rfl ?_); refine goesL_ (some 34) rfl rfl Tryd.func26 (by kernel_rfl) rfl #[.string a0] rfl (by (try simp only [List.map_toArray, List.map_cons, List.map_nil]); first | done | rfl | (simp only [List.length_drop, List.length_take]; rfl)) ?_; (with_reducible refine (montageref42_Signs.calls kj3 a0 t201 _ A13.out).mono ?_); rintro e w14 ⟨rfl, hb⟩; refine ⟨_, rfl, ?_⟩; have n0_ := Aside0.mk (below_step (by repeat (first | (with_reducible first | exact HB.out | apply below_alloc | apply pw_below_drewN | apply below_drew1) | exact HB.out)) hb); clear HB; have HB := n0_; clear n0_; (try clear hb); (try clear hb2); (try clear hk); (try clear hi)))
              go_loopg [8, 9] kj3 (fun kq v8 v9 w' => ∃ (x8_2 : ByteArray) (x9_2 : ByteArray), v8 = .string x8_2 ∧ v9 = .string x9_2 ∧ Aside0 (montageref42_Encode.l0 kq a0 a1 a2 x8_2 x9_2 = some (r1, r2)) ∧ Aside0 (kq ≤ kj3) ∧ Aside0 (Below w.heap.size w w'))
              case atStart => exact ⟨(((⟨#[45, 45, 45, 45, 45, 66, 69, 71, 73, 78, 32]⟩ : ByteArray) ++ a1) ++ (⟨#[45, 45, 45, 45, 45, 10]⟩ : ByteArray)), (t201), (by first | rfl | (simp; done) | (simp [*]; done)), (by first | rfl | (simp; done) | (simp [*]; done)), H', ⟨Nat.le_refl _⟩, ⟨by repeat (first | (with_reducible first | exact HB.out | apply below_alloc | apply pw_below_drewN | apply below_drew1) | exact HB.out)⟩⟩
              case round =>
                clear H'
                try clear c1
                try clear c2
                try clear p2
                try clear c6
                try clear c7
                try clear c7b0
                try clear c8
                try clear c8b0
                try clear c9
                try clear c10
                try clear c10b0
                try clear c10b1
                try clear c11
                try clear c11b0
                try clear c11b1
                try clear c11b2
                try clear c12
                try clear c12b0
                try clear c12b1
                try clear c12b2
                try clear p2
                obtain ⟨x8_2, x9_2, rfl, rfl, HA, HK2, HB⟩ := hrel
                cases gk with
                | zero => exact absurd HA.out (by simp [montageref42_Encode.l0])
                | succ k2 =>
                  have H := HA.out
                  clear HA
                  simp only [montageref42_Encode.l0] at H
                  by_cases c15 : x9_2.toList = ([] : List UInt8)
                  · rw [if_pos c15] at H
                    have c15b0 : (x9_2.toList == ([] : List UInt8)) = true := beq_iff_eq.mpr c15
                    have c15b1 : (x9_2.toList != ([] : List UInt8)) = false := bne_eq_false_iff_eq.mpr c15
                    clear c15
                    replace H := Option.bind_eq_some_iff.mp H
                    obtain ⟨t202, A160, H⟩ := H
                    replace H : (if x8_2.size + t202.size ≤ 9223372036854775807 then (if (x8_2 ++ t202).size + 10 ≤ 9223372036854775807 then (if ((x8_2 ++ t202) ++ (⟨#[10, 45, 45, 45, 45, 45, 69, 78, 68, 32]⟩ : ByteArray)).size + a1.size ≤ 9223372036854775807 then (if (((x8_2 ++ t202) ++ (⟨#[10, 45, 45, 45, 45, 45, 69, 78, 68, 32]⟩ : ByteArray)) ++ a1).size + 6 ≤ 9223372036854775807 then (some ((((x8_2 ++ t202) ++ (⟨#[10, 45, 45, 45, 45, 45, 69, 78, 68, 32]⟩ : ByteArray)) ++ a1) ++ (⟨#[45, 45, 45, 45, 45, 10]⟩ : ByteArray), 0)) else (none)) else (none)) else (none)) else (none)) = some (r1, r2) := H
                    have A16 := Aside0.mk A160
                    clear A160
                    by_cases c17 : x8_2.size + t202.size ≤ 9223372036854775807
                    · rw [if_pos c17] at H
                      have c17b0 := eq_true c17
                      have c17b1 : decide (x8_2.size + t202.size ≤ 9223372036854775807) = true := decide_eq_true c17
                      try have c17b2 : (9223372036854775807 < x8_2.size + t202.size) = False := eq_false (Nat.not_lt.2 c17)
                      by_cases c18 : (x8_2 ++ t202).size + 10 ≤ 9223372036854775807
                      · rw [if_pos c18] at H
                        have c18b0 := eq_true c18
                        have c18b1 : decide ((x8_2 ++ t202).size + 10 ≤ 9223372036854775807) = true := decide_eq_true c18
                        try have c18b2 : (9223372036854775807 < (x8_2 ++ t202).size + 10) = False := eq_false (Nat.not_lt.2 c18)
                        (try (have c18b3 := c18b2; simp only [ByteArray.size_append'] at c18b3))
                        by_cases c19 : ((x8_2 ++ t202) ++ (⟨#[10, 45, 45, 45, 45, 45, 69, 78, 68, 32]⟩ : ByteArray)).size + a1.size ≤ 9223372036854775807
                        · rw [if_pos c19] at H
                          have c19b0 := eq_true c19
                          have c19b1 : decide (((x8_2 ++ t202) ++ (⟨#[10, 45, 45, 45, 45, 45, 69, 78, 68, 32]⟩ : ByteArray)).size + a1.size ≤ 9223372036854775807) = true := decide_eq_true c19
                          try have c19b2 : (9223372036854775807 < ((x8_2 ++ t202) ++ (⟨#[10, 45, 45, 45, 45, 45, 69, 78, 68, 32]⟩ : ByteArray)).size + a1.size) = False := eq_false (Nat.not_lt.2 c19)
                          (try (have c19b3 := c19b2; simp only [ByteArray.size_append', show (⟨#[10, 45, 45, 45, 45, 45, 69, 78, 68, 32]⟩ : ByteArray).size = 10 from rfl] at c19b3))
                          by_cases c20 : (((x8_2 ++ t202) ++ (⟨#[10, 45, 45, 45, 45, 45, 69, 78, 68, 32]⟩ : ByteArray)) ++ a1).size + 6 ≤ 9223372036854775807
                          · rw [if_pos c20] at H
                            have c20b0 := eq_true c20
                            have c20b1 : decide ((((x8_2 ++ t202) ++ (⟨#[10, 45, 45, 45, 45, 45, 69, 78, 68, 32]⟩ : ByteArray)) ++ a1).size + 6 ≤ 9223372036854775807) = true := decide_eq_true c20
                            try have c20b2 : (9223372036854775807 < (((x8_2 ++ t202) ++ (⟨#[10, 45, 45, 45, 45, 45, 69, 78, 68, 32]⟩ : ByteArray)) ++ a1).size + 6) = False := eq_false (Nat.not_lt.2 c20)
                            (try (have c20b3 := c20b2; simp only [ByteArray.size_append', show (⟨#[10, 45, 45, 45, 45, 45, 69, 78, 68, 32]⟩ : ByteArray).size = 10 from rfl] at c20b3))
                            simp only [Option.some.injEq, Prod.mk.injEq] at H
                            obtain ⟨rfl, rfl⟩ := H
                            go_wp2_with (first | ((with_reducible refine gate_callee (f := 70) rfl ?_); refine goesL_ (some 52) rfl rfl Tryd.func70 (by kernel_rfl) rfl #[.string a0] rfl (by (try simp only [List.map_toArray, List.map_cons, List.map_nil]); first | done | rfl | (simp only [List.length_drop, List.length_take]; rfl)) ?_; (with_reducible refine (montageref42_sum.calls k2 a0 t202 _ A16.out).mono ?_); rintro e w21 ⟨rfl, hb⟩; refine ⟨_, rfl, ?_⟩; have n0_ := Aside0.mk (below_step (by repeat (first | (with_reducible first | exact HB.out | apply below_alloc | apply pw_below_drewN | apply below_drew1) | exact HB.out)) hb); clear HB; have HB := n0_; clear n0_; (try clear hb); (try clear hb2); (try clear hk); (try clear hi)))
                            go_ret2
                            exact ⟨by first | rfl | (simp [errW_none, errW_some] <;> rfl) | (simp [*, errW_none, errW_some] <;> rfl), by repeat (first | (with_reducible first | exact HB.out | apply below_alloc | apply pw_below_drewN | apply below_drew1) | exact HB.out)⟩
                          · rw [if_neg c20] at H
                            exact absurd H (by simp)
                        · rw [if_neg c19] at H
                          exact absurd H (by simp)
                      · rw [if_neg c18] at H
                        exact absurd H (by simp)
                    · rw [if_neg c17] at H
                      exact absurd H (by simp)
                  · rw [if_neg c15] at H
                    have c15b0 : (x9_2.toList == ([] : List UInt8)) = false := beq_eq_false_iff_ne.mpr c15
                    have c15b1 : (x9_2.toList != ([] : List UInt8)) = true := bne_iff_ne.mpr c15
                    obtain ⟨ji22, hji22⟩ : ∃ j_ : Int, (mn a2 (x9_2.size : Int)) = j_ := ⟨_, rfl⟩
                    replace H : (if 0 ≤ (ji22) then (if (ji22) ≤ (x9_2.size : Int) then (if x8_2.size + (x9_2.extract 0 ((ji22) : Int).toNat).size ≤ 9223372036854775807 then (if (x8_2 ++ (x9_2.extract 0 ((ji22) : Int).toNat)).size + 1 ≤ 9223372036854775807 then (montageref42_Encode.l0 k2 a0 a1 a2 ((x8_2 ++ (x9_2.extract 0 ((ji22) : Int).toNat)) ++ (⟨#[10]⟩ : ByteArray)) (x9_2.extract ((ji22) : Int).toNat x9_2.size)) else (none)) else (none)) else (none)) else (none)) = some (r1, r2) := by first | (rw [hji22] at H; exact H) | (simp only [hji22] at H ⊢; exact H)
                    have hji22_ : (if (x9_2.size : Int) < a2 then (x9_2.size : Int) else a2) = ji22 := hji22
                    by_cases c23 : 0 ≤ (ji22)
                    · rw [if_pos c23] at H
                      have c23b0 := eq_true c23
                      have c23b1 : decide (0 ≤ (ji22)) = true := decide_eq_true c23
                      clear c23
                      by_cases c24 : (ji22) ≤ (x9_2.size : Int)
                      · rw [if_pos c24] at H
                        have c24b0 := eq_true c24
                        have c24b1 : decide ((ji22) ≤ (x9_2.size : Int)) = true := decide_eq_true c24
                        clear c24
                        by_cases c25 : x8_2.size + (x9_2.extract 0 ((ji22) : Int).toNat).size ≤ 9223372036854775807
                        · rw [if_pos c25] at H
                          have c25b0 := eq_true c25
                          have c25b1 : decide (x8_2.size + (x9_2.extract 0 ((ji22) : Int).toNat).size ≤ 9223372036854775807) = true := decide_eq_true c25
                          try have c25b2 : (9223372036854775807 < x8_2.size + (x9_2.extract 0 ((ji22) : Int).toNat).size) = False := eq_false (Nat.not_lt.2 c25)
                          by_cases c26 : (x8_2 ++ (x9_2.extract 0 ((ji22) : Int).toNat)).size + 1 ≤ 9223372036854775807
                          · rw [if_pos c26] at H
                            have c26b0 := eq_true c26
                            have c26b1 : decide ((x8_2 ++ (x9_2.extract 0 ((ji22) : Int).toNat)).size + 1 ≤ 9223372036854775807) = true := decide_eq_true c26
                            try have c26b2 : (9223372036854775807 < (x8_2 ++ (x9_2.extract 0 ((ji22) : Int).toNat)).size + 1) = False := eq_false (Nat.not_lt.2 c26)
                            (try (have c26b3 := c26b2; simp only [ByteArray.size_append'] at c26b3))
                            (try (have c26b4 := c26b3; rw [show (x9_2.extract 0 ((ji22) : Int).toNat).size = ((ji22) : Int).toNat from by rw [ByteArray.size_extract]; have h_ : (ji22) ≤ (x9_2.size : Int) := of_decide_eq_true (by assumption); omega] at c26b4))
                            have c27b0 := eq_true (of_decide_eq_true (by first | (with_reducible assumption) | assumption) : 0 ≤ (ji22))
                            have c28b0 := eq_true (of_decide_eq_true (by first | (with_reducible assumption) | assumption) : (ji22) ≤ (x9_2.size : Int))
                            have H' := Aside0.mk H
                            clear H
                            go_wp2
                            go_roundg k2
                            case measure => have := HJ3.out; have := HK2.out; omega
                            case rel => exact ⟨((x8_2 ++ (x9_2.extract 0 ((ji22) : Int).toNat)) ++ (⟨#[10]⟩ : ByteArray)), (x9_2.extract ((ji22) : Int).toNat x9_2.size), (by first | rfl | (simp; done) | (simp only [← hji22] <;> (first | rfl | (simp; done) | (simp only [shl, shr, i64_w] <;> rfl))) | (simp [*]; done)), (by first | rfl | (simp; done) | (simp only [← hji22] <;> (first | rfl | (simp; done) | (simp only [shl, shr, i64_w] <;> rfl))) | (simp [*]; done)), H', ⟨by have := HJ3.out; have := HK2.out; omega⟩, ⟨by repeat (first | (with_reducible first | exact HB.out | apply below_alloc | apply pw_below_drewN | apply below_drew1) | exact HB.out)⟩⟩
                          · rw [if_neg c26] at H
                            exact absurd H (by simp)
                        · rw [if_neg c25] at H
                          exact absurd H (by simp)
                      · rw [if_neg c24] at H
                        exact absurd H (by simp)
                    · rw [if_neg c23] at H
                      exact absurd H (by simp)
            · rw [if_neg c12] at H
              exact absurd H (by simp)
          · rw [if_neg c11] at H
            exact absurd H (by simp)

/-! ### montagelaw42_ArmorBack: function 7 -/
mutual
def montagelaw42_ArmorBack.j0 : Nat → ByteArray → ByteArray → Int → Bool → Option (Bool)
  | 0, _, _, _, _ => none
  | k + 1, x0, x1, x2, x23 => if x23 = true then (some true) else ((armor_Encode.f x0 x1 x2).bind fun bt204 => ((montageref42_Encode.f k x0 x1 x2).bind fun bt206 => (if bt204.1.toList = bt206.1.toList then (montagelaw42_ArmorBack.j1 k x0 x1 bt204.1 bt206.2 (bt204.2 != bt206.2)) else (montagelaw42_ArmorBack.j1 k x0 x1 bt204.1 bt206.2 true))))
def montagelaw42_ArmorBack.j1 : Nat → ByteArray → ByteArray → ByteArray → Int → Bool → Option (Bool)
  | 0, _, _, _, _, _ => none
  | k + 1, x0, x1, x7, x10, x45 => if x45 = true then (some false) else (if x10 = 0 then ((armor_Decode.f k x7).bind fun bt208 => (if bt208.1.toList = x0.toList then (if bt208.2.1.toList = x1.toList then (some (bt208.2.2 == 0)) else (some false)) else (some false))) else (some true))
end
def montagelaw42_ArmorBack.f (k : Nat) (a0 : ByteArray) (a1 : ByteArray) (a2 : Int) : Option (Bool) := (montagelaw42_awake.f k).bind fun t203 => (if t203 = true then (if (a0.size : Int) > 300 then (montagelaw42_ArmorBack.j0 k a0 a1 a2 true) else (montagelaw42_ArmorBack.j0 k a0 a1 a2 (decide ((a1.size : Int) > 40)))) else (some false))
theorem montagelaw42_ArmorBack.mono_l : ∀ k, (∀ y0 y1 y2 y3, LeO (montagelaw42_ArmorBack.j0 k y0 y1 y2 y3) (montagelaw42_ArmorBack.j0 (k + 1) y0 y1 y2 y3)) ∧ (∀ y0 y1 y2 y3 y4, LeO (montagelaw42_ArmorBack.j1 k y0 y1 y2 y3 y4) (montagelaw42_ArmorBack.j1 (k + 1) y0 y1 y2 y3 y4))
  | 0 => ⟨fun _ _ _ _ r h => by simp [montagelaw42_ArmorBack.j0] at h, fun _ _ _ _ _ r h => by simp [montagelaw42_ArmorBack.j1] at h⟩
  | k + 1 => by
    obtain ⟨ih0, ih1⟩ := montagelaw42_ArmorBack.mono_l k
    refine ⟨?_, ?_⟩
    · intro y0 y1 y2 y3
      unfold montagelaw42_ArmorBack.j0
      repeat' first
      | (with_reducible exact ih0 _ _ _ _)
      | (with_reducible exact ih1 _ _ _ _ _)
      | (with_reducible exact armor_Decode.mono _ _)
      | (with_reducible exact montagelaw42_awake.mono _)
      | (with_reducible exact montageref42_Encode.mono _ _ _ _)
      | (with_reducible exact LeO.refl _)
      | (with_reducible exact LeO.none _)
      | (with_reducible refine LeO.ite ?_ ?_)
      | (with_reducible refine LeO.bind ?_ (fun _ => ?_))
      | exact ih0 _ _ _ _
      | exact ih1 _ _ _ _ _
      | exact armor_Decode.mono _ _
      | exact montagelaw42_awake.mono _
      | exact montageref42_Encode.mono _ _ _ _
      | exact LeO.none _
      | refine LeO.ite ?_ ?_
      | refine LeO.bind ?_ (fun _ => ?_)
    · intro y0 y1 y2 y3 y4
      unfold montagelaw42_ArmorBack.j1
      repeat' first
      | (with_reducible exact ih0 _ _ _ _)
      | (with_reducible exact ih1 _ _ _ _ _)
      | (with_reducible exact armor_Decode.mono _ _)
      | (with_reducible exact montagelaw42_awake.mono _)
      | (with_reducible exact montageref42_Encode.mono _ _ _ _)
      | (with_reducible exact LeO.refl _)
      | (with_reducible exact LeO.none _)
      | (with_reducible refine LeO.ite ?_ ?_)
      | (with_reducible refine LeO.bind ?_ (fun _ => ?_))
      | exact ih0 _ _ _ _
      | exact ih1 _ _ _ _ _
      | exact armor_Decode.mono _ _
      | exact montagelaw42_awake.mono _
      | exact montageref42_Encode.mono _ _ _ _
      | exact LeO.none _
      | refine LeO.ite ?_ ?_
      | refine LeO.bind ?_ (fun _ => ?_)
theorem montagelaw42_ArmorBack.mono : ∀ a0 a1 a2 k, LeO (montagelaw42_ArmorBack.f k a0 a1 a2) (montagelaw42_ArmorBack.f (k + 1) a0 a1 a2) := by
  intro a0 a1 a2 k
  obtain ⟨ih0, ih1⟩ := montagelaw42_ArmorBack.mono_l k
  unfold montagelaw42_ArmorBack.f
  repeat' first
      | (with_reducible exact ih0 _ _ _ _)
      | (with_reducible exact ih1 _ _ _ _ _)
      | (with_reducible exact armor_Decode.mono _ _)
      | (with_reducible exact montagelaw42_awake.mono _)
      | (with_reducible exact montageref42_Encode.mono _ _ _ _)
      | (with_reducible exact LeO.refl _)
      | (with_reducible exact LeO.none _)
      | (with_reducible refine LeO.ite ?_ ?_)
      | (with_reducible refine LeO.bind ?_ (fun _ => ?_))
      | exact ih0 _ _ _ _
      | exact ih1 _ _ _ _ _
      | exact armor_Decode.mono _ _
      | exact montagelaw42_awake.mono _
      | exact montageref42_Encode.mono _ _ _ _
      | exact LeO.none _
      | refine LeO.ite ?_ ?_
      | refine LeO.bind ?_ (fun _ => ?_)
set_option maxHeartbeats 8000000 in
set_option maxRecDepth 100000 in
theorem montagelaw42_ArmorBack.calls (k : Nat) (a0 : ByteArray) (a1 : ByteArray) (a2 : Int) (r : Bool) (w : World) (h : montagelaw42_ArmorBack.f k a0 a1 a2 = some r) (hr_ : Aside0 (r = true)) :
    Calls Tryd.prog 7 #[.string a0, .string a1, .int .i64 a2] w fun e w' => e = .returned (.bool r) ∧ Below w.heap.size w w' := by
  have HB := Aside0.mk (Below.refl w.heap.size w)
  have H : ((montagelaw42_awake.f k).bind fun t203 => (if t203 = true then (if (a0.size : Int) > 300 then (montagelaw42_ArmorBack.j0 k a0 a1 a2 true) else (montagelaw42_ArmorBack.j0 k a0 a1 a2 (decide ((a1.size : Int) > 40)))) else (some false))) = some r := h
  clear h
  replace H := Option.bind_eq_some_iff.mp H
  obtain ⟨t203, A40, H⟩ := H
  replace H : (if t203 = true then (if (a0.size : Int) > 300 then (montagelaw42_ArmorBack.j0 k a0 a1 a2 true) else (montagelaw42_ArmorBack.j0 k a0 a1 a2 (decide ((a1.size : Int) > 40)))) else (some false)) = some r := H
  have A4 := Aside0.mk A40
  clear A40
  by_cases c5 : t203 = true
  · subst c5
    have H1 : (if (a0.size : Int) > 300 then (montagelaw42_ArmorBack.j0 k a0 a1 a2 true) else (montagelaw42_ArmorBack.j0 k a0 a1 a2 (decide ((a1.size : Int) > 40)))) = some r := by rw [if_pos rfl] at H; exact H
    clear H
    have H := H1
    clear H1
    have HC6 := Aside0.mk H
    clear H
    go_enter Tryd.func7, Tryd.ntmps7
    go_upto_region 3 with (first | ((with_reducible refine gate_callee (f := 22) rfl ?_); refine goesL_ (some 14) rfl rfl Tryd.func22 (by kernel_rfl) rfl #[] rfl (by (try simp only [List.map_toArray, List.map_cons, List.map_nil]); first | done | rfl | (simp only [List.length_drop, List.length_take]; rfl)) ?_; (with_reducible refine (montagelaw42_awake.calls k  true _ A4.out ⟨rfl⟩).mono ?_); rintro e w7 ⟨rfl, hb⟩; refine ⟨_, rfl, ?_⟩; have n0_ := Aside0.mk (below_step (by repeat (first | (with_reducible first | exact HB.out | apply below_alloc | apply pw_below_drewN | apply below_drew1) | exact HB.out)) hb); clear HB; have HB := n0_; clear n0_; (try clear hb); (try clear hb2); (try clear hk); (try clear hi)))
    (try simp only [Act.put, List.setIfInBounds_toArray, List.set_cons_zero, List.set_cons_succ])
    go_cut [23] (fun v23 wc => ∃ (kq : Nat) (x23_5 : Bool), v23 = .bool x23_5 ∧ Aside0 (montagelaw42_ArmorBack.j0 kq a0 a1 a2 x23_5 = some r) ∧ Aside0 (kq ≤ k) ∧ Aside0 (Below w.heap.size w wc))
    case first =>
      have H := HC6.out
      clear HC6
      by_cases c8 : (a0.size : Int) > 300
      · rw [if_pos c8] at H
        have c8b0 : decide (300 < (a0.size : Int)) = true := decide_eq_true c8
        have c8b1 : decide (300 < a0.size) = true := decide_eq_true (by omega)
        clear c8
        (first | rw [c8b0] | (simp only [i64_w, i32_w]; rw [c8b0]) | skip)
        have H' := Aside0.mk H
        clear H
        go_wp2
        go_meet
        case rel => exact ⟨_, (true), (by first | rfl | (simp; done) | (simp [*]; done)), H', ⟨by first | omega | exact Nat.le_refl _⟩, ⟨by repeat (first | (with_reducible first | exact HB.out | apply below_alloc | apply pw_below_drewN | apply below_drew1) | exact HB.out)⟩⟩
      · rw [if_neg c8] at H
        have c8b0 : decide (300 < (a0.size : Int)) = false := decide_eq_false c8
        have c8b1 : decide (300 < a0.size) = false := decide_eq_false (by omega)
        clear c8
        (first | rw [c8b0] | (simp only [i64_w, i32_w]; rw [c8b0]) | skip)
        have H' := Aside0.mk H
        clear H
        go_wp2
        go_meet
        case rel => exact ⟨_, (decide ((a1.size : Int) > 40)), (by first | rfl | (simp; done) | (simp [*]; done)), H', ⟨by first | omega | exact Nat.le_refl _⟩, ⟨by repeat (first | (with_reducible first | exact HB.out | apply below_alloc | apply pw_below_drewN | apply below_drew1) | exact HB.out)⟩⟩
    case rest =>
      clear HC6
      try clear c2
      try clear p2
      try clear c5
      try clear c7
      try clear c8
      try clear c8b0
      try clear c8b1
      obtain ⟨kq, x23_5, rfl, HA, HJ5, HB⟩ := hcut
      cases kq with
      | zero => exact absurd HA.out (by simp [montagelaw42_ArmorBack.j0])
      | succ kj5 =>
        have H := HA.out
        clear HA
        simp only [montagelaw42_ArmorBack.j0] at H
        by_cases c9 : x23_5 = true
        · subst c9
          have H1 : (some true) = some r := by rw [if_pos rfl] at H; exact H
          clear H
          have H := H1
          clear H1
          obtain rfl := Option.some.inj H
          simp only [Option.some.injEq, Prod.mk.injEq] at H
          obtain ⟨rfl⟩ := H
          go_wp2
          go_ret
          exact ⟨by first | rfl | (simp [errW_none, errW_some] <;> rfl) | (simp [*, errW_none, errW_some] <;> rfl), by repeat (first | (with_reducible first | exact HB.out | apply below_alloc | apply pw_below_drewN | apply below_drew1) | exact HB.out)⟩
        · replace c9 := Bool.eq_false_iff.mpr c9
          subst c9
          have H1 : ((armor_Encode.f a0 a1 a2).bind fun bt204 => ((montageref42_Encode.f kj5 a0 a1 a2).bind fun bt206 => (if bt204.1.toList = bt206.1.toList then (montagelaw42_ArmorBack.j1 kj5 a0 a1 bt204.1 bt206.2 (bt204.2 != bt206.2)) else (montagelaw42_ArmorBack.j1 kj5 a0 a1 bt204.1 bt206.2 true)))) = some r := by rw [if_neg (show ¬ (false = true) by decide)] at H; exact H
          clear H
          have H := H1
          clear H1
          replace H := Option.bind_eq_some_iff.mp H
          obtain ⟨⟨t204, t205⟩, A100, H⟩ := H
          replace H : ((montageref42_Encode.f kj5 a0 a1 a2).bind fun bt206 => (if t204.toList = bt206.1.toList then (montagelaw42_ArmorBack.j1 kj5 a0 a1 t204 bt206.2 (t205 != bt206.2)) else (montagelaw42_ArmorBack.j1 kj5 a0 a1 t204 bt206.2 true))) = some r := H
          have A10 := Aside0.mk A100
          clear A100
          replace H := Option.bind_eq_some_iff.mp H
          obtain ⟨⟨t206, t207⟩, A110, H⟩ := H
          replace H : (if t204.toList = t206.toList then (montagelaw42_ArmorBack.j1 kj5 a0 a1 t204 t207 (t205 != t207)) else (montagelaw42_ArmorBack.j1 kj5 a0 a1 t204 t207 true)) = some r := H
          have A11 := Aside0.mk A110
          clear A110
          have HC12 := Aside0.mk H
          clear H
          go_upto_region 7 with (first | ((with_reducible refine gate_callee (f := 27) rfl ?_); refine goesL_ (some 28) rfl rfl Tryd.func27 (by kernel_rfl) rfl #[.string a0, .string a1, .int .i64 a2] rfl (by (try simp only [List.map_toArray, List.map_cons, List.map_nil]); first | done | rfl | (simp only [List.length_drop, List.length_take]; rfl)) ?_; (with_reducible refine (armor_Encode.calls a0 a1 a2 t204 t205 _ A10.out).mono ?_); rintro e w13 ⟨rfl, hb⟩; refine ⟨_, rfl, ?_⟩; have n0_ := Aside0.mk (below_step (by repeat (first | (with_reducible first | exact HB.out | apply below_alloc | apply pw_below_drewN | apply below_drew1) | exact HB.out)) hb); clear HB; have HB := n0_; clear n0_; (try clear hb); (try clear hb2); (try clear hk); (try clear hi)) | ((with_reducible refine gate_callee (f := 28) rfl ?_); refine goesL_ (some 35) rfl rfl Tryd.func28 (by kernel_rfl) rfl #[.string a0, .string a1, .int .i64 a2] rfl (by (try simp only [List.map_toArray, List.map_cons, List.map_nil]); first | done | rfl | (simp only [List.length_drop, List.length_take]; rfl)) ?_; (with_reducible refine (montageref42_Encode.calls kj5 a0 a1 a2 t206 t207 _ A11.out).mono ?_); rintro e w14 ⟨rfl, hb⟩; refine ⟨_, rfl, ?_⟩; have n0_ := Aside0.mk (below_step (by repeat (first | (with_reducible first | exact HB.out | apply below_alloc | apply pw_below_drewN | apply below_drew1) | exact HB.out)) hb); clear HB; have HB := n0_; clear n0_; (try clear hb); (try clear hb2); (try clear hk); (try clear hi)))
          (try simp only [Act.put, List.setIfInBounds_toArray, List.set_cons_zero, List.set_cons_succ])
          go_cut [45] (fun v45 wc => ∃ (kq : Nat) (x45_11 : Bool), v45 = .bool x45_11 ∧ Aside0 (montagelaw42_ArmorBack.j1 kq a0 a1 t204 t207 x45_11 = some r) ∧ Aside0 (kq ≤ kj5) ∧ Aside0 (Below w.heap.size w wc))
          case first =>
            have H := HC12.out
            clear HC12
            by_cases c15 : t204.toList = t206.toList
            · rw [if_pos c15] at H
              have c15b0 : (t204.toList == t206.toList) = true := beq_iff_eq.mpr c15
              have c15b1 : (t204.toList != t206.toList) = false := bne_eq_false_iff_eq.mpr c15
              clear c15
              (first | rw [c15b0] | (simp only [i64_w, i32_w]; rw [c15b0]) | skip)
              have H' := Aside0.mk H
              clear H
              go_wp2
              go_meet
              case rel => exact ⟨_, ((t205 != t207)), (by first | rfl | (simp; done) | (simp [*]; done)), H', ⟨by have := HJ5.out; first | omega | exact Nat.le_refl _⟩, ⟨by repeat (first | (with_reducible first | exact HB.out | apply below_alloc | apply pw_below_drewN | apply below_drew1) | exact HB.out)⟩⟩
            · rw [if_neg c15] at H
              have c15b0 : (t204.toList == t206.toList) = false := beq_eq_false_iff_ne.mpr c15
              have c15b1 : (t204.toList != t206.toList) = true := bne_iff_ne.mpr c15
              (first | rw [c15b0] | (simp only [i64_w, i32_w]; rw [c15b0]) | skip)
              have H' := Aside0.mk H
              clear H
              go_wp2
              go_meet
              case rel => exact ⟨_, (true), (by first | rfl | (simp; done) | (simp [*]; done)), H', ⟨by have := HJ5.out; first | omega | exact Nat.le_refl _⟩, ⟨by repeat (first | (with_reducible first | exact HB.out | apply below_alloc | apply pw_below_drewN | apply below_drew1) | exact HB.out)⟩⟩
          case rest =>
            clear HC12
            try clear c1
            try clear c2
            try clear p2
            try clear c5
            try clear c7
            try clear c8
            try clear c8b0
            try clear c8b1
            try clear c9
            try clear c15
            try clear c15b0
            try clear c15b1
            try clear p2
            obtain ⟨kq, x45_11, rfl, HA, HJ11, HB⟩ := hcut
            cases kq with
            | zero => exact absurd HA.out (by simp [montagelaw42_ArmorBack.j1])
            | succ kj11 =>
              have H := HA.out
              clear HA
              simp only [montagelaw42_ArmorBack.j1] at H
              by_cases c16 : x45_11 = true
              · subst c16
                have H1 : (some false) = some r := by rw [if_pos rfl] at H; exact H
                clear H
                have H := H1
                clear H1
                obtain rfl := Option.some.inj H
                cases hr_.out
              · replace c16 := Bool.eq_false_iff.mpr c16
                subst c16
                have H1 : (if t207 = 0 then ((armor_Decode.f kj11 t204).bind fun bt208 => (if bt208.1.toList = a0.toList then (if bt208.2.1.toList = a1.toList then (some (bt208.2.2 == 0)) else (some false)) else (some false))) else (some true)) = some r := by rw [if_neg (show ¬ (false = true) by decide)] at H; exact H
                clear H
                have H := H1
                clear H1
                by_cases c17 : t207 = 0
                · rw [if_pos c17] at H
                  have c17b0 : (t207 == 0) = true := beq_iff_eq.mpr c17
                  have c17b1 : (t207 != 0) = false := bne_eq_false_iff_eq.mpr c17
                  clear c17
                  replace H := Option.bind_eq_some_iff.mp H
                  obtain ⟨⟨t208, t209, t210⟩, A180, H⟩ := H
                  replace H : (if t208.toList = a0.toList then (if t209.toList = a1.toList then (some (t210 == 0)) else (some false)) else (some false)) = some r := H
                  have A18 := Aside0.mk A180
                  clear A180
                  by_cases c19 : t208.toList = a0.toList
                  · rw [if_pos c19] at H
                    have c19b0 : (t208.toList == a0.toList) = true := beq_iff_eq.mpr c19
                    have c19b1 : (t208.toList != a0.toList) = false := bne_eq_false_iff_eq.mpr c19
                    clear c19
                    by_cases c20 : t209.toList = a1.toList
                    · rw [if_pos c20] at H
                      have c20b0 : (t209.toList == a1.toList) = true := beq_iff_eq.mpr c20
                      have c20b1 : (t209.toList != a1.toList) = false := bne_eq_false_iff_eq.mpr c20
                      clear c20
                      obtain rfl := Option.some.inj H
                      simp only [Option.some.injEq, Prod.mk.injEq] at H
                      obtain ⟨rfl⟩ := H
                      go_wp2_with (first | ((with_reducible refine gate_callee (f := 29) rfl ?_); refine goesL_ (some 50) rfl rfl Tryd.func29 (by kernel_rfl) rfl #[.string t204] rfl (by (try simp only [List.map_toArray, List.map_cons, List.map_nil]); first | done | rfl | (simp only [List.length_drop, List.length_take]; rfl)) ?_; (with_reducible refine (armor_Decode.calls kj11 t204 t208 t209 t210 _ A18.out).mono ?_); rintro e w21 ⟨rfl, hb⟩; refine ⟨_, rfl, ?_⟩; have n0_ := Aside0.mk (below_step (by repeat (first | (with_reducible first | exact HB.out | apply below_alloc | apply pw_below_drewN | apply below_drew1) | exact HB.out)) hb); clear HB; have HB := n0_; clear n0_; (try clear hb); (try clear hb2); (try clear hk); (try clear hi)))
                      go_ret
                      exact ⟨by first | rfl | (simp [errW_none, errW_some] <;> rfl) | (simp [*, errW_none, errW_some] <;> rfl), by repeat (first | (with_reducible first | exact HB.out | apply below_alloc | apply pw_below_drewN | apply below_drew1) | exact HB.out)⟩
                    · rw [if_neg c20] at H
                      have c20b0 : (t209.toList == a1.toList) = false := beq_eq_false_iff_ne.mpr c20
                      have c20b1 : (t209.toList != a1.toList) = true := bne_iff_ne.mpr c20
                      obtain rfl := Option.some.inj H
                      cases hr_.out
                  · rw [if_neg c19] at H
                    have c19b0 : (t208.toList == a0.toList) = false := beq_eq_false_iff_ne.mpr c19
                    have c19b1 : (t208.toList != a0.toList) = true := bne_iff_ne.mpr c19
                    obtain rfl := Option.some.inj H
                    cases hr_.out
                · rw [if_neg c17] at H
                  have c17b0 : (t207 == 0) = false := beq_eq_false_iff_ne.mpr c17
                  have c17b1 : (t207 != 0) = true := bne_iff_ne.mpr c17
                  obtain rfl := Option.some.inj H
                  simp only [Option.some.injEq, Prod.mk.injEq] at H
                  obtain ⟨rfl⟩ := H
                  go_wp2
                  go_ret
                  exact ⟨by first | rfl | (simp [errW_none, errW_some] <;> rfl) | (simp [*, errW_none, errW_some] <;> rfl), by repeat (first | (with_reducible first | exact HB.out | apply below_alloc | apply pw_below_drewN | apply below_drew1) | exact HB.out)⟩
  · replace c5 := Bool.eq_false_iff.mpr c5
    subst c5
    have H1 : (some false) = some r := by rw [if_neg (show ¬ (false = true) by decide)] at H; exact H
    clear H
    have H := H1
    clear H1
    obtain rfl := Option.some.inj H
    cases hr_.out

/-- THE ONE PURE STATEMENT of montagelaw42_ArmorBack: yours. -/
def montagelaw42_ArmorBack.Pure : Prop := ∀ (a0 : ByteArray) (a1 : ByteArray) (a2 : Int), a0.size ≤ 140737488351232 → a1.size ≤ 140737488351232 → (Lit.int .i64 a2).wf = true → ∃ k, montagelaw42_ArmorBack.f k a0 a1 a2 = some true
theorem montagelaw42_ArmorBack.walk (P : montagelaw42_ArmorBack.Pure) (a0 : ByteArray) (a1 : ByteArray) (a2 : Int) (w : World) (w0 : a0.size ≤ 140737488351232) (w1 : a1.size ≤ 140737488351232) (w2 : (Lit.int .i64 a2).wf = true) :
    Calls Tryd.prog 7 #[.string a0, .string a1, .int .i64 a2] w fun e w' => e = .returned (.bool true) ∧ Below w.heap.size w w' := by
  obtain ⟨k, h⟩ := P a0 a1 a2 w0 w1 w2
  refine (montagelaw42_ArmorBack.calls k a0 a1 a2 true w h ⟨rfl⟩).mono ?_
  rintro e w' ⟨rfl, hd⟩
  exact ⟨rfl, hd⟩

end Go.Proofs.YtdaofffedfccmaaDoor.XArmorSigns
