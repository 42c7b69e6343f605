-- Written by this session's own program wip/xprint.py: a changed copy of the kit's print.
import Derived.Test.YtdaofffedfccmaaDoorXArmorSignsx0
import Derived.Test.YtdaofffedfccmaaDoorXArmorSignsx1
namespace Go.Proofs.YtdaofffedfccmaaDoor.XArmorSigns
open Go.RowKit Go.Proofs.YtdaofffedfccmaaDoorW.PrintWords Go.Proofs.YtdaofffedfccmaaDoorW.PrintLast Go.Proofs.YtdaofffedfccmaaDoorW.PrintMore
attribute [local go_sem] max2_int min2_int max_two min_two max_three min_three max_four min_four   -- for this text's walks alone
set_option linter.unusedVariables false
set_option linter.unusedSimpArgs false

/-! ### armor_even: function 74 -/
def armor_even.l0 : Nat → List ByteArray → List ByteArray → Int → Int → Option (Bool)
  | 0, _, _, _, _ => none
  | k + 1, x0, x5, x6, x7 => if x7 < x6 then (if 0 ≤ x7 then (if x7 < (x5.length : Int) then (if (wrap64 (x7 + 1)) < (x0.length : Int) then (if 0 < (x0.length : Int) then (if ((rdOf ByteArray.empty x5 x7).size : Int) = ((rdOf ByteArray.empty x0 0).size : Int) then (if ((rdOf ByteArray.empty x5 x7).size : Int) > ((rdOf ByteArray.empty x0 0).size : Int) then (some false) else ((armor_wide.f ((rdOf ByteArray.empty x5 x7).size : Int)).bind fun t120 => (if t120 = true then (armor_even.l0 k x0 x5 x6 (wrap64 (x7 + 1))) else (some false)))) else (some false)) else (none)) else (if 0 < (x0.length : Int) then (if ((rdOf ByteArray.empty x5 x7).size : Int) > ((rdOf ByteArray.empty x0 0).size : Int) then (some false) else ((armor_wide.f ((rdOf ByteArray.empty x5 x7).size : Int)).bind fun t122 => (if t122 = true then (armor_even.l0 k x0 x5 x6 (wrap64 (x7 + 1))) else (some false)))) else (none))) else (none)) else (none)) else (some true)
def armor_even.f (k : Nat) (l0 : List ByteArray) : Option (Bool) := armor_even.l0 k l0 l0 (l0.length : Int) 0
theorem armor_even.mono_l : ∀ k, (∀ y0 y1 y2 y3, LeO (armor_even.l0 k y0 y1 y2 y3) (armor_even.l0 (k + 1) y0 y1 y2 y3))
  | 0 => fun _ _ _ _ r h => by simp [armor_even.l0] at h
  | k + 1 => by
    have ih0 := armor_even.mono_l k
    · intro y0 y1 y2 y3
      unfold armor_even.l0
      repeat' first
      | (with_reducible exact ih0 _ _ _ _)
      | (with_reducible exact LeO.refl _)
      | (with_reducible exact LeO.none _)
      | (with_reducible refine LeO.ite ?_ ?_)
      | (with_reducible refine LeO.bind ?_ (fun _ => ?_))
      | exact ih0 _ _ _ _
      | exact LeO.none _
      | refine LeO.ite ?_ ?_
      | refine LeO.bind ?_ (fun _ => ?_)
theorem armor_even.mono : ∀ a0 k, LeO (armor_even.f k a0) (armor_even.f (k + 1) a0) := by
  intro a0 k
  have ih0 := armor_even.mono_l k
  unfold armor_even.f
  repeat' first
      | (with_reducible exact ih0 _ _ _ _)
      | (with_reducible exact LeO.refl _)
      | (with_reducible exact LeO.none _)
      | (with_reducible refine LeO.ite ?_ ?_)
      | (with_reducible refine LeO.bind ?_ (fun _ => ?_))
      | exact ih0 _ _ _ _
      | exact LeO.none _
      | refine LeO.ite ?_ ?_
      | refine LeO.bind ?_ (fun _ => ?_)
set_option maxHeartbeats 8000000 in
set_option maxRecDepth 100000 in
theorem armor_even.calls (k : Nat) (A0 : Option Addr) (c0 : Nat) (l0 : List ByteArray) (r : Bool) (w : World) (hr0 : Kd.C Kd.string w A0 l0.length l0) (hc0 : l0.length ≤ c0) (h : armor_even.f k l0 = some r) :
    Calls Tryd.prog 74 #[.slice A0 l0.length c0] w fun e w' => e = .returned (.bool r) ∧ Drawn0 w w' := by
  have HR0 := Aside0.mk hr0
  have HC0 := Aside0.mk hc0
  clear hr0 hc0
  have H : (armor_even.l0 k l0 l0 (l0.length : Int) 0) = some r := h
  clear h
  have H' := Aside0.mk H
  clear H
  go_enter Tryd.func74, Tryd.ntmps74
  go_wp2
  go_loopg [7] k (fun kq v7 w' => ∃ (x7_1 : Int), v7 = .int .i64 x7_1 ∧ Aside0 (armor_even.l0 kq l0 l0 (l0.length : Int) x7_1 = some r) ∧ Aside0 (kq ≤ k) ∧ Drawn0 w w')
  case atStart => exact ⟨(0), (by first | rfl | (simp; done) | (simp [*]; done)), H', ⟨Nat.le_refl _⟩, by repeat (first | exact Drawn0.refl _ | apply Drawn0.step)⟩
  case round =>
    clear H'
    obtain ⟨x7_1, rfl, HA, HK1, ⟨m1, rfl⟩⟩ := hrel
    cases gk with
    | zero => exact absurd HA.out (by simp [armor_even.l0])
    | succ k1 =>
      have H := HA.out
      clear HA
      simp only [armor_even.l0] at H
      by_cases c2 : x7_1 < (l0.length : Int)
      · rw [if_pos c2] at H
        have c2b0 : decide (x7_1 < (l0.length : Int)) = true := decide_eq_true c2
        clear c2
        by_cases c3 : 0 ≤ x7_1
        · rw [if_pos c3] at H
          have c3b0 : decide (0 ≤ x7_1) = true := decide_eq_true c3
          clear c3
          by_cases c4 : x7_1 < (l0.length : Int)
          · rw [if_pos c4] at H
            have c4b0 : decide (x7_1 < (l0.length : Int)) = true := decide_eq_true c4
            clear c4
            by_cases c5 : (wrap64 (x7_1 + 1)) < (l0.length : Int)
            · rw [if_pos c5] at H
              have c5b0 : decide ((wrap64 (x7_1 + 1)) < (l0.length : Int)) = true := decide_eq_true c5
              clear c5
              by_cases c6 : 0 < (l0.length : Int)
              · rw [if_pos c6] at H
                have c6b0 : decide (0 < (l0.length : Int)) = true := decide_eq_true c6
                have c6b1 : decide (0 < l0.length) = true := decide_eq_true (by omega)
                clear c6
                by_cases c7 : ((rdOf ByteArray.empty l0 x7_1).size : Int) = ((rdOf ByteArray.empty l0 0).size : Int)
                · rw [if_pos c7] at H
                  have c7b0 : (((rdOf ByteArray.empty l0 x7_1).size : Int) == ((rdOf ByteArray.empty l0 0).size : Int)) = true := beq_iff_eq.mpr c7
                  have c7b1 : (((rdOf ByteArray.empty l0 x7_1).size : Int) != ((rdOf ByteArray.empty l0 0).size : Int)) = false := bne_eq_false_iff_eq.mpr c7
                  have c7b2 : ((rdOf ByteArray.empty l0 x7_1).size == (rdOf ByteArray.empty l0 0).size) = true := by first | simpa using c7 | (simp at c7 ⊢; omega)
                  clear c7
                  by_cases c8 : ((rdOf ByteArray.empty l0 x7_1).size : Int) > ((rdOf ByteArray.empty l0 0).size : Int)
                  · rw [if_pos c8] at H
                    have c8b0 : decide (((rdOf ByteArray.empty l0 0).size : Int) < ((rdOf ByteArray.empty l0 x7_1).size : Int)) = true := decide_eq_true c8
                    have c8b1 : decide ((rdOf ByteArray.empty l0 0).size < (rdOf ByteArray.empty l0 x7_1).size) = true := decide_eq_true (Int.ofNat_lt.mp c8)
                    clear c8
                    obtain rfl := Option.some.inj H
                    simp only [Option.some.injEq, Prod.mk.injEq] at H
                    obtain ⟨rfl⟩ := H
                    have p117 : 0 ≤ (x7_1 : Int) := of_decide_eq_true (by first | (with_reducible assumption) | assumption)
                    have q117 : x7_1 < (l0.length : Int) := of_decide_eq_true (by first | (with_reducible assumption) | assumption)
                    obtain ⟨ad117, e117, hx117_0⟩ := Kd.at_string HR0.out x7_1 p117 q117
                    cases e117
                    replace p117 := eq_true p117
                    replace q117 := eq_true q117
                    have p118 : 0 ≤ (0 : Int) := (by omega)
                    have q118 : 0 < (l0.length : Int) := of_decide_eq_true (by first | (with_reducible assumption) | assumption)
                    obtain ⟨ad118, e118, hx118_0⟩ := Kd.at_string HR0.out 0 p118 q118
                    obtain rfl : ad117 = ad118 := (by injection e118)
                    have qi118 : (0 < l0.length) = True := eq_true (by omega)
                    (try rw [show ((0 : Int)).toNat = 0 from rfl] at hx118_0)
                    (try rw [Addr.add_zero'] at hx118_0)
                    replace p118 := eq_true p118
                    replace q118 := eq_true q118
                    have p119 : 0 ≤ (0 : Int) := (by omega)
                    have q119 : 0 < (l0.length : Int) := of_decide_eq_true (by first | (with_reducible assumption) | assumption)
                    obtain ⟨ad119, e119, hx119_0⟩ := Kd.at_string HR0.out 0 p119 q119
                    obtain rfl : ad117 = ad119 := (by injection e119)
                    have qi119 : (0 < l0.length) = True := eq_true (by omega)
                    (try rw [show ((0 : Int)).toNat = 0 from rfl] at hx119_0)
                    (try rw [Addr.add_zero'] at hx119_0)
                    replace p119 := eq_true p119
                    replace q119 := eq_true q119
                    go_wp2
                    go_ret
                    exact ⟨by first | rfl | (simp; done) | (simp [*]; done), by repeat (first | exact Drawn0.refl _ | apply Drawn0.step)⟩
                  · rw [if_neg c8] at H
                    have c8b0 : decide (((rdOf ByteArray.empty l0 0).size : Int) < ((rdOf ByteArray.empty l0 x7_1).size : Int)) = false := decide_eq_false c8
                    have c8b1 : decide ((rdOf ByteArray.empty l0 0).size < (rdOf ByteArray.empty l0 x7_1).size) = false := decide_eq_false (fun h => c8 (Int.ofNat_lt.mpr h))
                    clear c8
                    replace H := Option.bind_eq_some_iff.mp H
                    obtain ⟨t120, A90, H⟩ := H
                    replace H : (if t120 = true then (armor_even.l0 k1 l0 l0 (l0.length : Int) (wrap64 (x7_1 + 1))) else (some false)) = some r := H
                    have A9 := Aside0.mk A90
                    clear A90
                    by_cases c10 : t120 = true
                    · subst c10
                      have H1 : (armor_even.l0 k1 l0 l0 (l0.length : Int) (wrap64 (x7_1 + 1))) = some r := by rw [if_pos rfl] at H; exact H
                      clear H
                      have H := H1
                      clear H1
                      have H' := Aside0.mk H
                      clear H
                      have p117 : 0 ≤ (x7_1 : Int) := of_decide_eq_true (by first | (with_reducible assumption) | assumption)
                      have q117 : x7_1 < (l0.length : Int) := of_decide_eq_true (by first | (with_reducible assumption) | assumption)
                      obtain ⟨ad117, e117, hx117_0⟩ := Kd.at_string HR0.out x7_1 p117 q117
                      cases e117
                      replace p117 := eq_true p117
                      replace q117 := eq_true q117
                      have p118 : 0 ≤ (0 : Int) := (by omega)
                      have q118 : 0 < (l0.length : Int) := of_decide_eq_true (by first | (with_reducible assumption) | assumption)
                      obtain ⟨ad118, e118, hx118_0⟩ := Kd.at_string HR0.out 0 p118 q118
                      obtain rfl : ad117 = ad118 := (by injection e118)
                      have qi118 : (0 < l0.length) = True := eq_true (by omega)
                      (try rw [show ((0 : Int)).toNat = 0 from rfl] at hx118_0)
                      (try rw [Addr.add_zero'] at hx118_0)
                      replace p118 := eq_true p118
                      replace q118 := eq_true q118
                      have p119 : 0 ≤ (0 : Int) := (by omega)
                      have q119 : 0 < (l0.length : Int) := of_decide_eq_true (by first | (with_reducible assumption) | assumption)
                      obtain ⟨ad119, e119, hx119_0⟩ := Kd.at_string HR0.out 0 p119 q119
                      obtain rfl : ad117 = ad119 := (by injection e119)
                      have qi119 : (0 < l0.length) = True := eq_true (by omega)
                      (try rw [show ((0 : Int)).toNat = 0 from rfl] at hx119_0)
                      (try rw [Addr.add_zero'] at hx119_0)
                      replace p119 := eq_true p119
                      replace q119 := eq_true q119
                      go_wp2_with (first | (go_at_call 67; (with_reducible refine (armor_wide.calls ((rdOf ByteArray.empty l0 x7_1).size : Int) true _ A9.out).mono ?_); rintro e w' ⟨rfl, ⟨nd, rfl⟩⟩))
                      go_roundg k1
                      case measure => have := HK1.out; omega
                      case rel => exact ⟨(wrap64 (x7_1 + 1)), (by first | rfl | (simp; done) | (simp [*]; done)), H', ⟨by have := HK1.out; omega⟩, by repeat (first | exact Drawn0.refl _ | apply Drawn0.step)⟩
                    · replace c10 := Bool.eq_false_iff.mpr c10
                      subst c10
                      have H1 : (some false) = some r := by rw [if_neg (show ¬ (false = true) by decide)] at H; exact H
                      clear H
                      have H := H1
                      clear H1
                      obtain rfl := Option.some.inj H
                      simp only [Option.some.injEq, Prod.mk.injEq] at H
                      obtain ⟨rfl⟩ := H
                      have p117 : 0 ≤ (x7_1 : Int) := of_decide_eq_true (by first | (with_reducible assumption) | assumption)
                      have q117 : x7_1 < (l0.length : Int) := of_decide_eq_true (by first | (with_reducible assumption) | assumption)
                      obtain ⟨ad117, e117, hx117_0⟩ := Kd.at_string HR0.out x7_1 p117 q117
                      cases e117
                      replace p117 := eq_true p117
                      replace q117 := eq_true q117
                      have p118 : 0 ≤ (0 : Int) := (by omega)
                      have q118 : 0 < (l0.length : Int) := of_decide_eq_true (by first | (with_reducible assumption) | assumption)
                      obtain ⟨ad118, e118, hx118_0⟩ := Kd.at_string HR0.out 0 p118 q118
                      obtain rfl : ad117 = ad118 := (by injection e118)
                      have qi118 : (0 < l0.length) = True := eq_true (by omega)
                      (try rw [show ((0 : Int)).toNat = 0 from rfl] at hx118_0)
                      (try rw [Addr.add_zero'] at hx118_0)
                      replace p118 := eq_true p118
                      replace q118 := eq_true q118
                      have p119 : 0 ≤ (0 : Int) := (by omega)
                      have q119 : 0 < (l0.length : Int) := of_decide_eq_true (by first | (with_reducible assumption) | assumption)
                      obtain ⟨ad119, e119, hx119_0⟩ := Kd.at_string HR0.out 0 p119 q119
                      obtain rfl : ad117 = ad119 := (by injection e119)
                      have qi119 : (0 < l0.length) = True := eq_true (by omega)
                      (try rw [show ((0 : Int)).toNat = 0 from rfl] at hx119_0)
                      (try rw [Addr.add_zero'] at hx119_0)
                      replace p119 := eq_true p119
                      replace q119 := eq_true q119
                      go_wp2_with (first | (go_at_call 67; (with_reducible refine (armor_wide.calls ((rdOf ByteArray.empty l0 x7_1).size : Int) false _ A9.out).mono ?_); rintro e w' ⟨rfl, ⟨nd, rfl⟩⟩))
                      go_ret
                      exact ⟨by first | rfl | (simp; done) | (simp [*]; done), by repeat (first | exact Drawn0.refl _ | apply Drawn0.step)⟩
                · rw [if_neg c7] at H
                  have c7b0 : (((rdOf ByteArray.empty l0 x7_1).size : Int) == ((rdOf ByteArray.empty l0 0).size : Int)) = false := beq_eq_false_iff_ne.mpr c7
                  have c7b1 : (((rdOf ByteArray.empty l0 x7_1).size : Int) != ((rdOf ByteArray.empty l0 0).size : Int)) = true := bne_iff_ne.mpr c7
                  have c7b2 : ((rdOf ByteArray.empty l0 x7_1).size == (rdOf ByteArray.empty l0 0).size) = false := by first | simpa using c7 | (simp at c7 ⊢; omega)
                  obtain rfl := Option.some.inj H
                  simp only [Option.some.injEq, Prod.mk.injEq] at H
                  obtain ⟨rfl⟩ := H
                  have p117 : 0 ≤ (x7_1 : Int) := of_decide_eq_true (by first | (with_reducible assumption) | assumption)
                  have q117 : x7_1 < (l0.length : Int) := of_decide_eq_true (by first | (with_reducible assumption) | assumption)
                  obtain ⟨ad117, e117, hx117_0⟩ := Kd.at_string HR0.out x7_1 p117 q117
                  cases e117
                  replace p117 := eq_true p117
                  replace q117 := eq_true q117
                  have p118 : 0 ≤ (0 : Int) := (by omega)
                  have q118 : 0 < (l0.length : Int) := of_decide_eq_true (by first | (with_reducible assumption) | assumption)
                  obtain ⟨ad118, e118, hx118_0⟩ := Kd.at_string HR0.out 0 p118 q118
                  obtain rfl : ad117 = ad118 := (by injection e118)
                  have qi118 : (0 < l0.length) = True := eq_true (by omega)
                  (try rw [show ((0 : Int)).toNat = 0 from rfl] at hx118_0)
                  (try rw [Addr.add_zero'] at hx118_0)
                  replace p118 := eq_true p118
                  replace q118 := eq_true q118
                  go_wp2
                  go_ret
                  exact ⟨by first | rfl | (simp; done) | (simp [*]; done), by repeat (first | exact Drawn0.refl _ | apply Drawn0.step)⟩
              · rw [if_neg c6] at H
                exact absurd H (by simp)
            · rw [if_neg c5] at H
              have c5b0 : decide ((wrap64 (x7_1 + 1)) < (l0.length : Int)) = false := decide_eq_false c5
              clear c5
              by_cases c11 : 0 < (l0.length : Int)
              · rw [if_pos c11] at H
                have c11b0 : decide (0 < (l0.length : Int)) = true := decide_eq_true c11
                have c11b1 : decide (0 < l0.length) = true := decide_eq_true (by omega)
                clear c11
                by_cases c12 : ((rdOf ByteArray.empty l0 x7_1).size : Int) > ((rdOf ByteArray.empty l0 0).size : Int)
                · rw [if_pos c12] at H
                  have c12b0 : decide (((rdOf ByteArray.empty l0 0).size : Int) < ((rdOf ByteArray.empty l0 x7_1).size : Int)) = true := decide_eq_true c12
                  have c12b1 : decide ((rdOf ByteArray.empty l0 0).size < (rdOf ByteArray.empty l0 x7_1).size) = true := decide_eq_true (Int.ofNat_lt.mp c12)
                  clear c12
                  obtain rfl := Option.some.inj H
                  simp only [Option.some.injEq, Prod.mk.injEq] at H
                  obtain ⟨rfl⟩ := H
                  have p117 : 0 ≤ (x7_1 : Int) := of_decide_eq_true (by first | (with_reducible assumption) | assumption)
                  have q117 : x7_1 < (l0.length : Int) := of_decide_eq_true (by first | (with_reducible assumption) | assumption)
                  obtain ⟨ad117, e117, hx117_0⟩ := Kd.at_string HR0.out x7_1 p117 q117
                  cases e117
                  replace p117 := eq_true p117
                  replace q117 := eq_true q117
                  have p121 : 0 ≤ (0 : Int) := (by omega)
                  have q121 : 0 < (l0.length : Int) := of_decide_eq_true (by first | (with_reducible assumption) | assumption)
                  obtain ⟨ad121, e121, hx121_0⟩ := Kd.at_string HR0.out 0 p121 q121
                  obtain rfl : ad117 = ad121 := (by injection e121)
                  have qi121 : (0 < l0.length) = True := eq_true (by omega)
                  (try rw [show ((0 : Int)).toNat = 0 from rfl] at hx121_0)
                  (try rw [Addr.add_zero'] at hx121_0)
                  replace p121 := eq_true p121
                  replace q121 := eq_true q121
                  go_wp2
                  go_ret
                  exact ⟨by first | rfl | (simp; done) | (simp [*]; done), by repeat (first | exact Drawn0.refl _ | apply Drawn0.step)⟩
                · rw [if_neg c12] at H
                  have c12b0 : decide (((rdOf ByteArray.empty l0 0).size : Int) < ((rdOf ByteArray.empty l0 x7_1).size : Int)) = false := decide_eq_false c12
                  have c12b1 : decide ((rdOf ByteArray.empty l0 0).size < (rdOf ByteArray.empty l0 x7_1).size) = false := decide_eq_false (fun h => c12 (Int.ofNat_lt.mpr h))
                  clear c12
                  replace H := Option.bind_eq_some_iff.mp H
                  obtain ⟨t122, A130, H⟩ := H
                  replace H : (if t122 = true then (armor_even.l0 k1 l0 l0 (l0.length : Int) (wrap64 (x7_1 + 1))) else (some false)) = some r := H
                  have A13 := Aside0.mk A130
                  clear A130
                  by_cases c14 : t122 = true
                  · subst c14
                    have H1 : (armor_even.l0 k1 l0 l0 (l0.length : Int) (wrap64 (x7_1 + 1))) = some r := by rw [if_pos rfl] at H; exact H
                    clear H
                    have H := H1
                    clear H1
                    have H' := Aside0.mk H
                    clear H
                    have p117 : 0 ≤ (x7_1 : Int) := of_decide_eq_true (by first | (with_reducible assumption) | assumption)
                    have q117 : x7_1 < (l0.length : Int) := of_decide_eq_true (by first | (with_reducible assumption) | assumption)
                    obtain ⟨ad117, e117, hx117_0⟩ := Kd.at_string HR0.out x7_1 p117 q117
                    cases e117
                    replace p117 := eq_true p117
                    replace q117 := eq_true q117
                    have p121 : 0 ≤ (0 : Int) := (by omega)
                    have q121 : 0 < (l0.length : Int) := of_decide_eq_true (by first | (with_reducible assumption) | assumption)
                    obtain ⟨ad121, e121, hx121_0⟩ := Kd.at_string HR0.out 0 p121 q121
                    obtain rfl : ad117 = ad121 := (by injection e121)
                    have qi121 : (0 < l0.length) = True := eq_true (by omega)
                    (try rw [show ((0 : Int)).toNat = 0 from rfl] at hx121_0)
                    (try rw [Addr.add_zero'] at hx121_0)
                    replace p121 := eq_true p121
                    replace q121 := eq_true q121
                    go_wp2_with (first | (go_at_call 67; (with_reducible refine (armor_wide.calls ((rdOf ByteArray.empty l0 x7_1).size : Int) true _ A13.out).mono ?_); rintro e w' ⟨rfl, ⟨nd, rfl⟩⟩))
                    go_roundg k1
                    case measure => have := HK1.out; omega
                    case rel => exact ⟨(wrap64 (x7_1 + 1)), (by first | rfl | (simp; done) | (simp [*]; done)), H', ⟨by have := HK1.out; omega⟩, by repeat (first | exact Drawn0.refl _ | apply Drawn0.step)⟩
                  · replace c14 := Bool.eq_false_iff.mpr c14
                    subst c14
                    have H1 : (some false) = some r := by rw [if_neg (show ¬ (false = true) by decide)] at H; exact H
                    clear H
                    have H := H1
                    clear H1
                    obtain rfl := Option.some.inj H
                    simp only [Option.some.injEq, Prod.mk.injEq] at H
                    obtain ⟨rfl⟩ := H
                    have p117 : 0 ≤ (x7_1 : Int) := of_decide_eq_true (by first | (with_reducible assumption) | assumption)
                    have q117 : x7_1 < (l0.length : Int) := of_decide_eq_true (by first | (with_reducible assumption) | assumption)
                    obtain ⟨ad117, e117, hx117_0⟩ := Kd.at_string HR0.out x7_1 p117 q117
                    cases e117
                    replace p117 := eq_true p117
                    replace q117 := eq_true q117
                    have p121 : 0 ≤ (0 : Int) := (by omega)
                    have q121 : 0 < (l0.length : Int) := of_decide_eq_true (by first | (with_reducible assumption) | assumption)
                    obtain ⟨ad121, e121, hx121_0⟩ := Kd.at_string HR0.out 0 p121 q121
                    obtain rfl : ad117 = ad121 := (by injection e121)
                    have qi121 : (0 < l0.length) = True := eq_true (by omega)
                    (try rw [show ((0 : Int)).toNat = 0 from rfl] at hx121_0)
                    (try rw [Addr.add_zero'] at hx121_0)
                    replace p121 := eq_true p121
                    replace q121 := eq_true q121
                    go_wp2_with (first | (go_at_call 67; (with_reducible refine (armor_wide.calls ((rdOf ByteArray.empty l0 x7_1).size : Int) false _ A13.out).mono ?_); rintro e w' ⟨rfl, ⟨nd, rfl⟩⟩))
                    go_ret
                    exact ⟨by first | rfl | (simp; done) | (simp [*]; done), by repeat (first | exact Drawn0.refl _ | apply Drawn0.step)⟩
              · rw [if_neg c11] at H
                exact absurd H (by simp)
          · rw [if_neg c4] at H
            exact absurd H (by simp)
        · rw [if_neg c3] at H
          exact absurd H (by simp)
      · rw [if_neg c2] at H
        have c2b0 : decide (x7_1 < (l0.length : Int)) = false := decide_eq_false c2
        clear c2
        obtain rfl := Option.some.inj H
        simp only [Option.some.injEq, Prod.mk.injEq] at H
        obtain ⟨rfl⟩ := H
        go_wp2
        go_ret
        exact ⟨by first | rfl | (simp; done) | (simp [*]; done), by repeat (first | exact Drawn0.refl _ | apply Drawn0.step)⟩

/-! ### strings_Join: function 75 -/
-- rounds: no making: yes
-- uses:
def strings_Join.f (l0 : List ByteArray) (a1 : ByteArray) : Option ByteArray := if l0.length ≤ 140737488355328 ∧ (Lib.join (l0.map (·.data.toList)) a1.data.toList).length ≤ 140737488355328 then some ⟨(Lib.join (l0.map (·.data.toList)) a1.data.toList).toArray⟩ else none
theorem strings_Join.calls (A0 : Option Addr) (c0 : Nat) (l0 : List ByteArray) (a1 : ByteArray) (r : ByteArray) (w : World) (hr0 : Kd.C Kd.string w A0 l0.length l0) (hc0 : l0.length ≤ c0) (h : strings_Join.f l0 a1 = some r) :
    Calls Tryd.prog 75 #[.slice A0 l0.length c0, .string a1] w fun e w' => e = .returned (.string r) ∧ Below w.heap.size w w' := by
  unfold strings_Join.f at h
  by_cases hc : l0.length ≤ 140737488355328 ∧ (Lib.join (l0.map (·.data.toList)) a1.data.toList).length ≤ 140737488355328
  · rw [if_pos hc] at h
    obtain rfl := Option.some.inj h
    by_cases hl : l0 = []
    · subst hl
      refine (Tryd.strings_Join_none A0 c0 a1 w).mono ?_
      rintro e w' ⟨rfl, rfl⟩
      exact ⟨rfl, Below.refl _ _⟩
    · have hp : 0 < l0.length := List.length_pos_iff.2 hl
      obtain ⟨ad, rfl, hcell⟩ := hr0.2.2 hp
      have hx : ∀ (j : Nat) x, l0[j]? = some x → w.cell? (ad.add j) = some (.string x) := by
        intro j x hj
        obtain ⟨cs, hcs, hk, hu⟩ := hcell j x hj
        have hk2 : cs = [.string x] := hk
        subst hk2
        have h0 := hu 0 (.string x) rfl
        rw [show j * Kd.string.sz + 0 = j from by show j * 1 + 0 = j; omega] at h0
        exact h0
      have h0 := hx 0 _ (List.getElem?_eq_getElem hp)
      have hsp : ad.spot = none := by
        rw [show ad.add 0 = ad from by unfold Addr.add; rw [if_pos rfl]] at h0
        unfold World.cell? at h0
        split at h0
        · by_cases hs : ad.spot.isSome = true
          · rw [if_pos hs] at h0; cases h0
          · simpa using hs
        · cases h0
      have ha : ∀ j, ad.add j = ⟨ad.block, ad.off + j, none⟩ := by
        intro j
        unfold Addr.add
        obtain ⟨b, o, s⟩ := ad
        have hs2 : s = none := hsp
        subst hs2
        split
        · rename_i e; subst e; rfl
        · rfl
      have hbk : ad.block < w.heap.size := by
        have := World.block_lt_of_cell? w _ h0
        rw [ha 0] at this
        exact this
      have hadd : ad = ⟨ad.block, ad.off, none⟩ := by
        have := ha 0
        rw [show ad.add 0 = ad from by unfold Addr.add; rw [if_pos rfl]] at this
        exact this
      have K := Tryd.strings_Join ad.block ad.off c0 l0 a1 w (fun j x hj => by rw [← ha j]; exact hx j x hj) hbk hc.1 hc0 hc.2
      rw [← hadd] at K
      exact K
  · rw [if_neg hc] at h
    cases h


end Go.Proofs.YtdaofffedfccmaaDoor.XArmorSigns
