/- Which lengths may be, and which code they make: the document's answer. It has no conditions. -/
import Derived.Test.YtiemjhoadobigaaYPrefix
import Derived.BigRegion
import Derived.RegionTactic
import Derived.ChangeAlike
import Derived.Deep.RegionWith
import Derived.Deep.RegionLaw
import Derived.Laws.Tables
import Derived.Deep.QuietTactic
import Derived.BigQuiet
import Derived.Deep.RegionHeld3
import Derived.Deep.AppendLies
import Derived.Deep.DrawnRows
import Derived.Laws.CopyOwn
import Derived.Deep.MidRow
import Derived.Laws.ResultCell
import Derived.ChangeKeysEq
namespace Go.Proofs.Ytiemjhoadobigaa.XPrefix
set_option linter.unusedVariables false
set_option linter.unusedSimpArgs false
open Go.RowKit Go.Proofs.YtiemjhoadobigaaW.PrintWords Go.Proofs.YtiemjhoadobigaaW.PrintLast Go.Proofs.YtiemjhoadobigaaW.PrintMore

open XPrefixReads
theorem w64 {x : Int} (h0 : -9223372036854775808 ≤ x) (h1 : x < 9223372036854775808) : wrap64 x = x := by unfold wrap64; omega

theorem right_l0 (l : List Int) (ok : OkL l) : ∀ d i : Nat, l.length - i = d → i ≤ l.length → Ev (fun k => montageref05_right.l0 k l (i : Int)) true := by
  have hl := ok.1
  intro d
  induction d with
  | zero =>
    intro i hd hi
    refine Ev.step (f := fun _ => some true) (fun k => ?_) (Ev.now _)
    simp only [montageref05_right.l0]
    rw [if_neg (by omega)]
  | succ d ih =>
    intro i hd hi
    have h := ok.2 i (by omega)
    refine Ev.step (f := fun k => montageref05_right.l0 k l ((i + 1 : Nat) : Int)) (fun k => ?_) (ih (i + 1) (by omega) (by omega))
    simp only [montageref05_right.l0]
    rw [if_pos (by omega), if_pos (by omega), if_neg (by omega), if_neg (by omega), w64 (by omega) (by omega)]
    rfl
theorem right_ok (l : List Int) (ok : OkL l) : Ev (fun k => montageref05_right.f k l) true := by
  have h := right_l0 l ok l.length 0 (by omega) (by omega)
  have hl := ok.1
  unfold montageref05_right.f
  simp only [if_neg (show ¬ (l.length : Int) > 288 by omega)]
  exact h
theorem right_bad (l : List Int) (no : ¬ OkL l) : Ev (fun k => montageref05_right.f k l) false := by
  by_cases hl : 288 < l.length
  · unfold montageref05_right.f
    simp only [if_pos (show (l.length : Int) > 288 by omega)]
    exact Ev.now _
  · have key : ∀ d i : Nat, l.length - i = d → i ≤ l.length → (∀ j : Nat, j < i → 0 ≤ rd l (j : Int) ∧ rd l (j : Int) ≤ 15) → Ev (fun k => montageref05_right.l0 k l (i : Int)) false := by
      intro d
      induction d with
      | zero =>
        intro i hd hi hj
        exact absurd ⟨by omega, fun j h => hj j (by omega)⟩ no
      | succ d ih =>
        intro i hd hi hj
        by_cases h0 : rd l (i : Int) < 0
        · refine Ev.step (f := fun _ => some false) (fun k => ?_) (Ev.now _)
          simp only [montageref05_right.l0]
          rw [if_pos (by omega), if_pos (by omega), if_pos h0]
        · by_cases h1 : rd l (i : Int) > 15
          · refine Ev.step (f := fun _ => some false) (fun k => ?_) (Ev.now _)
            simp only [montageref05_right.l0]
            rw [if_pos (by omega), if_pos (by omega), if_neg h0, if_pos h1]
          · refine Ev.step (f := fun k => montageref05_right.l0 k l ((i + 1 : Nat) : Int)) (fun k => ?_) (ih (i + 1) (by omega) (by omega) (fun j h => by
              by_cases e : j = i
              · subst e; omega
              · exact hj j (by omega)))
            simp only [montageref05_right.l0]
            rw [if_pos (by omega), if_pos (by omega), if_neg h0, if_neg h1, w64 (by omega) (by omega)]
            rfl
    have h := key l.length 0 (by omega) (by omega) (fun j h => absurd h (by omega))
    unfold montageref05_right.f
    simp only [if_neg (show ¬ (l.length : Int) > 288 by omega)]
    exact h

theorem lf_hit (c c' : Nat → Int) (a : Nat) (ha : 1 ≤ a) (h : ∀ j, c' j = c j + if j = a then 1 else 0) : ∀ n, lf c' n = lf c n - if a ≤ n then 2 ^ (n - a) else 0
  | 0 => by rw [if_neg (by omega)]; simp [lf]
  | n + 1 => by
    rw [lf, lf, lf_hit c c' a ha h n, h]
    by_cases e : n + 1 = a
    · subst e
      rw [if_neg (by omega), if_pos rfl, if_pos (Nat.le_refl _), Nat.sub_self]
      omega
    · rw [if_neg e]
      by_cases h2 : a ≤ n
      · rw [if_pos h2, if_pos (by omega), show n + 1 - a = (n - a) + 1 from by omega, Int.pow_succ]
        omega
      · rw [if_neg h2, if_neg (by omega)]
        omega
/-- The room that the first i symbols take, of 32768. -/
def fu (l : List Int) : Nat → Int
  | 0 => 0
  | i + 1 => fu l i + if rd l (i : Int) = 0 then 0 else 2 ^ (15 - (rd l (i : Int)).toNat)
theorem lf_fu (l : List Int) (ok : OkL l) : ∀ i, i ≤ l.length → lf (cnt l i) 15 = 32768 - fu l i
  | 0, _ => by
    have e : ∀ n, lf (cnt l 0) n = 2 ^ n := by
      intro n
      induction n with
      | zero => simp [lf]
      | succ n ih => rw [lf, ih, cnt, Int.pow_succ]; omega
    rw [e, fu]; rfl
  | i + 1, hi => by
    have h := ok.2 i (by omega)
    rw [fu]
    by_cases h0 : rd l (i : Int) = 0
    · rw [if_pos h0, Int.add_zero, ← lf_fu l ok i (by omega)]
      have : ∀ n, lf (cnt l (i + 1)) n = lf (cnt l i) n := by
        intro n
        induction n with
        | zero => rfl
        | succ n ih => rw [lf, lf, ih, cnt, h0, if_neg (by omega), Int.add_zero]
      exact this 15
    · rw [if_neg h0, lf_hit (cnt l i) (cnt l (i + 1)) (rd l (i : Int)).toNat (by omega) (fun j => by
        rw [cnt]
        by_cases e : j = (rd l (i : Int)).toNat
        · rw [if_pos e, if_pos (by omega)]
        · rw [if_neg e, if_neg (by omega)]) 15, if_pos (by omega), lf_fu l ok i (by omega)]
      omega
theorem lf_neg (c : Nat → Int) (hc : ∀ j, 0 ≤ c j) (j : Nat) (h : lf c j < 0) : ∀ d, lf c (j + d) < 0
  | 0 => h
  | d + 1 => by
    have := lf_neg c hc j h d
    have := hc (j + d + 1)
    rw [show j + (d + 1) = (j + d) + 1 from rfl, lf]
    omega

theorem chk_l1 (l : List Int) (x4 x5 : Int) (i : Nat) (r : Int × Int) (hi : i < l.length) (hl : l.length ≤ 288) (h4 : 0 ≤ x4 ∧ x4 ≤ 288 * 32768) (h5 : 0 ≤ x5 ∧ x5 ≤ 288) : ∀ (d : Nat) (x8 x9 : Int), x9 + d = 15 → 0 ≤ x9 → 0 ≤ x8 → x8 * 2 ^ d ≤ 32768 →
    Ev (fun k => montageref05_Check.l0 k l (x4 + x8 * 2 ^ d) (x5 + 1) (rd l (i : Int)) ((i + 1 : Nat) : Int)) r → Ev (fun k => montageref05_Check.l1 k l x4 x5 (i : Int) x8 x9) r
  | 0, x8, x9, h9, h90, h80, hb, h => by
    rw [Int.pow_zero, Int.mul_one] at hb h
    refine Ev.step (f := fun k => montageref05_Check.l0 k l (x4 + x8) (x5 + 1) (rd l (i : Int)) ((i + 1 : Nat) : Int)) (fun k => ?_) h
    simp only [montageref05_Check.l1]
    rw [if_neg (by omega), if_pos (by omega), if_pos (by omega), w64 (by omega) (by omega), w64 (by omega) (by omega), w64 (by omega) (by omega)]
    rfl
  | d + 1, x8, x9, h9, h90, h80, hb, h => by
    have e : x8 * 2 ^ (d + 1) = (2 * x8) * 2 ^ d := by rw [Int.pow_succ, Int.mul_comm 2 x8, Int.mul_assoc, Int.mul_comm (2 ^ d) 2]
    rw [e] at hb h
    have hp : (1 : Int) ≤ 2 ^ d := (show ∀ d : Nat, (1 : Int) ≤ 2 ^ d from fun d => by
      induction d with
      | zero => decide
      | succ d ih => rw [Int.pow_succ]; omega) d
    have hb2 : 2 * x8 ≤ 32768 := Int.le_trans (by have := Int.mul_le_mul_of_nonneg_left hp (show 0 ≤ 2 * x8 by omega); omega) hb
    refine Ev.step (f := fun k => montageref05_Check.l1 k l x4 x5 (i : Int) (2 * x8) (x9 + 1)) (fun k => ?_) (chk_l1 l x4 x5 i r hi hl h4 h5 d (2 * x8) (x9 + 1) (by omega) (by omega) (by omega) hb h)
    simp only [montageref05_Check.l1]
    rw [if_pos (by omega), w64 (by omega) (by omega), w64 (by omega) (by omega)]
/-- How many lengths are not zero, and the last of them. -/
def nz (l : List Int) : Nat → Int
  | 0 => 0
  | i + 1 => nz l i + if rd l (i : Int) = 0 then 0 else 1
def lst (l : List Int) : Nat → Int
  | 0 => 0
  | i + 1 => if rd l (i : Int) = 0 then lst l i else rd l (i : Int)
theorem nz_cnt (l : List Int) : ∀ i, nz l i = i - cnt l i 0
  | 0 => by simp [nz, cnt]
  | i + 1 => by
    rw [nz, cnt, nz_cnt l i]
    by_cases h : rd l (i : Int) = 0
    · rw [if_pos h, if_pos (by omega)]; omega
    · rw [if_neg h, if_neg (by omega)]; omega
theorem nz_zero (l : List Int) : ∀ i, 0 ≤ nz l i ∧ (nz l i = 0 → cnt l i 1 = 0) ∧ (nz l i = 1 → (lst l i = 1 ↔ cnt l i 1 = 1))
  | 0 => by simp [nz, cnt]
  | i + 1 => by
    obtain ⟨h0, h1, h2⟩ := nz_zero l i
    rw [nz, cnt, lst]
    by_cases h : rd l (i : Int) = 0
    · rw [if_pos h, if_neg (by omega), if_pos h, Int.add_zero, Int.add_zero]
      exact ⟨h0, h1, h2⟩
    · rw [if_neg h, if_neg h]
      refine ⟨by omega, by omega, fun e => ?_⟩
      rw [h1 (by omega)]
      by_cases h3 : rd l (i : Int) = ((1 : Nat) : Int)
      · rw [if_pos h3, h3]; simp
      · rw [if_neg h3]
        constructor
        · intro h4; exact absurd h4 (by omega)
        · intro h4; exact absurd h4 (by omega)

theorem pow15 (m : Nat) (hm : m ≤ 15) : (0 : Int) ≤ 2 ^ m ∧ (2 : Int) ^ m ≤ 32768 := by
  have : m = 0 ∨ m = 1 ∨ m = 2 ∨ m = 3 ∨ m = 4 ∨ m = 5 ∨ m = 6 ∨ m = 7 ∨ m = 8 ∨ m = 9 ∨ m = 10 ∨ m = 11 ∨ m = 12 ∨ m = 13 ∨ m = 14 ∨ m = 15 := by omega
  rcases this with rfl | rfl | rfl | rfl | rfl | rfl | rfl | rfl | rfl | rfl | rfl | rfl | rfl | rfl | rfl | rfl <;> decide
theorem fu_range (l : List Int) (ok : OkL l) : ∀ i, i ≤ l.length → 0 ≤ fu l i ∧ fu l i ≤ i * 32768
  | 0, _ => by simp [fu]
  | i + 1, hi => by
    have h := ok.2 i (by omega)
    have ih := fu_range l ok i (by omega)
    rw [fu]
    by_cases h0 : rd l (i : Int) = 0
    · rw [if_pos h0]; omega
    · rw [if_neg h0]
      have := pow15 (15 - (rd l (i : Int)).toNat) (by omega)
      omega
/-- What the document says of lengths that may be. -/
def docK (l : List Int) : Int × Int :=
  if nz l l.length = 0 then (2, 0) else if nz l l.length = 1 ∧ lst l l.length = 1 then (1, 0) else if fu l l.length = 32768 then (0, 0) else (0, 10)
theorem chk_l0 (l : List Int) (ok : OkL l) : ∀ d i : Nat, l.length - i = d → i ≤ l.length → Ev (fun k => montageref05_Check.l0 k l (fu l i) (nz l i) (lst l i) (i : Int)) (docK l) := by
  have hl := ok.1
  intro d
  induction d with
  | zero =>
    intro i hd hi
    have e : i = l.length := by omega
    subst e
    unfold docK
    by_cases h0 : nz l l.length = 0
    · rw [if_pos h0]
      refine Ev.step (f := fun _ => some (2, 0)) (fun k => ?_) (Ev.now _)
      simp only [montageref05_Check.l0]
      rw [if_neg (by omega), if_pos h0]
    · rw [if_neg h0]
      have hj : ∀ b : Bool, Ev (fun k => montageref05_Check.j2 k (fu l l.length) b) (if b = true then (1, 0) else if fu l l.length = 32768 then (0, 0) else (0, 10)) := by
        intro b
        refine Ev.step (f := fun _ => some (if b = true then (1, 0) else if fu l l.length = 32768 then (0, 0) else (0, 10))) (fun k => ?_) (Ev.now _)
        simp only [montageref05_Check.j2]
        split
        · rfl
        · split <;> rfl
      by_cases h1 : nz l l.length = 1
      · by_cases h2 : lst l l.length = 1
        · rw [if_pos ⟨h1, h2⟩]
          refine Ev.step (f := fun k => montageref05_Check.j2 k (fu l l.length) true) (fun k => ?_) (hj true)
          simp only [montageref05_Check.l0]
          rw [if_neg (by omega), if_neg h0, if_pos h1, h2]
          rfl
        · rw [if_neg (fun h => h2 h.2)]
          refine Ev.step (f := fun k => montageref05_Check.j2 k (fu l l.length) false) (fun k => ?_) (hj false)
          simp only [montageref05_Check.l0]
          rw [if_neg (by omega), if_neg h0, if_pos h1, beq_eq_false_iff_ne.mpr h2]
      · rw [if_neg (fun h => h1 h.1)]
        refine Ev.step (f := fun k => montageref05_Check.j2 k (fu l l.length) false) (fun k => ?_) (hj false)
        simp only [montageref05_Check.l0]
        rw [if_neg (by omega), if_neg h0, if_neg h1]
  | succ d ih =>
    intro i hd hi
    have h := ok.2 i (by omega)
    have hn := ih (i + 1) (by omega) (by omega)
    rw [fu, nz, lst] at hn
    by_cases h0 : rd l (i : Int) = 0
    · rw [if_pos h0, if_pos h0, if_pos h0, Int.add_zero, Int.add_zero] at hn
      refine Ev.step (f := fun k => montageref05_Check.l0 k l (fu l i) (nz l i) (lst l i) ((i + 1 : Nat) : Int)) (fun k => ?_) hn
      simp only [montageref05_Check.l0]
      rw [if_pos (by omega), if_pos (by omega), if_pos h0, w64 (by omega) (by omega)]
      rfl
    · rw [if_neg h0, if_neg h0, if_neg h0] at hn
      have hf := fu_range l ok i (by omega)
      have hz := nz_cnt l i
      have hc := cnt_range l i 0
      have hz0 := (nz_zero l i).1
      refine Ev.step (f := fun k => montageref05_Check.l1 k l (fu l i) (nz l i) (i : Int) 1 (rd l (i : Int))) (fun k => ?_) (chk_l1 l (fu l i) (nz l i) i _ (by omega) hl (by omega) (by omega) (15 - (rd l (i : Int)).toNat) 1 (rd l (i : Int)) (by omega) (by omega) (by omega) (by
        rw [Int.one_mul]
        have := pow15 (15 - (rd l (i : Int)).toNat) (by omega)
        omega) (by rw [Int.one_mul]; exact hn))
      simp only [montageref05_Check.l0]
      rw [if_pos (by omega), if_pos (by omega), if_neg h0]

theorem nz_fu (l : List Int) : ∀ i, (nz l i = 0 → fu l i = 0) ∧ (nz l i = 1 → lst l i = 1 → fu l i = 16384)
  | 0 => by simp [nz, fu]
  | i + 1 => by
    obtain ⟨h1, h2⟩ := nz_fu l i
    have h0 := (nz_zero l i).1
    rw [nz, fu, lst]
    by_cases h : rd l (i : Int) = 0
    · rw [if_pos h, if_pos h, if_pos h, Int.add_zero, Int.add_zero]
      exact ⟨h1, h2⟩
    · rw [if_neg h, if_neg h, if_neg h]
      refine ⟨by omega, fun e e1 => ?_⟩
      rw [h1 (by omega), e1]
      decide
theorem doc_of (l : List Int) (k e : Int) (h : KRes l k e) (ok : OkL l) : docK l = (k, e) := by
  have hz := nz_cnt l l.length
  have hzz := nz_zero l l.length
  have hf := nz_fu l l.length
  have hlf := lf_fu l ok l.length (Nat.le_refl _)
  unfold docK
  rcases h with ⟨no, _⟩ | ⟨_, ⟨j, hj, hneg⟩, rfl, rfl⟩ | ⟨_, hpos, h⟩
  · exact absurd ok no
  · have h15 := lf_neg (cnt l l.length) (fun j => (cnt_range l l.length j).1) j hneg (15 - j)
    rw [show j + (15 - j) = 15 from by omega, hlf] at h15
    rw [if_neg (fun h => by have := hf.1 h; omega), if_neg (fun h => by have := hf.2 h.1 h.2; omega), if_neg (by omega)]
  · rcases h with ⟨h0, rfl, rfl⟩ | ⟨h0, h1, h2, rfl, rfl⟩ | ⟨h0, h1, h2, rfl, rfl⟩ | ⟨h0, h1, h2, rfl, rfl⟩
    · rw [if_pos (by omega)]
    · have e1 : nz l l.length = 1 := by have : ¬ ¬ ((l.length : Int) - cnt l l.length 0 = 1) := h1; omega
      rw [if_neg (by omega), if_pos ⟨e1, (hzz.2.2 e1).2 h2⟩]
    · rw [if_neg (by omega), if_neg (fun h => by
        rcases h1 with h1 | h1
        · exact h1 (by have := h.1; omega)
        · exact h1 ((hzz.2.2 h.1).1 h.2)), if_neg (by omega)]
    · rw [if_neg (by omega), if_neg (fun h => by
        rcases h1 with h1 | h1
        · exact h1 (by have := h.1; omega)
        · exact h1 ((hzz.2.2 h.1).1 h.2)), if_pos (by omega)]

/-- The program's answer is the document's. -/
theorem check_same (l : List Int) (k e : Int) (h : KRes l k e) : Ev (fun q => montageref05_Check.f q l) (k, e) := by
  unfold montageref05_Check.f
  by_cases ok : OkL l
  · refine Ev.bind (right_ok l ok) ?_
    have hd := chk_l0 l ok l.length 0 (by omega) (by omega)
    rw [doc_of l k e h ok] at hd
    exact hd
  · refine Ev.bind (right_bad l ok) ?_
    rcases h with ⟨_, rfl, rfl⟩ | ⟨h, _⟩ | ⟨h, _⟩
    · exact Ev.now _
    · exact absurd h ok
    · exact absurd h ok

end Go.Proofs.Ytiemjhoadobigaa.XPrefix
