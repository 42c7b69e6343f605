/- What symbols of tokens say. It has no conditions. -/
import Derived.Test.YtmanmjjjepdhlaaYNum
import Derived.BigRegion
import Derived.RegionTactic
import Derived.ChangeAlike
import Derived.Deep.RegionWith
import Derived.Deep.RegionLaw
import Derived.Laws.Tables
import Derived.Deep.QuietTactic
import Derived.BigQuiet
import Derived.Deep.RegionHeld3
import Derived.Deep.AppendLies
import Derived.Deep.DrawnRows
import Derived.Laws.CopyOwn
import Derived.Deep.MidRow
import Derived.Laws.ResultCell
import Derived.ChangeKeysEq
import Derived.Laws.BitsAllLaws
namespace Go.Proofs.Ytmanmjjjepdhlaa.XTok
set_option linter.unusedVariables false
set_option linter.unusedSimpArgs false
open Go.RowKit Go.Proofs.YtmanmjjjepdhlaaW.PrintWords Go.Proofs.YtmanmjjjepdhlaaW.PrintLast Go.Proofs.YtmanmjjjepdhlaaW.PrintMore

open XInflateAny
theorem cast1 (i : Nat) : ((i + 1 : Nat) : Int) = (i : Int) + 1 := by omega
/-- The document's rows of lengths, and of distances. -/
def rowsL : List S200 := [⟨257, 3, 0⟩, ⟨258, 4, 0⟩, ⟨259, 5, 0⟩, ⟨260, 6, 0⟩, ⟨261, 7, 0⟩, ⟨262, 8, 0⟩, ⟨263, 9, 0⟩, ⟨264, 10, 0⟩, ⟨265, 11, 1⟩, ⟨266, 13, 1⟩, ⟨267, 15, 1⟩, ⟨268, 17, 1⟩, ⟨269, 19, 2⟩, ⟨270, 23, 2⟩, ⟨271, 27, 2⟩, ⟨272, 31, 2⟩, ⟨273, 35, 3⟩, ⟨274, 43, 3⟩, ⟨275, 51, 3⟩, ⟨276, 59, 3⟩, ⟨277, 67, 4⟩, ⟨278, 83, 4⟩, ⟨279, 99, 4⟩, ⟨280, 115, 4⟩, ⟨281, 131, 5⟩, ⟨282, 163, 5⟩, ⟨283, 195, 5⟩, ⟨284, 227, 5⟩, ⟨285, 258, 0⟩]
def rowsD : List S200 := [⟨0, 1, 0⟩, ⟨1, 2, 0⟩, ⟨2, 3, 0⟩, ⟨3, 4, 0⟩, ⟨4, 5, 1⟩, ⟨5, 7, 1⟩, ⟨6, 9, 2⟩, ⟨7, 13, 2⟩, ⟨8, 17, 3⟩, ⟨9, 25, 3⟩, ⟨10, 33, 4⟩, ⟨11, 49, 4⟩, ⟨12, 65, 5⟩, ⟨13, 97, 5⟩, ⟨14, 129, 6⟩, ⟨15, 193, 6⟩, ⟨16, 257, 7⟩, ⟨17, 385, 7⟩, ⟨18, 513, 8⟩, ⟨19, 769, 8⟩, ⟨20, 1025, 9⟩, ⟨21, 1537, 9⟩, ⟨22, 2049, 10⟩, ⟨23, 3073, 10⟩, ⟨24, 4097, 11⟩, ⟨25, 6145, 11⟩, ⟨26, 8193, 12⟩, ⟨27, 12289, 12⟩, ⟨28, 16385, 13⟩, ⟨29, 24577, 13⟩]

theorem lengths_f : montageref07_lengths.f 500 = some rowsL := by kernel_rfl
theorem distances_f : montageref07_distances.f 500 = some rowsD := by kernel_rfl

theorem power_l0 (b : Nat) (hb : b ≤ 40) : ∀ (d i : Nat), b - i = d → i ≤ b → Ev (fun k => montageref07_power.l0 k (b : Int) (2 ^ i) (i : Int)) (2 ^ b) := by
  intro d
  induction d with
  | zero =>
    intro i hd hi
    obtain rfl : i = b := by omega
    refine Ev.step (f := fun _ => some (2 ^ i)) (fun k => ?_) (Ev.now _)
    simp only [montageref07_power.l0]
    rw [if_neg (by omega)]
  | succ d ih =>
    intro i hd hi
    have h := ih (i + 1) (by omega) (by omega)
    refine Ev.step (fun k => ?_) h
    have hp : (0 : Int) < 2 ^ i ∧ (2 : Int) ^ i ≤ 2 ^ 40 := ⟨Int.pow_pos (by omega), by
      have := Nat.pow_le_pow_right (n := 2) (by omega) (show i ≤ 40 by omega)
      have h2 : ((2 ^ i : Nat) : Int) ≤ ((2 ^ 40 : Nat) : Int) := Int.ofNat_le.2 this
      rw [Int.natCast_pow, Int.natCast_pow] at h2
      exact h2⟩
    have hs : (2 : Int) ^ (i + 1) = 2 * 2 ^ i := by rw [Int.pow_succ, Int.mul_comm]
    have h40 : (2 : Int) ^ 40 = 1099511627776 := by decide
    simp only [montageref07_power.l0]
    rw [if_pos (by omega), w64 (x := 2 * 2 ^ i) (by omega) (by omega), w64 (by omega) (by omega), hs, cast1]

theorem power_f (b : Nat) (hb : b ≤ 40) : Ev (fun k => montageref07_power.f k (b : Int)) (2 ^ b) := by
  refine Ev.congr (fun k => ?_) (power_l0 b hb b 0 rfl (by omega))
  unfold montageref07_power.f
  rfl

theorem rd_row (l : List S200) (i : Nat) (h : i < l.length) : rd_T200 l (i : Int) = l[i] := by
  unfold rd_T200
  rw [Int.toNat_natCast, List.getD_eq_getElem?_getD, List.getElem?_eq_getElem h]
  rfl

/-- What 'of' says of the row that bears the symbol. -/
theorem of_hit (l : List S200) (hl : l.length ≤ 1000) (a : Nat) (ha : a < l.length) (b : Nat) (hb : b ≤ 40) (hab : l[a].f2 = b) (sym more : Int) (hs : l[a].f0 = sym) (hne : ∀ i (h : i < l.length), i ≠ a → l[i].f0 ≠ sym) (hf : 0 ≤ l[a].f1 ∧ l[a].f1 ≤ 100000) (r : Int × Bool)
    (hr : r = if 0 ≤ more ∧ more < 2 ^ b then (l[a].f1 + more, true) else (0, false)) : ∀ (d i : Nat), l.length - i = d → i ≤ a → Ev (fun k => montageref07_of.l0 k l sym more (i : Int)) r := by
  have hp40 : (2 : Int) ^ b ≤ 1099511627776 := by
    have := Nat.pow_le_pow_right (n := 2) (by omega) hb
    have h2 : ((2 ^ b : Nat) : Int) ≤ ((2 ^ 40 : Nat) : Int) := Int.ofNat_le.2 this
    rw [Int.natCast_pow, Int.natCast_pow] at h2
    have h40 : (2 : Int) ^ 40 = 1099511627776 := by decide
    have h3 : (2 : Int) ^ b ≤ 2 ^ 40 := h2
    omega
  have tail : ∀ (d i : Nat), l.length - i = d → a < i → Ev (fun k => montageref07_of.l0 k l sym more (i : Int)) (0, false) := by
    intro d
    induction d with
    | zero =>
      intro i hd hi
      refine Ev.step (f := fun _ => some (0, false)) (fun k => ?_) (Ev.now _)
      simp only [montageref07_of.l0]
      rw [if_neg (by omega)]
    | succ d ih =>
      intro i hd hi
      have hlt : i < l.length := by omega
      refine Ev.step (fun k => ?_) (ih (i + 1) (by omega) (by omega))
      simp only [montageref07_of.l0]
      rw [if_pos (by omega), if_pos (by omega), rd_row l i hlt, if_neg (hne i hlt (by omega)), w64 (by omega) (by omega), cast1]
  intro d
  induction d with
  | zero =>
    intro i hd hi
    omega
  | succ d ih =>
    intro i hd hi
    have hlt : i < l.length := by omega
    by_cases hia : i = a
    · subst hia
      by_cases h0 : more ≥ 0
      · refine Ev.step (f := fun k => (montageref07_power.f k (b : Int)).bind fun t => if more < t then some (wrap64 (l[i].f1 + more), true) else montageref07_of.l0 k l sym more ((i + 1 : Nat) : Int)) (fun k => ?_) (Ev.bind (power_f b hb) ?_)
        · simp only [montageref07_of.l0]
          rw [if_pos (by omega), if_pos (by omega), rd_row l i hlt, if_pos hs, if_pos h0, hab, w64 (x := (i : Int) + 1) (by omega) (by omega), cast1]
        · by_cases hm : more < 2 ^ b
          · rw [if_pos ⟨h0, hm⟩] at hr
            refine Ev.congr (fun k => ?_) (Ev.now _)
            show (if more < 2 ^ b then _ else _) = _
            rw [if_pos hm, w64 (by omega) (by omega), hr]
          · rw [if_neg (fun h => hm h.2)] at hr
            rw [hr]
            refine Ev.congr (fun k => ?_) (tail (l.length - (i + 1)) (i + 1) rfl (by omega))
            show (if more < 2 ^ b then _ else _) = _
            rw [if_neg hm]
      · rw [if_neg (fun h => h0 h.1)] at hr
        rw [hr]
        refine Ev.step (fun k => ?_) (tail (l.length - (i + 1)) (i + 1) rfl (by omega))
        simp only [montageref07_of.l0]
        rw [if_pos (by omega), if_pos (by omega), rd_row l i hlt, if_pos hs, if_neg h0, w64 (by omega) (by omega), cast1]
    · refine Ev.step (fun k => ?_) (ih (i + 1) (by omega) (by omega))
      simp only [montageref07_of.l0]
      rw [if_pos (by omega), if_pos (by omega), rd_row l i hlt, if_neg (hne i hlt hia), w64 (by omega) (by omega), cast1]

theorem of_miss (l : List S200) (hl : l.length ≤ 1000) (sym more : Int) (hne : ∀ i (h : i < l.length), l[i].f0 ≠ sym) : ∀ (d i : Nat), l.length - i = d → Ev (fun k => montageref07_of.l0 k l sym more (i : Int)) (0, false) := by
  intro d
  induction d with
  | zero =>
    intro i hd
    refine Ev.step (f := fun _ => some (0, false)) (fun k => ?_) (Ev.now _)
    simp only [montageref07_of.l0]
    rw [if_neg (by omega)]
  | succ d ih =>
    intro i hd
    have hlt : i < l.length := by omega
    refine Ev.step (fun k => ?_) (ih (i + 1) (by omega))
    simp only [montageref07_of.l0]
    rw [if_pos (by omega), if_pos (by omega), rd_row l i hlt, if_neg (hne i hlt), w64 (by omega) (by omega), cast1]

/-- The rows in short: the first number and the bits, by place. -/
def baseL (p : Nat) : Int := (rowsL.getD p z200).f1
def bitsL (p : Nat) : Nat := (rowsL.getD p z200).f2.toNat
def baseD (p : Nat) : Int := (rowsD.getD p z200).f1
def bitsD (p : Nat) : Nat := (rowsD.getD p z200).f2.toNat

theorem rowsL_at : ∀ p : Fin 29, ∃ h : p.val < rowsL.length, rowsL[p.val].f0 = 257 + p.val ∧ rowsL[p.val].f1 = baseL p.val ∧ rowsL[p.val].f2 = bitsL p.val ∧ bitsL p.val ≤ 5 ∧ 3 ≤ baseL p.val ∧ baseL p.val ≤ 258 := by decide +kernel
theorem rowsD_at : ∀ p : Fin 30, ∃ h : p.val < rowsD.length, rowsD[p.val].f0 = p.val ∧ rowsD[p.val].f1 = baseD p.val ∧ rowsD[p.val].f2 = bitsD p.val ∧ bitsD p.val ≤ 13 ∧ 1 ≤ baseD p.val ∧ baseD p.val ≤ 24577 := by decide +kernel
theorem rowsL_of (p : Nat) (hp : p < 29) : ∃ h : p < rowsL.length, rowsL[p].f0 = 257 + p ∧ rowsL[p].f1 = baseL p ∧ rowsL[p].f2 = bitsL p ∧ bitsL p ≤ 5 ∧ 3 ≤ baseL p ∧ baseL p ≤ 258 := rowsL_at ⟨p, hp⟩
theorem rowsD_of (p : Nat) (hp : p < 30) : ∃ h : p < rowsD.length, rowsD[p].f0 = p ∧ rowsD[p].f1 = baseD p ∧ rowsD[p].f2 = bitsD p ∧ bitsD p ≤ 13 ∧ 1 ≤ baseD p ∧ baseD p ≤ 24577 := rowsD_at ⟨p, hp⟩
theorem rowsL_len : rowsL.length = 29 := by decide +kernel
theorem rowsD_len : rowsD.length = 30 := by decide +kernel

theorem pow_le (b c : Nat) (h : b ≤ c) : (2 : Int) ^ b ≤ 2 ^ c := by
  have h1 := Nat.pow_le_pow_right (n := 2) (by omega) h
  have h2 : ((2 ^ b : Nat) : Int) ≤ ((2 ^ c : Nat) : Int) := Int.ofNat_le.2 h1
  rw [Int.natCast_pow, Int.natCast_pow] at h2
  exact h2

theorem pow_ge (b : Nat) : (1 : Int) ≤ 2 ^ b := pow_le 0 b (Nat.zero_le _)

/-- The closed facts of 'whole', place by place. -/
theorem wholeD_at : ∀ p : Fin 30, mx (wrap64 (shr .i64 (p.val : Int) 1 - 1)) 0 = bitsD p.val ∧ shl .i64 1 (bitsD p.val : Int) = 2 ^ bitsD p.val ∧ ((bitsD p.val : Int) = 0 → (p.val : Int) + 1 = baseD p.val) ∧ ((bitsD p.val : Int) ≠ 0 → shl .i64 (wrap64 ((p.val : Int) - shl .i64 (bitsD p.val : Int) 1)) (bitsD p.val : Int) + 1 = baseD p.val) := by decide +kernel
theorem wholeL_at : ∀ p : Fin 28, mx (wrap64 (shr .i64 (p.val : Int) 2 - 1)) 0 = bitsL p.val ∧ shl .i64 1 (bitsL p.val : Int) = 2 ^ bitsL p.val ∧ ((bitsL p.val : Int) = 0 → (p.val : Int) + 3 = baseL p.val) ∧ ((bitsL p.val : Int) ≠ 0 → shl .i64 (wrap64 ((p.val : Int) - shl .i64 (bitsL p.val : Int) 2)) (bitsL p.val : Int) + 3 = baseL p.val) := by decide +kernel
theorem nextD : ∀ p : Fin 29, baseD (p.val + 1) = baseD p.val + 2 ^ bitsD p.val := by decide +kernel
theorem nextL : ∀ p : Fin 27, baseL (p.val + 1) = baseL p.val + 2 ^ bitsL p.val := by decide +kernel
theorem partD : ∀ p : Fin 30, (bitsD p.val = 0 → p.val < 4 ∧ baseD p.val = p.val + 1) ∧ (bitsD p.val ≠ 0 → ∃ q : Fin 4, 2 ≤ q.val ∧ p.val = 2 * bitsD p.val + q.val ∧ baseD p.val = q.val * 2 ^ bitsD p.val + 1) := by decide +kernel
theorem partL : ∀ p : Fin 28, (bitsL p.val = 0 → p.val < 8 ∧ baseL p.val = p.val + 3) ∧ (bitsL p.val ≠ 0 → ∃ q : Fin 8, 4 ≤ q.val ∧ p.val = 4 * bitsL p.val + q.val ∧ baseL p.val = q.val * 2 ^ bitsL p.val + 3) := by decide +kernel

/-- 'whole' of a place with b bits that begins at base. -/
theorem whole_of (p per base m : Int) (b : Nat) (hb : b ≤ 13) (per0 : 0 ≤ per) (off : Int) (hoff : 0 ≤ off ∧ off ≤ 3) (hbase : 0 ≤ base ∧ base ≤ 100000)
    (h1 : mx (wrap64 (shr .i64 p per - 1)) 0 = b) (h2 : shl .i64 1 (b : Int) = 2 ^ b) (h3 : (b : Int) = 0 → p + off = base) (h4 : (b : Int) ≠ 0 → shl .i64 (wrap64 (p - shl .i64 (b : Int) per)) (b : Int) + off = base) :
    Ev (fun k => token_whole.f k p per m) (if 0 ≤ m ∧ m < 2 ^ b then (base - off + m, true) else (0, false)) := by
  have hp := pow_le b 13 hb
  have h13 : (2 : Int) ^ 13 = 8192 := by decide
  by_cases hm : m < 0
  · rw [if_neg (by omega)]
    refine Ev.congr (f := fun k => token_whole.j0 k p per m b true) (fun k => ?_) ?_
    · unfold token_whole.f
      rw [if_pos per0, if_pos hm, h1]
    · refine Ev.step (f := fun _ => some (0, false)) (fun k => ?_) (Ev.now _)
      simp only [token_whole.j0]
      rw [if_pos trivial]
  · by_cases hl : m < 2 ^ b
    · rw [if_pos ⟨by omega, hl⟩]
      refine Ev.congr (f := fun k => token_whole.j0 k p per m b false) (fun k => ?_) ?_
      · unfold token_whole.f
        rw [if_pos per0, if_neg hm, h1, if_pos (by omega), h2, decide_eq_false (by omega)]
      · refine Ev.step (f := fun _ => some (base - off + m, true)) (fun k => ?_) (Ev.now _)
        simp only [token_whole.j0]
        rw [if_neg (by simp)]
        by_cases h0 : (b : Int) = 0
        · have hb0 : b = 0 := by omega
          subst hb0
          have := h3 h0
          have hz : m = 0 := by
            have : (2 : Int) ^ 0 = 1 := by decide
            omega
          rw [if_pos h0, show base - off + m = p from by omega]
        · have h5 := h4 h0
          rw [if_neg h0, if_pos per0, if_pos (by omega), w64 (x := shl .i64 (wrap64 (p - shl .i64 (b : Int) per)) (b : Int) + m) (by omega) (by omega), show shl .i64 (wrap64 (p - shl .i64 (b : Int) per)) (b : Int) = base - off from by omega]
    · rw [if_neg (by omega)]
      refine Ev.congr (f := fun k => token_whole.j0 k p per m b true) (fun k => ?_) ?_
      · unfold token_whole.f
        rw [if_pos per0, if_neg hm, h1, if_pos (by omega), h2, decide_eq_true (by omega)]
      · refine Ev.step (f := fun _ => some (0, false)) (fun k => ?_) (Ev.now _)
        simp only [token_whole.j0]
        rw [if_pos trivial]

/-- What a distance's symbol says. -/
def saysD (s m : Int) : Int × Bool := if 0 ≤ s ∧ s < 30 then (if 0 ≤ m ∧ m < 2 ^ bitsD s.toNat then (baseD s.toNat + m, true) else (0, false)) else (0, false)
def saysL (s m : Int) : Int × Bool := if s = 284 ∧ m = 31 then (0, false) else if 257 ≤ s ∧ s < 286 then (if 0 ≤ m ∧ m < 2 ^ bitsL (s - 257).toNat then (baseL (s - 257).toNat + m, true) else (0, false)) else (0, false)

theorem saysL_285 (m : Int) : saysL 285 m = if m = 0 then (258, true) else (0, false) := by
  have hb : baseL (285 - 257 : Int).toNat = 258 ∧ (2 : Int) ^ bitsL (285 - 257 : Int).toNat = 1 := by decide +kernel
  unfold saysL
  rw [if_neg (by omega), if_pos (by omega), hb.1, hb.2]
  by_cases hm : m = 0
  · subst hm; rfl
  · rw [if_neg hm, if_neg (by omega)]

theorem saysL_out (s m : Int) (h : ¬ (257 ≤ s ∧ s < 286)) : saysL s m = (0, false) := by
  unfold saysL
  rw [if_neg (by omega), if_neg h]

theorem saysL_in (s m : Int) (p : Nat) (h : 257 ≤ s ∧ s < 286) (hp : s - 257 = p) : saysL s m = if p = 27 ∧ m = 31 then (0, false) else if 0 ≤ m ∧ m < 2 ^ bitsL p then (baseL p + m, true) else (0, false) := by
  unfold saysL
  rw [show (s - 257).toNat = p from by omega]
  by_cases hx : p = 27 ∧ m = 31
  · rw [if_pos (by omega), if_pos hx]
  · rw [if_neg (by omega), if_neg hx, if_pos h]

theorem distanceOf (s m : Int) : Ev (fun k => token_DistanceOf.f k s m) (saysD s m) := by
  by_cases h : 0 ≤ s ∧ s < 30
  · obtain ⟨p, rfl⟩ := Int.eq_ofNat_of_zero_le h.1
    have hp : p < 30 := by omega
    obtain ⟨g1, g2, g3, g4⟩ := wholeD_at ⟨p, hp⟩
    obtain ⟨_, _, _, _, g5, g6, g7⟩ := rowsD_of p hp
    have hw := whole_of (p : Int) 1 (baseD p) m (bitsD p) g5 (by omega) 1 (by omega) (by omega) g1 g2 g3 g4
    have hpow := pow_le (bitsD p) 13 g5
    have h13 : (2 : Int) ^ 13 = 8192 := by decide
    have e : ∀ k, token_DistanceOf.f k (p : Int) m = (token_whole.f k (p : Int) 1 m).bind fun bt121 => (if bt121.2 = true then (some (wrap64 (bt121.1 + 1), true)) else (some (0, false))) := by
      intro k
      unfold token_DistanceOf.f token_within.f
      rw [if_pos (by omega), Option.bind_some, if_pos (by simp; omega)]
    refine Ev.congr e (Ev.bind (f := fun _ (bt121 : Int × Bool) => (if bt121.2 = true then (some (wrap64 (bt121.1 + 1), true)) else (some (0, false)))) hw ?_)
    unfold saysD
    rw [if_pos h, Int.toNat_natCast]
    refine Ev.congr (fun k => ?_) (Ev.now _)
    by_cases hm : 0 ≤ m ∧ m < 2 ^ bitsD p
    · rw [if_pos hm, if_pos hm]
      show (if true = true then some (wrap64 (baseD p - 1 + m + 1), true) else _) = _
      rw [if_pos rfl, w64 (by omega) (by omega), show baseD p - 1 + m + 1 = baseD p + m from by omega]
    · rw [if_neg hm, if_neg hm]
      rfl
  · refine Ev.congr (fun k => ?_) (Ev.now _)
    have hs : saysD s m = (0, false) := by unfold saysD; rw [if_neg h]
    rw [hs]
    unfold token_DistanceOf.f token_within.f
    by_cases h0 : s ≥ 0
    · rw [if_pos h0, Option.bind_some, decide_eq_false (by omega)]
      rfl
    · rw [if_neg h0]
      rfl

theorem lengthOf (s m : Int) : Ev (fun k => token_LengthOf.f k s m) (saysL s m) := by
  by_cases h : 257 ≤ s ∧ s < 286
  · have hin : ∀ k, token_LengthOf.f k s m = (if s = 285 then (if m = 0 then (some (258, true)) else (some (0, false))) else ((token_whole.f k (wrap64 (s - 257)) 2 m).bind fun bt140 => (if bt140.2 = true then (if (wrap64 (bt140.1 + 3)) ≥ 258 then (some (0, false)) else (some (wrap64 (bt140.1 + 3), true))) else (some (0, false))))) := by
      intro k
      unfold token_LengthOf.f token_within.f
      rw [if_pos (by omega), Option.bind_some, if_pos (by simp; omega)]
    refine Ev.congr hin ?_
    by_cases h285 : s = 285
    · subst h285
      rw [saysL_285]
      refine Ev.congr (fun k => ?_) (Ev.now _)
      rw [if_pos rfl]
      by_cases hm : m = 0
      · rw [if_pos hm, if_pos hm]
      · rw [if_neg hm, if_neg hm]
    · obtain ⟨p, hp⟩ := Int.eq_ofNat_of_zero_le (show 0 ≤ s - 257 by omega)
      have hp28 : p < 28 := by omega
      obtain ⟨g1, g2, g3, g4⟩ := wholeL_at ⟨p, hp28⟩
      obtain ⟨_, _, _, _, g5, g6, g7⟩ := rowsL_of p (by omega)
      have hw := whole_of (p : Int) 2 (baseL p) m (bitsL p) (Nat.le_trans g5 (by omega)) (by omega) 3 (by omega) (by omega) g1 g2 g3 g4
      have hpow := pow_le (bitsL p) 5 g5
      have h5 : (2 : Int) ^ 5 = 32 := by decide
      have e : ∀ k, (if s = 285 then (if m = 0 then (some ((258 : Int), true)) else (some (0, false))) else ((token_whole.f k (wrap64 (s - 257)) 2 m).bind fun bt140 => (if bt140.2 = true then (if (wrap64 (bt140.1 + 3)) ≥ 258 then (some (0, false)) else (some (wrap64 (bt140.1 + 3), true))) else (some (0, false))))) = ((token_whole.f k (p : Int) 2 m).bind fun bt140 => (if bt140.2 = true then (if (wrap64 (bt140.1 + 3)) ≥ 258 then (some (0, false)) else (some (wrap64 (bt140.1 + 3), true))) else (some (0, false)))) := by
        intro k
        rw [if_neg h285, w64 (by omega) (by omega), hp]
      refine Ev.congr e (Ev.bind (f := fun _ (bt140 : Int × Bool) => (if bt140.2 = true then (if (wrap64 (bt140.1 + 3)) ≥ 258 then (some (0, false)) else (some (wrap64 (bt140.1 + 3), true))) else (some (0, false)))) hw ?_)
      refine Ev.congr (fun k => ?_) (Ev.now _)
      have hend : p < 27 → baseL p + 2 ^ bitsL p ≤ 227 := by
        have : ∀ p : Fin 27, baseL p.val + 2 ^ bitsL p.val ≤ 227 := by decide +kernel
        exact fun h => this ⟨p, h⟩
      have h27 : baseL 27 = 227 ∧ (2 : Int) ^ bitsL 27 = 32 := by decide +kernel
      rw [saysL_in s m p h hp]
      by_cases hm : 0 ≤ m ∧ m < 2 ^ bitsL p
      · rw [if_pos hm, if_pos hm]
        show (if true = true then (if (wrap64 (baseL p - 3 + m + 3)) ≥ 258 then (some (0, false)) else (some (wrap64 (baseL p - 3 + m + 3), true))) else _) = _
        rw [if_pos rfl, w64 (by omega) (by omega), show baseL p - 3 + m + 3 = baseL p + m from by omega]
        by_cases hx : p = 27 ∧ m = 31
        · rw [if_pos hx]
          obtain ⟨rfl, hx⟩ := hx
          rw [if_pos (by omega)]
        · rw [if_neg hx]
          have : baseL p + m < 258 := by
            by_cases h27' : p < 27
            · have := hend h27'; omega
            · obtain rfl : p = 27 := by omega
              omega
          rw [if_neg (by omega)]
      · rw [if_neg hm, if_neg hm]
        show some ((0 : Int), false) = _
        split <;> rfl
  · refine Ev.congr (fun k => ?_) (Ev.now _)
    rw [saysL_out s m h]
    unfold token_LengthOf.f token_within.f
    by_cases h0 : s ≥ 257
    · rw [if_pos h0, Option.bind_some, decide_eq_false (by omega)]
      rfl
    · rw [if_neg h0]
      rfl

/-- The place of a number from q times 2 to the power of b on. -/
theorem ref_distanceOf (s m : Int) : Ev (fun k => montageref07_DistanceOf.f k s m) (saysD s m) := by
  have hof : Ev (fun k => montageref07_of.f k rowsD s m) (saysD s m) := by
    by_cases h : 0 ≤ s ∧ s < 30
    · obtain ⟨p, rfl⟩ := Int.eq_ofNat_of_zero_le h.1
      have hp : p < 30 := by omega
      obtain ⟨hl, g2, g3, g4, g5, g6, g7⟩ := rowsD_of p hp
      refine Ev.congr (fun k => ?_) (of_hit rowsD (by rw [rowsD_len]; omega) p hl (bitsD p) (by omega) g4 (p : Int) m g2 (fun i hi hne => ?_) (by omega) (saysD p m) ?_ rowsD.length 0 rfl (by omega))
      · rfl
      · obtain ⟨_, g, _⟩ := rowsD_of i (by rw [rowsD_len] at hi; exact hi)
        rw [g]
        omega
      · unfold saysD
        rw [if_pos h, Int.toNat_natCast, g3]
    · have hs : saysD s m = (0, false) := by unfold saysD; rw [if_neg h]
      rw [hs]
      refine Ev.congr (fun k => ?_) (of_miss rowsD (by rw [rowsD_len]; omega) s m (fun i hi => ?_) rowsD.length 0 rfl)
      · rfl
      · have hi' : i < 30 := by rw [rowsD_len] at hi; exact hi
        obtain ⟨_, g, _⟩ := rowsD_of i hi'
        rw [g]
        omega
  refine Ev.congr (fun k => ?_) (Ev.bind (f := fun k (t : List S200) => (montageref07_of.f k t s m).bind fun b => some (b.1, b.2)) (Ev.of montageref07_distances.mono distances_f) (Ev.bind (f := fun _ (b : Int × Bool) => some (b.1, b.2)) hof (Ev.now _)))
  unfold montageref07_DistanceOf.f
  rfl

theorem ref_lengthOf (s m : Int) : Ev (fun k => montageref07_LengthOf.f k s m) (saysL s m) := by
  have hof : ¬ (s = 284 ∧ m = 31) → Ev (fun k => montageref07_of.f k rowsL s m) (saysL s m) := by
    intro hx
    by_cases h : 257 ≤ s ∧ s < 286
    · obtain ⟨p, hp⟩ := Int.eq_ofNat_of_zero_le (show 0 ≤ s - 257 by omega)
      have hp29 : p < 29 := by omega
      obtain ⟨hl, g2, g3, g4, g5, g6, g7⟩ := rowsL_of p hp29
      refine Ev.congr (fun k => ?_) (of_hit rowsL (by rw [rowsL_len]; omega) p hl (bitsL p) (by omega) g4 s m (by omega) (fun i hi hne => ?_) (by omega) (saysL s m) ?_ rowsL.length 0 rfl (by omega))
      · rfl
      · obtain ⟨_, g, _⟩ := rowsL_of i (by rw [rowsL_len] at hi; exact hi)
        rw [g]
        omega
      · rw [saysL_in s m p h hp, if_neg (by omega), g3]
    · rw [saysL_out s m h]
      refine Ev.congr (fun k => ?_) (of_miss rowsL (by rw [rowsL_len]; omega) s m (fun i hi => ?_) rowsL.length 0 rfl)
      · rfl
      · have hi' : i < 29 := by rw [rowsL_len] at hi; exact hi
        obtain ⟨_, g, _⟩ := rowsL_of i hi'
        rw [g]
        omega
  have hj : ¬ (s = 284 ∧ m = 31) → Ev (fun k => montageref07_LengthOf.j0 k s m false) (saysL s m) := by
    intro hx
    refine Ev.step (fun k => ?_) (Ev.bind (f := fun k (t : List S200) => (montageref07_of.f k t s m).bind fun b => some (b.1, b.2)) (Ev.of montageref07_lengths.mono lengths_f) (Ev.bind (f := fun _ (b : Int × Bool) => some (b.1, b.2)) (hof hx) (Ev.now _)))
    simp only [montageref07_LengthOf.j0]
    rw [if_neg (by simp)]
  by_cases h284 : s = 284
  · by_cases h31 : m = 31
    · refine Ev.congr (f := fun k => montageref07_LengthOf.j0 k s m true) (fun k => ?_) ?_
      · unfold montageref07_LengthOf.f
        rw [if_pos h284, beq_iff_eq.mpr h31]
      · have hs : saysL s m = (0, false) := by unfold saysL; rw [if_pos ⟨h284, h31⟩]
        rw [hs]
        refine Ev.step (f := fun _ => some (0, false)) (fun k => ?_) (Ev.now _)
        simp only [montageref07_LengthOf.j0]
        rw [if_pos trivial]
    · refine Ev.congr (fun k => ?_) (hj (fun h => h31 h.2))
      unfold montageref07_LengthOf.f
      rw [if_pos h284, beq_eq_false_iff_ne.mpr h31]
  · refine Ev.congr (fun k => ?_) (hj (fun h => h284 h.1))
    unfold montageref07_LengthOf.f
    rw [if_neg h284]

/-- Where a length's symbol says something, that has the symbol and the number again. -/

theorem ref_lengthBits_l0 (s : Int) (p : Nat) (hp : p < 29) (hs : s = 257 + p) : ∀ (d i : Nat), p - i = d → i ≤ p → Ev (fun k => montageref07_bitsOf.l0 k rowsL s (i : Int)) (bitsL p : Int) := by
  have hlen := rowsL_len
  intro d
  induction d with
  | zero =>
    intro i hd hi
    obtain rfl : i = p := by omega
    obtain ⟨h, h0, h1, h2, _⟩ := rowsL_of i hp
    refine Ev.step (f := fun _ => some (bitsL i : Int)) (fun k => ?_) (Ev.now _)
    simp only [montageref07_bitsOf.l0]
    rw [if_pos (by omega), if_pos (by omega), rd_row _ _ h, h0, if_pos (by omega), h2]
  | succ d ih =>
    intro i hd hi
    obtain ⟨h, h0, _⟩ := rowsL_of i (by omega)
    refine Ev.step (fun k => ?_) (ih (i + 1) (by omega) (by omega))
    simp only [montageref07_bitsOf.l0]
    rw [if_pos (by omega), if_pos (by omega), rd_row _ _ h, h0, if_neg (by omega), w64 (by omega) (by omega), cast1]
theorem ref_lengthBits (p : Nat) (hp : p < 29) : Ev (fun k => montageref07_LengthBits.f k (257 + (p : Int))) (bitsL p : Int) := by
  unfold montageref07_LengthBits.f montageref07_bitsOf.f
  refine Ev.bind (Ev.of montageref07_lengths.mono lengths_f) ?_
  refine Ev.bind (ref_lengthBits_l0 _ p hp rfl p 0 (by omega) (by omega)) (Ev.now _)
theorem ref_distanceBits_l0 (p : Nat) (hp : p < 30) : ∀ (d i : Nat), p - i = d → i ≤ p → Ev (fun k => montageref07_bitsOf.l0 k rowsD (p : Int) (i : Int)) (bitsD p : Int) := by
  have hlen := rowsD_len
  intro d
  induction d with
  | zero =>
    intro i hd hi
    obtain rfl : i = p := by omega
    obtain ⟨h, h0, h1, h2, _⟩ := rowsD_of i hp
    refine Ev.step (f := fun _ => some (bitsD i : Int)) (fun k => ?_) (Ev.now _)
    simp only [montageref07_bitsOf.l0]
    rw [if_pos (by omega), if_pos (by omega), rd_row _ _ h, h0, if_pos (by omega), h2]
  | succ d ih =>
    intro i hd hi
    obtain ⟨h, h0, _⟩ := rowsD_of i (by omega)
    refine Ev.step (fun k => ?_) (ih (i + 1) (by omega) (by omega))
    simp only [montageref07_bitsOf.l0]
    rw [if_pos (by omega), if_pos (by omega), rd_row _ _ h, h0, if_neg (by omega), w64 (by omega) (by omega), cast1]
theorem ref_distanceBits (p : Nat) (hp : p < 30) : Ev (fun k => montageref07_DistanceBits.f k (p : Int)) (bitsD p : Int) := by
  unfold montageref07_DistanceBits.f montageref07_bitsOf.f
  refine Ev.bind (Ev.of montageref07_distances.mono distances_f) ?_
  refine Ev.bind (ref_distanceBits_l0 p hp p 0 (by omega) (by omega)) (Ev.now _)
/-- The bits behind a symbol, as the program counts them. -/
theorem bitsL_at : ∀ p : Fin 29, ((if 264 < 257 + p.val ∧ 257 + p.val < 285 then (257 + p.val - 261) / 4 else 0) : Nat) = bitsL p.val := by decide +kernel
theorem bitsD_at : ∀ p : Fin 30, (max ((p.val : Int) / 2 - 1) 0) = (bitsD p.val : Int) := by decide +kernel

end Go.Proofs.Ytmanmjjjepdhlaa.XTok
