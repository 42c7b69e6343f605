/- This text proves the statement over numbers and lists that the functions of the law TokenSymbols come to. It has no conditions. -/
import Derived.Test.YtlgdjacgdflfaaaXTokenSymbolsx4
namespace Go.Proofs.Ytlgdjacgdflfaaa.Pure
open Go.RowKit Go.Proofs.Ytlgdjacgdflfaaa.XTokenSymbols Go.Proofs.YtlgdjacgdflfaaaW.PrintWords Go.Proofs.YtlgdjacgdflfaaaW.PrintLast Go.Proofs.YtlgdjacgdflfaaaW.PrintMore
set_option linter.unusedVariables false
set_option linter.unusedSimpArgs false

theorem cast1 (i : Nat) : ((i + 1 : Nat) : Int) = (i : Int) + 1 := by omega

theorem w64 {x : Int} (h0 : -9223372036854775808 ≤ x) (h1 : x < 9223372036854775808) : wrap64 x = x := by unfold wrap64; omega

/-- The table of lengths in bits. -/
def tab : ByteArray := (⟨#[0, 1, 2, 2, 3, 3, 3, 3, 4, 4, 4, 4, 4, 4, 4, 4, 5, 5, 5, 5, 5, 5, 5, 5, 5, 5, 5, 5, 5, 5, 5, 5, 6, 6, 6, 6, 6, 6, 6, 6, 6, 6, 6, 6, 6, 6, 6, 6, 6, 6, 6, 6, 6, 6, 6, 6, 6, 6, 6, 6, 6, 6, 6, 6, 7, 7, 7, 7, 7, 7, 7, 7, 7, 7, 7, 7, 7, 7, 7, 7, 7, 7, 7, 7, 7, 7, 7, 7, 7, 7, 7, 7, 7, 7, 7, 7, 7, 7, 7, 7, 7, 7, 7, 7, 7, 7, 7, 7, 7, 7, 7, 7, 7, 7, 7, 7, 7, 7, 7, 7, 7, 7, 7, 7, 7, 7, 7, 7, 8, 8, 8, 8, 8, 8, 8, 8, 8, 8, 8, 8, 8, 8, 8, 8, 8, 8, 8, 8, 8, 8, 8, 8, 8, 8, 8, 8, 8, 8, 8, 8, 8, 8, 8, 8, 8, 8, 8, 8, 8, 8, 8, 8, 8, 8, 8, 8, 8, 8, 8, 8, 8, 8, 8, 8, 8, 8, 8, 8, 8, 8, 8, 8, 8, 8, 8, 8, 8, 8, 8, 8, 8, 8, 8, 8, 8, 8, 8, 8, 8, 8, 8, 8, 8, 8, 8, 8, 8, 8, 8, 8, 8, 8, 8, 8, 8, 8, 8, 8, 8, 8, 8, 8, 8, 8, 8, 8, 8, 8, 8, 8, 8, 8, 8, 8, 8, 8, 8, 8, 8, 8, 8, 8, 8, 8, 8, 8]⟩ : ByteArray)

theorem tab_all : ∀ y : Fin 256, ∀ t : Fin 8, 2 ^ t.val ≤ y.val → y.val < 2 ^ (t.val + 1) → bt tab (y.val : Int) = (t.val : Int) + 1 := by decide +kernel

theorem tab_at (y : Int) (t : Nat) (ht : t < 8) (h0 : 2 ^ t ≤ y) (h1 : y < 2 ^ (t + 1)) : bt tab y = (t : Int) + 1 := by
  have hp : (2 : Int) ^ (t + 1) ≤ 256 := by
    have : t = 0 ∨ t = 1 ∨ t = 2 ∨ t = 3 ∨ t = 4 ∨ t = 5 ∨ t = 6 ∨ t = 7 := by omega
    rcases this with rfl | rfl | rfl | rfl | rfl | rfl | rfl | rfl <;> decide
  have hq : (1 : Int) ≤ 2 ^ t := by
    have : t = 0 ∨ t = 1 ∨ t = 2 ∨ t = 3 ∨ t = 4 ∨ t = 5 ∨ t = 6 ∨ t = 7 := by omega
    rcases this with rfl | rfl | rfl | rfl | rfl | rfl | rfl | rfl <;> decide
  obtain ⟨n, rfl⟩ := Int.eq_ofNat_of_zero_le (show 0 ≤ y by omega)
  have h0' : 2 ^ t ≤ n := by
    have : ((2 ^ t : Nat) : Int) ≤ n := by rw [Int.natCast_pow]; exact h0
    omega
  have h1' : n < 2 ^ (t + 1) := by
    have : (n : Int) < ((2 ^ (t + 1) : Nat) : Int) := by rw [Int.natCast_pow]; exact h1
    omega
  exact tab_all ⟨n, by omega⟩ ⟨t, ht⟩ h0' h1'


set_option maxRecDepth 100000 in
/-- How many bits a number below 65536 has. -/
theorem len_small (k : Nat) (x : Int) (h0 : 0 < x) (h1 : x < 65536) : bits_Len64.j0 (k + 1) x 0 = some (if x ≥ 256 then wrap64 (wrap64 (0 + 8) + wrap64 (bt tab ((x / 256) % 256))) else wrap64 (0 + wrap64 (bt tab (x % 256)))) := by
  rw [bits_Len64.j0, if_neg (by omega)]
  by_cases h : x ≥ 256
  · rw [if_pos h, if_pos h, if_pos (by omega), if_pos (by omega)]
    rfl
  · rw [if_neg h, if_neg h, if_pos (by omega), if_pos (by omega)]
    rfl

theorem len_at (j : Nat) (hj : j < 16) (x : Int) (h0 : 2 ^ j ≤ x) (h1 : x < 2 ^ (j + 1)) (k : Nat) : bits_Len.f (k + 1) x = some ((j : Int) + 1) := by
  have hb : 0 < x ∧ x < 65536 := by
    have : j = 0 ∨ j = 1 ∨ j = 2 ∨ j = 3 ∨ j = 4 ∨ j = 5 ∨ j = 6 ∨ j = 7 ∨ j = 8 ∨ j = 9 ∨ j = 10 ∨ j = 11 ∨ j = 12 ∨ j = 13 ∨ j = 14 ∨ j = 15 := by omega
    rcases this with rfl | rfl | rfl | rfl | rfl | rfl | rfl | rfl | rfl | rfl | rfl | rfl | rfl | rfl | rfl | rfl <;> (simp at h0 h1; omega)
  unfold bits_Len.f bits_Len64.f
  rw [if_neg (by omega), len_small k x hb.1 hb.2, Option.bind_some]
  by_cases h8 : j < 8
  · have : x < 256 := by
      have : j = 0 ∨ j = 1 ∨ j = 2 ∨ j = 3 ∨ j = 4 ∨ j = 5 ∨ j = 6 ∨ j = 7 := by omega
      rcases this with rfl | rfl | rfl | rfl | rfl | rfl | rfl | rfl <;> (simp at h0 h1; omega)
    rw [if_neg (by omega), show x % 256 = x from by omega, tab_at x j h8 h0 h1, w64 (x := (j : Int) + 1) (by omega) (by omega), Int.zero_add, w64 (by omega) (by omega)]
  · obtain ⟨t, rfl⟩ : ∃ t, j = t + 8 := ⟨j - 8, by omega⟩
    have ht : t = 0 ∨ t = 1 ∨ t = 2 ∨ t = 3 ∨ t = 4 ∨ t = 5 ∨ t = 6 ∨ t = 7 := by omega
    have hx : 256 ≤ x ∧ 2 ^ t ≤ x / 256 ∧ x / 256 < 2 ^ (t + 1) := by
      rcases ht with rfl | rfl | rfl | rfl | rfl | rfl | rfl | rfl <;> (simp at h0 h1 ⊢; omega)
    rw [if_pos (by omega), show (x / 256) % 256 = x / 256 from by omega, tab_at (x / 256) t (by omega) hx.2.1 hx.2.2, w64 (x := (t : Int) + 1) (by omega) (by omega), w64 (x := 0 + 8) (by omega) (by omega), w64 (by omega) (by omega)]
    congr 1
    omega

/-- The document's rows of lengths, and of distances. -/
def rowsL : List S96 := [⟨257, 3, 0⟩, ⟨258, 4, 0⟩, ⟨259, 5, 0⟩, ⟨260, 6, 0⟩, ⟨261, 7, 0⟩, ⟨262, 8, 0⟩, ⟨263, 9, 0⟩, ⟨264, 10, 0⟩, ⟨265, 11, 1⟩, ⟨266, 13, 1⟩, ⟨267, 15, 1⟩, ⟨268, 17, 1⟩, ⟨269, 19, 2⟩, ⟨270, 23, 2⟩, ⟨271, 27, 2⟩, ⟨272, 31, 2⟩, ⟨273, 35, 3⟩, ⟨274, 43, 3⟩, ⟨275, 51, 3⟩, ⟨276, 59, 3⟩, ⟨277, 67, 4⟩, ⟨278, 83, 4⟩, ⟨279, 99, 4⟩, ⟨280, 115, 4⟩, ⟨281, 131, 5⟩, ⟨282, 163, 5⟩, ⟨283, 195, 5⟩, ⟨284, 227, 5⟩, ⟨285, 258, 0⟩]
def rowsD : List S96 := [⟨0, 1, 0⟩, ⟨1, 2, 0⟩, ⟨2, 3, 0⟩, ⟨3, 4, 0⟩, ⟨4, 5, 1⟩, ⟨5, 7, 1⟩, ⟨6, 9, 2⟩, ⟨7, 13, 2⟩, ⟨8, 17, 3⟩, ⟨9, 25, 3⟩, ⟨10, 33, 4⟩, ⟨11, 49, 4⟩, ⟨12, 65, 5⟩, ⟨13, 97, 5⟩, ⟨14, 129, 6⟩, ⟨15, 193, 6⟩, ⟨16, 257, 7⟩, ⟨17, 385, 7⟩, ⟨18, 513, 8⟩, ⟨19, 769, 8⟩, ⟨20, 1025, 9⟩, ⟨21, 1537, 9⟩, ⟨22, 2049, 10⟩, ⟨23, 3073, 10⟩, ⟨24, 4097, 11⟩, ⟨25, 6145, 11⟩, ⟨26, 8193, 12⟩, ⟨27, 12289, 12⟩, ⟨28, 16385, 13⟩, ⟨29, 24577, 13⟩]

theorem lengths_f : montageref07_lengths.f 500 = some rowsL := by kernel_rfl
theorem distances_f : montageref07_distances.f 500 = some rowsD := by kernel_rfl

theorem power_l0 (b : Nat) (hb : b ≤ 40) : ∀ (d i : Nat), b - i = d → i ≤ b → Ev (fun k => montageref07_power.l0 k (b : Int) (2 ^ i) (i : Int)) (2 ^ b) := by
  intro d
  induction d with
  | zero =>
    intro i hd hi
    obtain rfl : i = b := by omega
    refine Ev.step (f := fun _ => some (2 ^ i)) (fun k => ?_) (Ev.now _)
    simp only [montageref07_power.l0]
    rw [if_neg (by omega)]
  | succ d ih =>
    intro i hd hi
    have h := ih (i + 1) (by omega) (by omega)
    refine Ev.step (fun k => ?_) h
    have hp : (0 : Int) < 2 ^ i ∧ (2 : Int) ^ i ≤ 2 ^ 40 := ⟨Int.pow_pos (by omega), by
      have := Nat.pow_le_pow_right (n := 2) (by omega) (show i ≤ 40 by omega)
      have h2 : ((2 ^ i : Nat) : Int) ≤ ((2 ^ 40 : Nat) : Int) := Int.ofNat_le.2 this
      rw [Int.natCast_pow, Int.natCast_pow] at h2
      exact h2⟩
    have hs : (2 : Int) ^ (i + 1) = 2 * 2 ^ i := by rw [Int.pow_succ, Int.mul_comm]
    have h40 : (2 : Int) ^ 40 = 1099511627776 := by decide
    simp only [montageref07_power.l0]
    rw [if_pos (by omega), w64 (x := 2 * 2 ^ i) (by omega) (by omega), w64 (by omega) (by omega), hs, cast1]

theorem power_f (b : Nat) (hb : b ≤ 40) : Ev (fun k => montageref07_power.f k (b : Int)) (2 ^ b) := by
  refine Ev.congr (fun k => ?_) (power_l0 b hb b 0 rfl (by omega))
  unfold montageref07_power.f
  rfl

theorem rd_row (l : List S96) (i : Nat) (h : i < l.length) : rd_T96 l (i : Int) = l[i] := by
  unfold rd_T96
  rw [Int.toNat_natCast, List.getD_eq_getElem?_getD, List.getElem?_eq_getElem h]
  rfl

/-- The rows in short: the first number and the bits, by place. -/
def baseL (p : Nat) : Int := (rowsL.getD p z96).f1
def bitsL (p : Nat) : Nat := (rowsL.getD p z96).f2.toNat
def baseD (p : Nat) : Int := (rowsD.getD p z96).f1
def bitsD (p : Nat) : Nat := (rowsD.getD p z96).f2.toNat

theorem rowsL_at : ∀ p : Fin 29, ∃ h : p.val < rowsL.length, rowsL[p.val].f0 = 257 + p.val ∧ rowsL[p.val].f1 = baseL p.val ∧ rowsL[p.val].f2 = bitsL p.val ∧ bitsL p.val ≤ 5 ∧ 3 ≤ baseL p.val ∧ baseL p.val ≤ 258 := by decide +kernel
theorem rowsD_at : ∀ p : Fin 30, ∃ h : p.val < rowsD.length, rowsD[p.val].f0 = p.val ∧ rowsD[p.val].f1 = baseD p.val ∧ rowsD[p.val].f2 = bitsD p.val ∧ bitsD p.val ≤ 13 ∧ 1 ≤ baseD p.val ∧ baseD p.val ≤ 24577 := by decide +kernel
theorem rowsL_of (p : Nat) (hp : p < 29) : ∃ h : p < rowsL.length, rowsL[p].f0 = 257 + p ∧ rowsL[p].f1 = baseL p ∧ rowsL[p].f2 = bitsL p ∧ bitsL p ≤ 5 ∧ 3 ≤ baseL p ∧ baseL p ≤ 258 := rowsL_at ⟨p, hp⟩
theorem rowsD_of (p : Nat) (hp : p < 30) : ∃ h : p < rowsD.length, rowsD[p].f0 = p ∧ rowsD[p].f1 = baseD p ∧ rowsD[p].f2 = bitsD p ∧ bitsD p ≤ 13 ∧ 1 ≤ baseD p ∧ baseD p ≤ 24577 := rowsD_at ⟨p, hp⟩
theorem rowsL_len : rowsL.length = 29 := by decide +kernel
theorem rowsD_len : rowsD.length = 30 := by decide +kernel

theorem pow_le (b c : Nat) (h : b ≤ c) : (2 : Int) ^ b ≤ 2 ^ c := by
  have h1 := Nat.pow_le_pow_right (n := 2) (by omega) h
  have h2 : ((2 ^ b : Nat) : Int) ≤ ((2 ^ c : Nat) : Int) := Int.ofNat_le.2 h1
  rw [Int.natCast_pow, Int.natCast_pow] at h2
  exact h2

theorem pow_ge (b : Nat) : (1 : Int) ≤ 2 ^ b := pow_le 0 b (Nat.zero_le _)

/-- The closed facts of 'whole', place by place. -/
theorem wholeD_at : ∀ p : Fin 30, mx (wrap64 (shr .i64 (p.val : Int) 1 - 1)) 0 = bitsD p.val ∧ shl .i64 1 (bitsD p.val : Int) = 2 ^ bitsD p.val ∧ ((bitsD p.val : Int) = 0 → (p.val : Int) + 1 = baseD p.val) ∧ ((bitsD p.val : Int) ≠ 0 → shl .i64 (wrap64 ((p.val : Int) - shl .i64 (bitsD p.val : Int) 1)) (bitsD p.val : Int) + 1 = baseD p.val) := by decide +kernel
theorem wholeL_at : ∀ p : Fin 28, mx (wrap64 (shr .i64 (p.val : Int) 2 - 1)) 0 = bitsL p.val ∧ shl .i64 1 (bitsL p.val : Int) = 2 ^ bitsL p.val ∧ ((bitsL p.val : Int) = 0 → (p.val : Int) + 3 = baseL p.val) ∧ ((bitsL p.val : Int) ≠ 0 → shl .i64 (wrap64 ((p.val : Int) - shl .i64 (bitsL p.val : Int) 2)) (bitsL p.val : Int) + 3 = baseL p.val) := by decide +kernel
theorem nextD : ∀ p : Fin 29, baseD (p.val + 1) = baseD p.val + 2 ^ bitsD p.val := by decide +kernel
theorem nextL : ∀ p : Fin 27, baseL (p.val + 1) = baseL p.val + 2 ^ bitsL p.val := by decide +kernel
theorem partD : ∀ p : Fin 30, (bitsD p.val = 0 → p.val < 4 ∧ baseD p.val = p.val + 1) ∧ (bitsD p.val ≠ 0 → ∃ q : Fin 4, 2 ≤ q.val ∧ p.val = 2 * bitsD p.val + q.val ∧ baseD p.val = q.val * 2 ^ bitsD p.val + 1) := by decide +kernel
theorem partL : ∀ p : Fin 28, (bitsL p.val = 0 → p.val < 8 ∧ baseL p.val = p.val + 3) ∧ (bitsL p.val ≠ 0 → ∃ q : Fin 8, 4 ≤ q.val ∧ p.val = 4 * bitsL p.val + q.val ∧ baseL p.val = q.val * 2 ^ bitsL p.val + 3) := by decide +kernel

/-- 'whole' of a place with b bits that begins at base. -/
theorem whole_of (p per base m : Int) (b : Nat) (hb : b ≤ 13) (per0 : 0 ≤ per) (off : Int) (hoff : 0 ≤ off ∧ off ≤ 3) (hbase : 0 ≤ base ∧ base ≤ 100000)
    (h1 : mx (wrap64 (shr .i64 p per - 1)) 0 = b) (h2 : shl .i64 1 (b : Int) = 2 ^ b) (h3 : (b : Int) = 0 → p + off = base) (h4 : (b : Int) ≠ 0 → shl .i64 (wrap64 (p - shl .i64 (b : Int) per)) (b : Int) + off = base) :
    Ev (fun k => token_whole.f k p per m) (if 0 ≤ m ∧ m < 2 ^ b then (base - off + m, true) else (0, false)) := by
  have hp := pow_le b 13 hb
  have h13 : (2 : Int) ^ 13 = 8192 := by decide
  by_cases hm : m < 0
  · rw [if_neg (by omega)]
    refine Ev.congr (f := fun k => token_whole.j0 k p per m b true) (fun k => ?_) ?_
    · unfold token_whole.f
      rw [if_pos per0, if_pos hm, h1]
    · refine Ev.step (f := fun _ => some (0, false)) (fun k => ?_) (Ev.now _)
      simp only [token_whole.j0]
      rw [if_pos trivial]
  · by_cases hl : m < 2 ^ b
    · rw [if_pos ⟨by omega, hl⟩]
      refine Ev.congr (f := fun k => token_whole.j0 k p per m b false) (fun k => ?_) ?_
      · unfold token_whole.f
        rw [if_pos per0, if_neg hm, h1, if_pos (by omega), h2, decide_eq_false (by omega)]
      · refine Ev.step (f := fun _ => some (base - off + m, true)) (fun k => ?_) (Ev.now _)
        simp only [token_whole.j0]
        rw [if_neg (by simp)]
        by_cases h0 : (b : Int) = 0
        · have hb0 : b = 0 := by omega
          subst hb0
          have := h3 h0
          have hz : m = 0 := by
            have : (2 : Int) ^ 0 = 1 := by decide
            omega
          rw [if_pos h0, show base - off + m = p from by omega]
        · have h5 := h4 h0
          rw [if_neg h0, if_pos per0, if_pos (by omega), w64 (x := shl .i64 (wrap64 (p - shl .i64 (b : Int) per)) (b : Int) + m) (by omega) (by omega), show shl .i64 (wrap64 (p - shl .i64 (b : Int) per)) (b : Int) = base - off from by omega]
    · rw [if_neg (by omega)]
      refine Ev.congr (f := fun k => token_whole.j0 k p per m b true) (fun k => ?_) ?_
      · unfold token_whole.f
        rw [if_pos per0, if_neg hm, h1, if_pos (by omega), h2, decide_eq_true (by omega)]
      · refine Ev.step (f := fun _ => some (0, false)) (fun k => ?_) (Ev.now _)
        simp only [token_whole.j0]
        rw [if_pos trivial]

/-- What a distance's symbol says. -/
def saysD (s m : Int) : Int × Bool := if 0 ≤ s ∧ s < 30 then (if 0 ≤ m ∧ m < 2 ^ bitsD s.toNat then (baseD s.toNat + m, true) else (0, false)) else (0, false)
def saysL (s m : Int) : Int × Bool := if s = 284 ∧ m = 31 then (0, false) else if 257 ≤ s ∧ s < 286 then (if 0 ≤ m ∧ m < 2 ^ bitsL (s - 257).toNat then (baseL (s - 257).toNat + m, true) else (0, false)) else (0, false)

theorem saysL_285 (m : Int) : saysL 285 m = if m = 0 then (258, true) else (0, false) := by
  have hb : baseL (285 - 257 : Int).toNat = 258 ∧ (2 : Int) ^ bitsL (285 - 257 : Int).toNat = 1 := by decide +kernel
  unfold saysL
  rw [if_neg (by omega), if_pos (by omega), hb.1, hb.2]
  by_cases hm : m = 0
  · subst hm; rfl
  · rw [if_neg hm, if_neg (by omega)]

theorem saysL_out (s m : Int) (h : ¬ (257 ≤ s ∧ s < 286)) : saysL s m = (0, false) := by
  unfold saysL
  rw [if_neg (by omega), if_neg h]

theorem saysL_in (s m : Int) (p : Nat) (h : 257 ≤ s ∧ s < 286) (hp : s - 257 = p) : saysL s m = if p = 27 ∧ m = 31 then (0, false) else if 0 ≤ m ∧ m < 2 ^ bitsL p then (baseL p + m, true) else (0, false) := by
  unfold saysL
  rw [show (s - 257).toNat = p from by omega]
  by_cases hx : p = 27 ∧ m = 31
  · rw [if_pos (by omega), if_pos hx]
  · rw [if_neg (by omega), if_neg hx, if_pos h]

theorem distanceOf (s m : Int) : Ev (fun k => token_DistanceOf.f k s m) (saysD s m) := by
  by_cases h : 0 ≤ s ∧ s < 30
  · obtain ⟨p, rfl⟩ := Int.eq_ofNat_of_zero_le h.1
    have hp : p < 30 := by omega
    obtain ⟨g1, g2, g3, g4⟩ := wholeD_at ⟨p, hp⟩
    obtain ⟨_, _, _, _, g5, g6, g7⟩ := rowsD_of p hp
    have hw := whole_of (p : Int) 1 (baseD p) m (bitsD p) g5 (by omega) 1 (by omega) (by omega) g1 g2 g3 g4
    have hpow := pow_le (bitsD p) 13 g5
    have h13 : (2 : Int) ^ 13 = 8192 := by decide
    have e : ∀ k, token_DistanceOf.f k (p : Int) m = (token_whole.f k (p : Int) 1 m).bind fun bt121 => (if bt121.2 = true then (some (wrap64 (bt121.1 + 1), true)) else (some (0, false))) := by
      intro k
      unfold token_DistanceOf.f token_within.f
      rw [if_pos (by omega), Option.bind_some, if_pos (by simp; omega)]
    refine Ev.congr e (Ev.bind (f := fun _ (bt121 : Int × Bool) => (if bt121.2 = true then (some (wrap64 (bt121.1 + 1), true)) else (some (0, false)))) hw ?_)
    unfold saysD
    rw [if_pos h, Int.toNat_natCast]
    refine Ev.congr (fun k => ?_) (Ev.now _)
    by_cases hm : 0 ≤ m ∧ m < 2 ^ bitsD p
    · rw [if_pos hm, if_pos hm]
      show (if true = true then some (wrap64 (baseD p - 1 + m + 1), true) else _) = _
      rw [if_pos rfl, w64 (by omega) (by omega), show baseD p - 1 + m + 1 = baseD p + m from by omega]
    · rw [if_neg hm, if_neg hm]
      rfl
  · refine Ev.congr (fun k => ?_) (Ev.now _)
    have hs : saysD s m = (0, false) := by unfold saysD; rw [if_neg h]
    rw [hs]
    unfold token_DistanceOf.f token_within.f
    by_cases h0 : s ≥ 0
    · rw [if_pos h0, Option.bind_some, decide_eq_false (by omega)]
      rfl
    · rw [if_neg h0]
      rfl

theorem lengthOf (s m : Int) : Ev (fun k => token_LengthOf.f k s m) (saysL s m) := by
  by_cases h : 257 ≤ s ∧ s < 286
  · have hin : ∀ k, token_LengthOf.f k s m = (if s = 285 then (if m = 0 then (some (258, true)) else (some (0, false))) else ((token_whole.f k (wrap64 (s - 257)) 2 m).bind fun bt140 => (if bt140.2 = true then (if (wrap64 (bt140.1 + 3)) ≥ 258 then (some (0, false)) else (some (wrap64 (bt140.1 + 3), true))) else (some (0, false))))) := by
      intro k
      unfold token_LengthOf.f token_within.f
      rw [if_pos (by omega), Option.bind_some, if_pos (by simp; omega)]
    refine Ev.congr hin ?_
    by_cases h285 : s = 285
    · subst h285
      rw [saysL_285]
      refine Ev.congr (fun k => ?_) (Ev.now _)
      rw [if_pos rfl]
      by_cases hm : m = 0
      · rw [if_pos hm, if_pos hm]
      · rw [if_neg hm, if_neg hm]
    · obtain ⟨p, hp⟩ := Int.eq_ofNat_of_zero_le (show 0 ≤ s - 257 by omega)
      have hp28 : p < 28 := by omega
      obtain ⟨g1, g2, g3, g4⟩ := wholeL_at ⟨p, hp28⟩
      obtain ⟨_, _, _, _, g5, g6, g7⟩ := rowsL_of p (by omega)
      have hw := whole_of (p : Int) 2 (baseL p) m (bitsL p) (Nat.le_trans g5 (by omega)) (by omega) 3 (by omega) (by omega) g1 g2 g3 g4
      have hpow := pow_le (bitsL p) 5 g5
      have h5 : (2 : Int) ^ 5 = 32 := by decide
      have e : ∀ k, (if s = 285 then (if m = 0 then (some ((258 : Int), true)) else (some (0, false))) else ((token_whole.f k (wrap64 (s - 257)) 2 m).bind fun bt140 => (if bt140.2 = true then (if (wrap64 (bt140.1 + 3)) ≥ 258 then (some (0, false)) else (some (wrap64 (bt140.1 + 3), true))) else (some (0, false))))) = ((token_whole.f k (p : Int) 2 m).bind fun bt140 => (if bt140.2 = true then (if (wrap64 (bt140.1 + 3)) ≥ 258 then (some (0, false)) else (some (wrap64 (bt140.1 + 3), true))) else (some (0, false)))) := by
        intro k
        rw [if_neg h285, w64 (by omega) (by omega), hp]
      refine Ev.congr e (Ev.bind (f := fun _ (bt140 : Int × Bool) => (if bt140.2 = true then (if (wrap64 (bt140.1 + 3)) ≥ 258 then (some (0, false)) else (some (wrap64 (bt140.1 + 3), true))) else (some (0, false)))) hw ?_)
      refine Ev.congr (fun k => ?_) (Ev.now _)
      have hend : p < 27 → baseL p + 2 ^ bitsL p ≤ 227 := by
        have : ∀ p : Fin 27, baseL p.val + 2 ^ bitsL p.val ≤ 227 := by decide +kernel
        exact fun h => this ⟨p, h⟩
      have h27 : baseL 27 = 227 ∧ (2 : Int) ^ bitsL 27 = 32 := by decide +kernel
      rw [saysL_in s m p h hp]
      by_cases hm : 0 ≤ m ∧ m < 2 ^ bitsL p
      · rw [if_pos hm, if_pos hm]
        show (if true = true then (if (wrap64 (baseL p - 3 + m + 3)) ≥ 258 then (some (0, false)) else (some (wrap64 (baseL p - 3 + m + 3), true))) else _) = _
        rw [if_pos rfl, w64 (by omega) (by omega), show baseL p - 3 + m + 3 = baseL p + m from by omega]
        by_cases hx : p = 27 ∧ m = 31
        · rw [if_pos hx]
          obtain ⟨rfl, hx⟩ := hx
          rw [if_pos (by omega)]
        · rw [if_neg hx]
          have : baseL p + m < 258 := by
            by_cases h27' : p < 27
            · have := hend h27'; omega
            · obtain rfl : p = 27 := by omega
              omega
          rw [if_neg (by omega)]
      · rw [if_neg hm, if_neg hm]
        show some ((0 : Int), false) = _
        split <;> rfl
  · refine Ev.congr (fun k => ?_) (Ev.now _)
    rw [saysL_out s m h]
    unfold token_LengthOf.f token_within.f
    by_cases h0 : s ≥ 257
    · rw [if_pos h0, Option.bind_some, decide_eq_false (by omega)]
      rfl
    · rw [if_neg h0]
      rfl

/-- The place of a number from q times 2 to the power of b on. -/
theorem parted_of (per : Nat) (hper : per = 1 ∨ per = 2) (b q : Nat) (hb1 : 1 ≤ b) (hb : b ≤ 13) (hq : (per = 1 ∧ 2 ≤ q ∧ q < 4) ∨ (per = 2 ∧ 4 ≤ q ∧ q < 8 ∧ b ≤ 12)) (r : Int) (r0 : 0 ≤ r) (r1 : r < 2 ^ b) :
    Ev (fun k => token_parted.f k ((q : Int) * 2 ^ b + r) per) ((2 ^ per : Int) * b + q, b, r) := by
  have hP := pow_le b 13 hb
  have hP1 := pow_le 1 b hb1
  have h13 : (2 : Int) ^ 13 = 8192 := by decide
  have e1 : (2 : Int) ^ (b + 1) = 2 ^ b * 2 := Int.pow_succ _ _
  have e2 : (2 : Int) ^ (b + 2) = 2 ^ b * 2 * 2 := by rw [Int.pow_succ, Int.pow_succ]
  have e3 : (2 : Int) ^ (b + 3) = 2 ^ b * 2 * 2 * 2 := by rw [Int.pow_succ, Int.pow_succ, Int.pow_succ]
  obtain ⟨P, hPe⟩ : ∃ P : Int, P = 2 ^ b := ⟨_, rfl⟩
  rw [← hPe] at hP hP1 r1 e1 e2 e3 ⊢
  have hq' : (per = 1 ∧ (q = 2 ∨ q = 3)) ∨ (per = 2 ∧ (q = 4 ∨ q = 5 ∨ q = 6 ∨ q = 7) ∧ b ≤ 12) := by omega
  obtain ⟨x, hx⟩ : ∃ x : Int, x = (q : Int) * P + r := ⟨_, rfl⟩
  rw [← hx]
  have hlo : P * 2 ^ per ≤ x ∧ x < P * 2 ^ per * 2 ∧ x < 65536 := by
    rcases hq' with ⟨rfl, rfl | rfl⟩ | ⟨rfl, rfl | rfl | rfl | rfl, h12⟩
    · have : (2 : Int) ^ 1 = 2 := by decide
      rw [this]; refine ⟨by omega, by omega, by omega⟩
    · have : (2 : Int) ^ 1 = 2 := by decide
      rw [this]; refine ⟨by omega, by omega, by omega⟩
    all_goals
      have : (2 : Int) ^ 2 = 4 := by decide
      have h12' := pow_le b 12 h12
      have h4096 : (2 : Int) ^ 12 = 4096 := by decide
      rw [← hPe] at h12'
      rw [this]; refine ⟨by omega, by omega, by omega⟩
  have hlen : ∀ k, bits_Len.f (k + 1) x = some (((b + per : Nat) : Int) + 1) := by
    intro k
    refine len_at (b + per) (by omega) x ?_ ?_ k
    · rw [Int.pow_add, ← hPe]; exact hlo.1
    · rw [Int.pow_succ, Int.pow_add, ← hPe]; exact hlo.2.1
  have hdiv : x / P = q := by
    rw [hx, Int.add_comm, Int.add_mul_ediv_right _ _ (by omega), Int.ediv_eq_zero_of_lt r0 r1, Int.zero_add]
  have hmod : x % P = r := by
    rw [hx, Int.add_comm, Int.add_mul_emod_self_right, Int.emod_eq_of_lt r0 r1]
  have hshr : shr .i64 x (b : Int) = q := by
    unfold shr
    rw [Int.toNat_natCast, Nat.min_eq_left (by show b ≤ 64; omega), ← hPe, hdiv]
  have hshl1 : shl .i64 1 (b : Int) = P := by
    unfold shl
    rw [Int.toNat_natCast, Nat.min_eq_left (by show b ≤ 64; omega), ← hPe, Go.Proofs.YtlgdjacgdflfaaaW.PrintLast.i64_w, Int.one_mul, w64 (by omega) (by omega)]
  have hand : Go.bits .and .i64 x (P - 1) = r := by
    have h := Go.bits_mask .i64 63 (by decide) (fun n h0 h1 => by
      have : (2 : Int) ^ 63 = 9223372036854775808 := by decide
      rw [Go.IntKind.wrap_i64]; omega) b (by omega) x (by omega) (by
      have : (2 : Int) ^ 63 = 9223372036854775808 := by decide
      omega)
    rw [← hPe, hmod] at h
    exact h
  have hshlb : shl .i64 (b : Int) (per : Int) = (2 ^ per : Int) * b := by
    rcases hper with rfl | rfl
    · unfold shl
      show IntKind.i64.wrap ((b : Int) * 2 ^ 1) = 2 ^ 1 * (b : Int)
      rw [Go.Proofs.YtlgdjacgdflfaaaW.PrintLast.i64_w, w64 (by omega) (by omega)]
      omega
    · unfold shl
      show IntKind.i64.wrap ((b : Int) * 2 ^ 2) = 2 ^ 2 * (b : Int)
      rw [Go.Proofs.YtlgdjacgdflfaaaW.PrintLast.i64_w, w64 (by omega) (by omega)]
      omega
  have h2per : shl .i64 2 (per : Int) ≤ x := by
    rcases hper with rfl | rfl
    · rw [show shl .i64 2 ((1 : Nat) : Int) = 4 from by decide +kernel]
      rcases hq' with ⟨_, rfl | rfl⟩ | ⟨h, _⟩
      · omega
      · omega
      · omega
    · rw [show shl .i64 2 ((2 : Nat) : Int) = 8 from by decide +kernel]
      rcases hq' with ⟨h, _⟩ | ⟨_, rfl | rfl | rfl | rfl, _⟩
      · omega
      all_goals omega
  have hu : IntKind.u64.wrap x = x := by
    rw [show IntKind.u64.wrap x = x % 18446744073709551616 from by simp [IntKind.wrap, IntKind.bits, IntKind.signed]]
    omega
  refine ⟨1, fun k hk => ?_⟩
  obtain ⟨k, rfl⟩ : ∃ m, k = m + 1 := ⟨k - 1, by omega⟩
  have hw2 : wrap64 (wrap64 (((b + per : Nat) : Int) + 1 - 1) - (per : Int)) = (b : Int) := by
    rw [w64 (x := ((b + per : Nat) : Int) + 1 - 1) (by omega) (by omega), w64 (by omega) (by omega)]
    omega
  show token_parted.f (k + 1) x per = _
  unfold token_parted.f
  rw [if_pos (by omega), if_neg (by omega), hu, hlen, Option.bind_some, hw2, if_pos (by omega), hshlb, hshr, hshl1, w64 (x := P - 1) (by omega) (by omega), hand, w64 (by rcases hper with rfl | rfl <;> (simp; omega)) (by rcases hper with rfl | rfl <;> (simp; omega))]

/-- A distance's symbol, by its row. -/
theorem distance_at (p : Nat) (hp : p < 30) (m : Int) (m0 : 0 ≤ m) (m1 : m < 2 ^ bitsD p) : Ev (fun k => token_Distance.f k (baseD p + m)) ((p : Int), (bitsD p : Int), m, true) := by
  obtain ⟨_, _, _, _, g5, g6, g7⟩ := rowsD_of p hp
  obtain ⟨g8, g9⟩ := partD ⟨p, hp⟩
  have hpow := pow_le (bitsD p) 13 g5
  have h13 : (2 : Int) ^ 13 = 8192 := by decide
  have e : ∀ k, token_Distance.f k (baseD p + m) = (token_parted.f k (baseD p + m - 1) 1).bind fun bt136 => (some (bt136.1, bt136.2.1, bt136.2.2, true)) := by
    intro k
    unfold token_Distance.f token_within.f
    rw [if_pos (by omega), Option.bind_some, if_pos (by simp; omega), w64 (by omega) (by omega)]
  refine Ev.congr e ?_
  by_cases hb : bitsD p = 0
  · obtain ⟨h4, hbase⟩ := g8 hb
    have hm : m = 0 := by
      rw [hb] at m1
      have : (2 : Int) ^ 0 = 1 := by decide
      omega
    have hbase' : baseD p = p + 1 := hbase
    have h4' : p < 4 := h4
    refine Ev.congr (fun k => ?_) (Ev.now _)
    have : token_parted.f k (baseD p + m - 1) 1 = some (baseD p + m - 1, 0, 0) := by
      unfold token_parted.f
      rw [if_pos (by omega), show shl .i64 2 1 = 4 from by decide +kernel, if_pos (by omega)]
    rw [this, Option.bind_some]
    show some (baseD p + m - 1, (0 : Int), (0 : Int), true) = _
    rw [hb, hm, hbase']
    simp
  · obtain ⟨q, hq2, hpq, hbase⟩ := g9 hb
    have hpq' : p = 2 * bitsD p + q.val := hpq
    have hbase' : baseD p = q.val * 2 ^ bitsD p + 1 := hbase
    have hpart := parted_of 1 (.inl rfl) (bitsD p) q.val (by omega) g5 (.inl ⟨rfl, hq2, q.isLt⟩) m m0 m1
    rw [show baseD p + m - 1 = (q.val : Int) * 2 ^ bitsD p + m from by omega]
    refine Ev.bind (f := fun _ (bt136 : Int × Int × Int) => (some (bt136.1, bt136.2.1, bt136.2.2, true))) hpart ?_
    refine Ev.congr (fun k => ?_) (Ev.now _)
    show some ((2 ^ 1 : Int) * (bitsD p : Int) + (q.val : Int), (bitsD p : Int), m, true) = _
    rw [show (2 ^ 1 : Int) * (bitsD p : Int) + (q.val : Int) = (p : Int) from by omega]

/-- A length's symbol, by its row. -/
theorem length_at (p : Nat) (hp : p < 28) (m : Int) (m0 : 0 ≤ m) (m1 : m < 2 ^ bitsL p) (hmax : baseL p + m < 258) : Ev (fun k => token_Length.f k (baseL p + m)) (257 + (p : Int), (bitsL p : Int), m, true) := by
  obtain ⟨_, _, _, _, g5, g6, g7⟩ := rowsL_of p (by omega)
  obtain ⟨g8, g9⟩ := partL ⟨p, hp⟩
  have hpow := pow_le (bitsL p) 5 g5
  have h5 : (2 : Int) ^ 5 = 32 := by decide
  have g6' : 3 ≤ baseL p := g6
  have e : ∀ k, token_Length.f k (baseL p + m) = (token_parted.f k (baseL p + m - 3) 2).bind fun bt117 => (some (wrap64 (257 + bt117.1), bt117.2.1, bt117.2.2, true)) := by
    intro k
    unfold token_Length.f token_within.f
    rw [if_pos (by omega), Option.bind_some, if_pos (by simp; omega), if_neg (by omega), w64 (by omega) (by omega)]
  refine Ev.congr e ?_
  by_cases hb : bitsL p = 0
  · obtain ⟨h8, hbase⟩ := g8 hb
    have hm : m = 0 := by
      rw [hb] at m1
      have : (2 : Int) ^ 0 = 1 := by decide
      omega
    have hbase' : baseL p = p + 3 := hbase
    have h8' : p < 8 := h8
    refine Ev.congr (fun k => ?_) (Ev.now _)
    have : token_parted.f k (baseL p + m - 3) 2 = some (baseL p + m - 3, 0, 0) := by
      unfold token_parted.f
      rw [if_pos (by omega), show shl .i64 2 2 = 8 from by decide +kernel, if_pos (by omega)]
    rw [this, Option.bind_some]
    show some (wrap64 (257 + (baseL p + m - 3)), (0 : Int), (0 : Int), true) = _
    rw [w64 (by omega) (by omega), hb, hm, hbase']
    simp
  · obtain ⟨q, hq4, hpq, hbase⟩ := g9 hb
    have hpq' : p = 4 * bitsL p + q.val := hpq
    have hbase' : baseL p = q.val * 2 ^ bitsL p + 3 := hbase
    have g5' : bitsL p ≤ 5 := g5
    have hpart := parted_of 2 (.inr rfl) (bitsL p) q.val (by omega) (by omega) (.inr ⟨rfl, hq4, q.isLt, by omega⟩) m m0 m1
    rw [show baseL p + m - 3 = (q.val : Int) * 2 ^ bitsL p + m from by omega]
    refine Ev.bind (f := fun _ (bt117 : Int × Int × Int) => (some (wrap64 (257 + bt117.1), bt117.2.1, bt117.2.2, true))) hpart ?_
    refine Ev.congr (fun k => ?_) (Ev.now _)
    show some (wrap64 (257 + ((2 ^ 2 : Int) * (bitsL p : Int) + (q.val : Int))), (bitsL p : Int), m, true) = _
    rw [show (2 ^ 2 : Int) * (bitsL p : Int) + (q.val : Int) = (p : Int) from by omega, w64 (by omega) (by omega)]

theorem length_258 : Ev (fun k => token_Length.f k 258) (285, 0, 0, true) := by
  refine Ev.congr (fun k => ?_) (Ev.now _)
  unfold token_Length.f token_within.f
  rw [if_pos (by omega), Option.bind_some, if_pos (by simp), if_pos rfl]

theorem length_out (n : Int) (h : n < 3 ∨ 258 < n) : Ev (fun k => token_Length.f k n) (0, 0, 0, false) := by
  refine Ev.congr (fun k => ?_) (Ev.now _)
  unfold token_Length.f token_within.f
  by_cases h3 : n ≥ 3
  · rw [if_pos h3, Option.bind_some, decide_eq_false (by omega)]
    rfl
  · rw [if_neg h3]
    rfl

theorem distance_out (n : Int) (h : n < 1 ∨ 32768 < n) : Ev (fun k => token_Distance.f k n) (0, 0, 0, false) := by
  refine Ev.congr (fun k => ?_) (Ev.now _)
  unfold token_Distance.f token_within.f
  by_cases h3 : n ≥ 1
  · rw [if_pos h3, Option.bind_some, decide_eq_false (by omega)]
    rfl
  · rw [if_neg h3]
    rfl

theorem awake_tok : montagelaw07_awake.f 60 = some true := by kernel_rfl
/-- What the document's search answers at a row. -/
theorem find_at (l : List S96) (hl : l.length ≤ 1000) (a : Nat) (ha : a < l.length) (n : Int) (hn : 0 ≤ n ∧ n ≤ 100000) (hf : 0 ≤ l[a].f1 ∧ l[a].f1 ≤ 100000) (h1 : l[a].f1 ≤ n) (h2 : ∀ i (h : i < l.length), a < i → n < l[i].f1) : ∀ (d i at_ : Nat), l.length - i = d → i ≤ l.length → at_ < l.length → (a < i → at_ = a) → Ev (fun k => montageref07_find.l0 k l n (at_ : Int) (i : Int)) (l[a].f0, l[a].f2, n - l[a].f1) := by
  intro d
  induction d with
  | zero =>
    intro i at_ hd hi hat hai
    obtain rfl : at_ = a := hai (by omega)
    refine Ev.step (f := fun _ => some (l[at_].f0, l[at_].f2, n - l[at_].f1)) (fun k => ?_) (Ev.now _)
    simp only [montageref07_find.l0]
    rw [if_neg (by omega), if_pos (by omega), if_pos (by omega), rd_row l at_ ha, w64 (by omega) (by omega)]
  | succ d ih =>
    intro i at_ hd hi hat hai
    have hlt : i < l.length := by omega
    by_cases hia : a < i
    · refine Ev.step (fun k => ?_) (ih (i + 1) at_ (by omega) (by omega) hat (fun _ => hai hia))
      simp only [montageref07_find.l0]
      have := h2 i hlt hia
      rw [if_pos (by omega), if_pos (by omega), rd_row l i hlt, if_neg (by omega), w64 (by omega) (by omega), cast1]
    · by_cases hie : i = a
      · subst hie
        refine Ev.step (fun k => ?_) (ih (i + 1) i (by omega) (by omega) hlt (fun _ => rfl))
        simp only [montageref07_find.l0]
        rw [if_pos (by omega), if_pos (by omega), rd_row l i hlt, if_pos h1, w64 (by omega) (by omega), cast1]
      · by_cases hc : l[i].f1 ≤ n
        · refine Ev.step (fun k => ?_) (ih (i + 1) i (by omega) (by omega) hlt (fun h => by omega))
          simp only [montageref07_find.l0]
          rw [if_pos (by omega), if_pos (by omega), rd_row l i hlt, if_pos hc, w64 (by omega) (by omega), cast1]
        · refine Ev.step (fun k => ?_) (ih (i + 1) at_ (by omega) (by omega) hat (fun h => by omega))
          simp only [montageref07_find.l0]
          rw [if_pos (by omega), if_pos (by omega), rd_row l i hlt, if_neg hc, w64 (by omega) (by omega), cast1]

theorem riseD : ∀ i j : Fin 30, i.val < j.val → baseD i.val + 2 ^ bitsD i.val ≤ baseD j.val := by decide +kernel
theorem riseL : ∀ i j : Fin 28, i.val < j.val → baseL i.val + 2 ^ bitsL i.val ≤ baseL j.val := by decide +kernel

theorem cover (base : Nat → Int) (bits : Nat → Nat) (n : Int) : ∀ (m : Nat), (∀ p, p < m → base (p + 1) = base p + 2 ^ bits p) → base 0 ≤ n → n < base m → ∃ p, p < m ∧ base p ≤ n ∧ n < base p + 2 ^ bits p
  | 0, _, h0, h1 => by omega
  | m + 1, hn, h0, h1 => by
    by_cases h : n < base m
    · obtain ⟨p, hp, h2⟩ := cover base bits n m (fun p hp => hn p (by omega)) h0 h
      exact ⟨p, by omega, h2⟩
    · have := hn m (by omega)
      exact ⟨m, by omega, by omega, by omega⟩

theorem coverD (n : Int) (h0 : 1 ≤ n) (h1 : n ≤ 32768) : ∃ p, p < 30 ∧ baseD p ≤ n ∧ n < baseD p + 2 ^ bitsD p := by
  have e0 : baseD 0 = 1 ∧ baseD 29 = 24577 ∧ (2 : Int) ^ bitsD 29 = 8192 := by decide +kernel
  by_cases h : n < baseD 29
  · obtain ⟨p, hp, h2⟩ := cover baseD bitsD n 29 (fun p hp => nextD ⟨p, hp⟩) (by omega) h
    exact ⟨p, by omega, h2⟩
  · exact ⟨29, by omega, by omega, by omega⟩

theorem coverL (n : Int) (h0 : 3 ≤ n) (h1 : n ≤ 257) : ∃ p, p < 28 ∧ baseL p ≤ n ∧ n < baseL p + 2 ^ bitsL p := by
  have e0 : baseL 0 = 3 ∧ baseL 27 = 227 ∧ (2 : Int) ^ bitsL 27 = 32 := by decide +kernel
  by_cases h : n < baseL 27
  · obtain ⟨p, hp, h2⟩ := cover baseL bitsL n 27 (fun p hp => nextL ⟨p, hp⟩) (by omega) h
    exact ⟨p, by omega, h2⟩
  · exact ⟨27, by omega, by omega, by omega⟩

/-- Length: both texts' answer; and it says the length again. -/
theorem length_both (n : Int) : ∃ a b c : Int, ∃ ok : Bool, Ev (fun k => token_Length.f k n) (a, b, c, ok) ∧ Ev (fun k => montageref07_Length.f k n) (a, b, c, ok) ∧ (ok = true → saysL a c = (n, true)) := by
  have hout : n < 3 ∨ 258 < n → Ev (fun k => montageref07_Length.f k n) (0, 0, 0, false) := by
    intro h
    have hj : Ev (fun k => montageref07_Length.j0 k n true) (0, 0, 0, false) := by
      refine Ev.step (f := fun _ => some (0, 0, 0, false)) (fun k => ?_) (Ev.now _)
      simp only [montageref07_Length.j0]
      rw [if_pos trivial]
    refine Ev.congr (fun k => ?_) hj
    unfold montageref07_Length.f
    by_cases h3 : n < 3
    · rw [if_pos h3]
    · rw [if_neg h3, decide_eq_true (by omega)]
  have hin : 3 ≤ n → n ≤ 258 → ∀ a b c, Ev (fun k => montageref07_find.f k rowsL n) (a, b, c) → Ev (fun k => montageref07_Length.f k n) (a, b, c, true) := by
    intro h3 h258 a b c hf
    have hj : Ev (fun k => montageref07_Length.j0 k n false) (a, b, c, true) := by
      refine Ev.step (fun k => ?_) (Ev.bind (f := fun k (t : List S96) => (montageref07_find.f k t n).bind fun b => some (b.1, b.2.1, b.2.2, true)) (Ev.of montageref07_lengths.mono lengths_f) (Ev.bind (f := fun _ (b : Int × Int × Int) => some (b.1, b.2.1, b.2.2, true)) hf (Ev.now _)))
      simp only [montageref07_Length.j0]
      rw [if_neg (by simp)]
    refine Ev.congr (fun k => ?_) hj
    unfold montageref07_Length.f
    rw [if_neg (by omega), decide_eq_false (by omega)]
  by_cases h : n < 3 ∨ 258 < n
  · exact ⟨_, _, _, _, length_out n h, hout h, fun h => absurd h (by simp)⟩
  · by_cases h258 : n = 258
    · subst h258
      obtain ⟨hl, g2, g3, g4, g5, g6, g7⟩ := rowsL_of 28 (by omega)
      have e28 : baseL 28 = 258 ∧ bitsL 28 = 0 := by decide +kernel
      have hf := find_at rowsL (by rw [rowsL_len]; omega) 28 hl 258 (by omega) (by omega) (by omega) (fun i hi h => by rw [rowsL_len] at hi; omega) rowsL.length 0 0 rfl (by omega) (by omega) (fun h => by omega)
      rw [g2, g3, g4, e28.1, e28.2] at hf
      exact ⟨_, _, _, _, length_258, hin (by omega) (by omega) 285 0 0 hf, fun _ => by rw [saysL_285]; rfl⟩
    · obtain ⟨p, hp, c0, c1⟩ := coverL n (by omega) (by omega)
      obtain ⟨hl, g2, g3, g4, g5, g6, g7⟩ := rowsL_of p (by omega)
      have hlen := length_at p hp (n - baseL p) (by omega) (by omega) (by omega)
      rw [show baseL p + (n - baseL p) = n from by omega] at hlen
      have e28 : baseL 28 = 258 := by decide +kernel
      have hf := find_at rowsL (by rw [rowsL_len]; omega) p hl n (by omega) (by omega) (by omega) (fun i hi h => by
        have hi' : i < 29 := by rw [rowsL_len] at hi; exact hi
        obtain ⟨_, _, g, _⟩ := rowsL_of i hi'
        rw [g]
        by_cases h28 : i = 28
        · subst h28; omega
        · have := riseL ⟨p, hp⟩ ⟨i, by omega⟩ h
          have this' : baseL p + 2 ^ bitsL p ≤ baseL i := this
          omega) rowsL.length 0 0 rfl (by omega) (by omega) (fun h => by omega)
      rw [g2, g3, g4] at hf
      refine ⟨_, _, _, _, hlen, hin (by omega) (by omega) _ _ _ hf, fun _ => ?_⟩
      rw [saysL_in (257 + (p : Int)) (n - baseL p) p (by omega) (by omega)]
      have hp27 : ¬ (p = 27 ∧ n - baseL p = 31) := by
        rintro ⟨rfl, h⟩
        have e27 : baseL 27 = 227 := by decide +kernel
        omega
      rw [if_neg hp27, if_pos (by omega), show baseL p + (n - baseL p) = n from by omega]

theorem distance_both (n : Int) : ∃ a b c : Int, ∃ ok : Bool, Ev (fun k => token_Distance.f k n) (a, b, c, ok) ∧ Ev (fun k => montageref07_Distance.f k n) (a, b, c, ok) ∧ (ok = true → saysD a c = (n, true)) := by
  by_cases h : n < 1 ∨ 32768 < n
  · have hj : Ev (fun k => montageref07_Distance.j0 k n true) (0, 0, 0, false) := by
      refine Ev.step (f := fun _ => some (0, 0, 0, false)) (fun k => ?_) (Ev.now _)
      simp only [montageref07_Distance.j0]
      rw [if_pos trivial]
    refine ⟨_, _, _, _, distance_out n h, Ev.congr (fun k => ?_) hj, fun h => absurd h (by simp)⟩
    unfold montageref07_Distance.f
    by_cases h3 : n < 1
    · rw [if_pos h3]
    · rw [if_neg h3, decide_eq_true (by omega)]
  · obtain ⟨p, hp, c0, c1⟩ := coverD n (by omega) (by omega)
    obtain ⟨hl, g2, g3, g4, g5, g6, g7⟩ := rowsD_of p hp
    have hdist := distance_at p hp (n - baseD p) (by omega) (by omega)
    rw [show baseD p + (n - baseD p) = n from by omega] at hdist
    have hf := find_at rowsD (by rw [rowsD_len]; omega) p hl n (by omega) (by omega) (by omega) (fun i hi h => by
      have hi' : i < 30 := by rw [rowsD_len] at hi; exact hi
      obtain ⟨_, _, g, _⟩ := rowsD_of i hi'
      rw [g]
      have := riseD ⟨p, hp⟩ ⟨i, hi'⟩ h
      have this' : baseD p + 2 ^ bitsD p ≤ baseD i := this
      omega) rowsD.length 0 0 rfl (by omega) (by omega) (fun h => by omega)
    rw [g2, g3, g4] at hf
    have hj : Ev (fun k => montageref07_Distance.j0 k n false) ((p : Int), (bitsD p : Int), n - baseD p, true) := by
      refine Ev.step (fun k => ?_) (Ev.bind (f := fun k (t : List S96) => (montageref07_find.f k t n).bind fun b => some (b.1, b.2.1, b.2.2, true)) (Ev.of montageref07_distances.mono distances_f) (Ev.bind (f := fun _ (b : Int × Int × Int) => some (b.1, b.2.1, b.2.2, true)) hf (Ev.now _)))
      simp only [montageref07_Distance.j0]
      rw [if_neg (by simp)]
    refine ⟨_, _, _, _, hdist, Ev.congr (fun k => ?_) hj, fun _ => ?_⟩
    · unfold montageref07_Distance.f
      rw [if_neg (by omega), decide_eq_false (by omega)]
    · unfold saysD
      rw [if_pos (by omega), Int.toNat_natCast, if_pos (by omega), show baseD p + (n - baseD p) = n from by omega]

theorem TokenSymbols : montagelaw07_TokenSymbols.Pure := by
  intro n d _ _
  obtain ⟨a, b, c, ok, ⟨k1, h1⟩, ⟨k2, h2⟩, c1⟩ := length_both n
  obtain ⟨e, f, g, is, ⟨k3, h3⟩, ⟨k4, h4⟩, c3⟩ := distance_both d
  obtain ⟨k5, h5⟩ := lengthOf a c
  obtain ⟨k6, h6⟩ := distanceOf e g
  obtain ⟨x, x2, hx⟩ : ∃ x x2, saysL a c = (x, x2) := ⟨_, _, rfl⟩
  obtain ⟨y, y2, hy⟩ : ∃ y y2, saysD e g = (y, y2) := ⟨_, _, rfl⟩
  rw [hx] at h5 c1
  rw [hy] at h6 c3
  have hj : Ev (fun k => montagelaw07_TokenSymbols.j0 k n d a c ok e g is false) true := by
    refine ⟨k5 + k6 + 1, fun k hk => ?_⟩
    obtain ⟨k, rfl⟩ : ∃ m, k = m + 1 := ⟨k - 1, by omega⟩
    have e5 : token_LengthOf.f k a c = some (x, x2) := h5 k (by omega)
    have e6 : token_DistanceOf.f k e g = some (y, y2) := h6 k (by omega)
    simp only [montagelaw07_TokenSymbols.j0]
    rw [if_neg (by simp), e5, e6]
    simp only [Option.bind_some]
    cases ok with
    | true =>
      obtain ⟨r1, r2⟩ := Prod.mk.inj (c1 rfl)
      rw [if_pos rfl, if_pos r1, if_pos r2]
      cases is with
      | true =>
        obtain ⟨r3, r4⟩ := Prod.mk.inj (c3 rfl)
        rw [if_pos rfl, if_pos r3, r4]
      | false => rw [if_neg (by simp)]
    | false =>
      rw [if_neg (by simp)]
      cases is with
      | true =>
        obtain ⟨r3, r4⟩ := Prod.mk.inj (c3 rfl)
        rw [if_pos rfl, if_pos r3, r4]
      | false => rw [if_neg (by simp)]
  obtain ⟨k7, h7⟩ := hj
  refine ⟨60 + k1 + k2 + k3 + k4 + k7, ?_⟩
  have ha : montagelaw07_awake.f (60 + k1 + k2 + k3 + k4 + k7) = some true := at_rounds (g := fun k => montagelaw07_awake.f k) montagelaw07_awake.mono (k := 60) (k' := 60 + k1 + k2 + k3 + k4 + k7) (by omega) awake_tok
  have e1 : token_Length.f (60 + k1 + k2 + k3 + k4 + k7) n = some (a, b, c, ok) := h1 _ (by omega)
  have e2 : montageref07_Length.f (60 + k1 + k2 + k3 + k4 + k7) n = some (a, b, c, ok) := h2 _ (by omega)
  have e3 : token_Distance.f (60 + k1 + k2 + k3 + k4 + k7) d = some (e, f, g, is) := h3 _ (by omega)
  have e4 : montageref07_Distance.f (60 + k1 + k2 + k3 + k4 + k7) d = some (e, f, g, is) := h4 _ (by omega)
  have e7 : montagelaw07_TokenSymbols.j0 (60 + k1 + k2 + k3 + k4 + k7) n d a c ok e g is false = some true := h7 _ (by omega)
  unfold montagelaw07_TokenSymbols.f
  rw [ha, Option.bind_some, if_pos rfl, e1, Option.bind_some, e2, Option.bind_some, e3, Option.bind_some, e4, Option.bind_some]
  show (if a = a then (if b = b then (if c = c then (if (ok != ok) = true then _ else (if e = e then (if f = f then (if g = g then montagelaw07_TokenSymbols.j0 (60 + k1 + k2 + k3 + k4 + k7) n d a c ok e g is (is != is) else _) else _) else _)) else _) else _) else _) = _
  rw [if_pos rfl, if_pos rfl, if_pos rfl, if_neg (by simp), if_pos rfl, if_pos rfl, if_pos rfl, bne_self_eq_false]
  exact e7

end Go.Proofs.Ytlgdjacgdflfaaa.Pure
