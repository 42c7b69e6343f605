/- Bytes that are turned, four in a row at most, turn the CRC: plain facts. It has no conditions. -/
import Derived.Test.YtndcfccbicognaaYCrcLin
namespace Go.Proofs.Ytndcfccbicognaa.XCrcOf
open Go.RowKit Go.Proofs.YtndcfccbicognaaW.PrintWords Go.Proofs.YtndcfccbicognaaW.PrintLast Go.Proofs.YtndcfccbicognaaW.PrintMore
set_option linter.unusedVariables false
set_option linter.unusedSimpArgs false

theorem xor_eq_zero {a b : Nat} (h : a ^^^ b = 0) : a = b := by
  have h1 : a ^^^ b ^^^ b = b := by rw [h, Nat.zero_xor]
  rwa [Nat.xor_assoc, Nat.xor_self, Nat.xor_zero] at h1
theorem S_null (x : Nat) (h : x < 4294967296) (e : S x = 0) : x = 0 := by
  unfold S at e
  have e1 := xor_eq_zero e
  have hx := Nat.mod_two_eq_zero_or_one x
  rcases hx with hx | hx
  · rw [if_neg (by omega)] at e1; omega
  · rw [if_pos hx] at e1; unfold poly at e1; omega
theorem SN_null : ∀ (n x : Nat), x < 4294967296 → SN n x = 0 → x = 0
  | 0, _, _, e => e
  | n + 1, x, h, e => S_null x h (SN_null n (S x) (S_lt x h) e)
theorem Z_inj (x y : Nat) (hx : x < 4294967296) (hy : y < 4294967296) (e : Z x = Z y) : x = y := by
  refine xor_eq_zero (SN_null 8 _ (Nat.xor_lt_two_pow (n := 32) hx hy) ?_)
  rw [SN_xor]
  have : SN 8 x = SN 8 y := e
  rw [this, Nat.xor_self]
theorem U_lin (c c2 : Nat) (b b2 : Nat → Nat) : ∀ k, U (c ^^^ c2) (fun i => b i ^^^ b2 i) k = U c b k ^^^ U c2 b2 k
  | 0 => rfl
  | k + 1 => by
    rw [U, U_lin c c2 b b2 k, U, U, xor4]
    exact SN_xor 8 _ _
/-- A burst of up to four bytes never vanishes. -/
theorem burst (d : Nat → Nat) (hd : ∀ i, d i < 256) (a n : Nat) (h0 : ∀ i, i < a → d i = 0) (h4 : ∀ i, a + 4 ≤ i → d i = 0) (hU : U 0 d n = 0) : ∀ i, i < n → d i = 0 := by
  have hlt : ∀ k, U 0 d k < 4294967296 := fun k => U_lt 0 (by omega) d hd k
  have hz : ∀ k, k ≤ a → U 0 d k = 0 := by
    intro k
    induction k with
    | zero => intro _; rfl
    | succ k ih =>
      intro hk
      rw [U, ih (by omega), h0 k (by omega)]
      exact SN_zero 8
  have hback : ∀ k, Z (U 0 d k ^^^ d k) = 0 → U 0 d k = d k := by
    intro k e
    exact xor_eq_zero (SN_null 8 _ (Nat.xor_lt_two_pow (n := 32) (hlt k) (Nat.lt_trans (hd k) (by omega))) e)
  by_cases hna : n ≤ a
  · intro i hi
    exact h0 i (by omega)
  have hup : ∀ j, j ≤ n → a + 4 ≤ n - j → U 0 d (n - j) = 0 := by
    intro j
    induction j with
    | zero => intro _ _; exact hU
    | succ j ih =>
      intro hj hk
      have h1 := ih (by omega) (by omega)
      rw [show n - j = (n - (j + 1)) + 1 from by omega, U] at h1
      rw [hback _ h1]
      exact h4 _ hk
  obtain ⟨e, he, he1, he2, he3⟩ : ∃ e, U 0 d e = 0 ∧ a < e ∧ e ≤ a + 4 ∧ ∀ i, e ≤ i → i < n → d i = 0 := by
    by_cases h : n ≤ a + 4
    · exact ⟨n, hU, by omega, h, fun i h1 h2 => by omega⟩
    · refine ⟨a + 4, ?_, by omega, by omega, fun i h1 h2 => h4 i h1⟩
      have := hup (n - (a + 4)) (by omega) (by omega)
      rwa [show n - (n - (a + 4)) = a + 4 from by omega] at this
  have main : ∀ j, j ≤ e - a → U 0 d (e - j) < 256 ^ j ∧ (U 0 d (e - j) = 0 → ∀ i, e - j ≤ i → i < e → d i = 0) := by
    intro j
    induction j with
    | zero => intro _; exact ⟨by simp [he], fun _ i h1 h2 => by omega⟩
    | succ j ih =>
      intro hj
      obtain ⟨b1, b2⟩ := ih (by omega)
      obtain ⟨m, hm⟩ : ∃ m, e - (j + 1) = m := ⟨_, rfl⟩
      rw [show e - j = m + 1 from by omega] at b1 b2
      rw [hm]
      have hX : U 0 d (m + 1) = Z (U 0 d m ^^^ d m) := rfl
      obtain ⟨X, hXX⟩ : ∃ X, U 0 d (m + 1) = X := ⟨_, rfl⟩
      rw [hXX] at b1 b2 hX
      have h3 : 256 ^ j ≤ 256 ^ 3 := Nat.pow_le_pow_right (by omega) (by omega)
      have hd0 := hd m
      have key : X * 256 = U 0 d m ^^^ d m := by
        refine Z_inj _ _ (by omega) (Nat.xor_lt_two_pow (n := 32) (hlt m) (Nat.lt_trans hd0 (by omega))) ?_
        rw [← hX]
        exact SN_up 8 X
      have key2 : U 0 d m = X * 256 ^^^ d m := by rw [key, Nat.xor_assoc, Nat.xor_self, Nat.xor_zero]
      refine ⟨?_, fun hz2 => ?_⟩
      · rw [key2, show 256 ^ (j + 1) = 2 ^ (8 * (j + 1)) from by rw [Nat.pow_mul]]
        have h8 : 256 ^ j * 256 = 2 ^ (8 * (j + 1)) := by rw [← Nat.pow_succ, Nat.pow_mul]
        have h9 : 2 ^ 8 ≤ 2 ^ (8 * (j + 1)) := Nat.pow_le_pow_right (by omega) (by omega)
        refine Nat.xor_lt_two_pow (by rw [← h8]; exact Nat.mul_lt_mul_of_pos_right b1 (by omega)) (by omega)
      · rw [key2] at hz2
        have h5 := xor_eq_zero hz2
        have hX0 : X = 0 := by omega
        intro i h6 h7
        by_cases h8 : i = m
        · subst h8; omega
        · exact b2 hX0 i (by omega) h7
  obtain ⟨m1, m2⟩ := main (e - a) (Nat.le_refl _)
  rw [show e - (e - a) = a from by omega] at m2
  have m3 := m2 (hz a (Nat.le_refl _))
  intro i hi
  by_cases h1 : i < a
  · exact h0 i h1
  · by_cases h2 : i < e
    · exact m3 i (by omega) h2
    · exact he3 i (by omega) hi
/-- .. so the CRCs of two texts that differ there alone are other ones. -/
theorem crc_burst (s t : ByteArray) (a : Nat) (hs : s.size = t.size) (h0 : ∀ i, i < a → bn s i = bn t i) (h4 : ∀ i, a + 4 ≤ i → bn s i = bn t i) (h : crcN s = crcN t) : ∀ i, i < s.size → bn s i = bn t i := by
  have h1 : U 4294967295 (bn s) s.size = U 4294967295 (bn t) s.size := by
    have h2 : 4294967295 ^^^ U 4294967295 (bn s) s.size = 4294967295 ^^^ U 4294967295 (bn t) t.size := h
    rw [← hs] at h2
    have h3 := congrArg (fun x => 4294967295 ^^^ x) h2
    simpa [← Nat.xor_assoc] using h3
  have h2 : U 0 (fun i => bn s i ^^^ bn t i) s.size = 0 := by
    have h3 := U_lin 4294967295 4294967295 (bn s) (bn t) s.size
    rw [Nat.xor_self, h1, Nat.xor_self] at h3
    exact h3
  have h3 := burst (fun i => bn s i ^^^ bn t i) (fun i => Nat.xor_lt_two_pow (n := 8) (bn_lt s i) (bn_lt t i)) a s.size (fun i hi => by simp [h0 i hi]) (fun i hi => by simp [h4 i hi]) h2
  intro i hi
  exact xor_eq_zero (h3 i hi)
end Go.Proofs.Ytndcfccbicognaa.XCrcOf
