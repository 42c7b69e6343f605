/- The CRC acts bit by bit: plain facts. It has no conditions. -/
import Derived.Test.YtndcfccbicognaaYCrc
namespace Go.Proofs.Ytndcfccbicognaa.XCrcOf
open Go.RowKit Go.Proofs.YtndcfccbicognaaW.PrintWords Go.Proofs.YtndcfccbicognaaW.PrintLast Go.Proofs.YtndcfccbicognaaW.PrintMore
set_option linter.unusedVariables false
set_option linter.unusedSimpArgs false

/-- The polynomial. -/
def poly : Nat := 3988292384
/-- One bit further, over natural numbers. -/
def S (x : Nat) : Nat := (x / 2) ^^^ (if x % 2 = 1 then poly else 0)
def SN : Nat → Nat → Nat
  | 0, x => x
  | n + 1, x => SN n (S x)
/-- Eight bits further. -/
def Z (x : Nat) : Nat := SN 8 x

theorem xor_div2 (x y : Nat) : (x ^^^ y) / 2 = (x / 2) ^^^ (y / 2) := by
  have h := Nat.shiftRight_xor_distrib (a := x) (b := y) (i := 1)
  rw [Nat.shiftRight_eq_div_pow, Nat.shiftRight_eq_div_pow, Nat.shiftRight_eq_div_pow] at h
  exact h

theorem xor_mod2 (x y : Nat) : (x ^^^ y) % 2 = (x % 2 + y % 2) % 2 := by
  have h := Nat.testBit_xor x y 0
  have hx := Nat.mod_two_eq_zero_or_one x
  have hy := Nat.mod_two_eq_zero_or_one y
  have hz := Nat.mod_two_eq_zero_or_one (x ^^^ y)
  rw [Nat.testBit_zero, Nat.testBit_zero, Nat.testBit_zero] at h
  rcases hx with hx | hx <;> rcases hy with hy | hy <;> rcases hz with hz | hz <;> simp [hx, hy, hz] at h ⊢

theorem xor4 (a b c d : Nat) : (a ^^^ b) ^^^ (c ^^^ d) = (a ^^^ c) ^^^ (b ^^^ d) := by
  rw [Nat.xor_assoc, Nat.xor_assoc, ← Nat.xor_assoc b c d, Nat.xor_comm b c, Nat.xor_assoc c b d]

theorem S_xor (x y : Nat) : S (x ^^^ y) = S x ^^^ S y := by
  unfold S
  rw [xor_div2, xor_mod2, xor4]
  congr 1
  have hx := Nat.mod_two_eq_zero_or_one x
  have hy := Nat.mod_two_eq_zero_or_one y
  rcases hx with hx | hx <;> rcases hy with hy | hy <;> simp [hx, hy]

theorem S_zero : S 0 = 0 := by decide
theorem S_lt (x : Nat) (h : x < 4294967296) : S x < 4294967296 := by
  unfold S
  refine Nat.xor_lt_two_pow (n := 32) (by omega) ?_
  unfold poly
  split <;> omega

theorem SN_xor : ∀ (n x y : Nat), SN n (x ^^^ y) = SN n x ^^^ SN n y
  | 0, _, _ => rfl
  | n + 1, x, y => by rw [SN, SN, SN, S_xor, SN_xor n]
theorem SN_zero : ∀ n, SN n 0 = 0
  | 0 => rfl
  | n + 1 => by rw [SN, S_zero, SN_zero n]
theorem SN_lt : ∀ (n x : Nat), x < 4294967296 → SN n x < 4294967296
  | 0, _, h => h
  | n + 1, x, h => by rw [SN]; exact SN_lt n _ (S_lt x h)
theorem SN_up : ∀ (n h : Nat), SN n (h * 2 ^ n) = h
  | 0, h => by simp [SN]
  | n + 1, h => by
    rw [SN, Nat.pow_succ, ← Nat.mul_assoc]
    have e : S (h * 2 ^ n * 2) = h * 2 ^ n := by
      unfold S
      rw [Nat.mul_div_cancel _ (by omega), Nat.mul_mod_left]
      simp
    rw [e, SN_up n h]

/-- A word is its high part and its low part, xored. -/
theorem parts (x : Nat) : x = (x / 256 * 2 ^ 8) ^^^ (x % 256) := by
  have h : x / 256 * 2 ^ 8 ^^^ (x % 256) = x / 256 * 2 ^ 8 ||| (x % 256) := by
    apply Nat.eq_of_testBit_eq
    intro i
    rw [Nat.testBit_xor, Nat.testBit_or, ← Nat.shiftLeft_eq, Nat.testBit_shiftLeft, show (256 : Nat) = 2 ^ 8 from rfl, Nat.testBit_mod_two_pow]
    by_cases hi : i < 8
    · simp [hi, show ¬ 8 ≤ i from by omega]
    · simp [hi]
  rw [h, ← Nat.shiftLeft_eq, ← Nat.shiftLeft_add_eq_or_of_lt (show x % 256 < 2 ^ 8 by omega), Nat.shiftLeft_eq]
  omega

theorem Z_step (c b : Nat) (hb : b < 256) : (c / 256) ^^^ Z ((c % 256) ^^^ b) = Z (c ^^^ b) := by
  have h1 := parts c
  have h2 : Z (c ^^^ b) = Z (c / 256 * 2 ^ 8) ^^^ Z ((c % 256) ^^^ b) := by
    unfold Z
    rw [← SN_xor, ← Nat.xor_assoc, ← h1]
  rw [h2, show Z (c / 256 * 2 ^ 8) = c / 256 from SN_up 8 _]

theorem and_mask (x : Nat) (hx : x < 4294967296) (i : Nat) (hi : i ≤ 32) : Go.bits .and .u32 (x : Int) (2 ^ i - 1) = (x : Int) % 2 ^ i :=
  Go.bits_mask .u32 32 (by decide) (fun n h0 h1 => by rw [IntKind.wrap_u32]; have : (2 : Int) ^ 32 = 4294967296 := by decide
                                                      omega) i hi x (by omega) (by have : (2 : Int) ^ 32 = 4294967296 := by decide
                                                                                   omega)

theorem mask_of (f v : Nat) (hf : f < 4294967296) (hv : v < 4294967296) : Go.bits .and .u32 (f : Int) ((-(Go.bits .and .u32 (v : Int) 1)) % 4294967296) = ((if v % 2 = 1 then f else 0 : Nat) : Int) := by
  have h1 : Go.bits .and .u32 (v : Int) 1 = (v : Int) % 2 := and_mask v hv 1 (by omega)
  rw [h1]
  have hx := Nat.mod_two_eq_zero_or_one v
  rcases hx with hx | hx
  · have h2 : (-((v : Int) % 2)) % 4294967296 = 0 := by omega
    have h3 := and_mask f hf 0 (by omega)
    rw [h2, hx, if_neg (by omega)]
    rw [show (2 : Int) ^ 0 = 1 from rfl] at h3
    simpa using h3
  · have h2 : (-((v : Int) % 2)) % 4294967296 = 4294967295 := by omega
    have h3 := and_mask f hf 32 (by omega)
    rw [h2, hx, if_pos rfl]
    rw [show (2 : Int) ^ 32 - 1 = 4294967295 from by decide, show (2 : Int) ^ 32 = 4294967296 from by decide] at h3
    rw [h3]
    omega

theorem sh_nat (x : Nat) (hx : x < 4294967296) : sh (x : Int) = ((S x : Nat) : Int) := by
  unfold sh S
  have h := mask_of poly x (by unfold poly; omega) hx
  rw [show ((poly : Nat) : Int) = 3988292384 from rfl] at h
  rw [h, show (x : Int) / 2 = ((x / 2 : Nat) : Int) from rfl, xor_u32 _ _ (by omega) (by unfold poly; split <;> omega)]

theorem shN_nat : ∀ (n x : Nat), x < 4294967296 → shN n (x : Int) = ((SN n x : Nat) : Int)
  | 0, _, _ => rfl
  | n + 1, x, h => by rw [shN, sh_nat x h, shN_nat n _ (S_lt x h), SN]

theorem up1_nat (c b : Nat) (hc : c < 4294967296) (hb : b < 256) : up1 (c : Int) (b : Int) = ((Z (c ^^^ b) : Nat) : Int) := by
  unfold up1
  rw [show (c : Int) % 256 = ((c % 256 : Nat) : Int) from rfl, xor_u8 _ _ (by omega) hb]
  have hl : (c % 256) ^^^ b < 2 ^ 8 := Nat.xor_lt_two_pow (by omega) (by omega)
  rw [shN_nat 8 _ (by omega), show (c : Int) / 256 = ((c / 256 : Nat) : Int) from rfl, xor_u32 _ _ (by omega) (SN_lt 8 _ (by omega)), ← Z_step c b hb]
  rfl

/-- A byte as a natural number. -/
def bn (s : ByteArray) (i : Nat) : Nat := (bt s (i : Int)).toNat
theorem bn_lt (s : ByteArray) (i : Nat) : bn s i < 256 := by have := bt_range s (i : Int); unfold bn; omega
theorem bn_cast (s : ByteArray) (i : Nat) : ((bn s i : Nat) : Int) = bt s (i : Int) := by have := bt_range s (i : Int); unfold bn; omega

/-- A sum's number behind k bytes, over natural numbers. -/
def U (c : Nat) (b : Nat → Nat) : Nat → Nat
  | 0 => c
  | k + 1 => Z (U c b k ^^^ b k)

theorem U_lt (c : Nat) (hc : c < 4294967296) (b : Nat → Nat) (hb : ∀ i, b i < 256) : ∀ k, U c b k < 4294967296
  | 0 => hc
  | k + 1 => SN_lt 8 _ (Nat.xor_lt_two_pow (n := 32) (U_lt c hc b hb k) (Nat.lt_trans (hb k) (by omega)))

theorem upS_nat (c : Nat) (hc : c < 4294967296) (s : ByteArray) : ∀ k, upS (c : Int) s k = ((U c (bn s) k : Nat) : Int)
  | 0 => rfl
  | k + 1 => by rw [upS, upS_nat c hc s k, ← bn_cast, up1_nat _ _ (U_lt c hc _ (bn_lt s) k) (bn_lt s k), U]

def it (L : Nat → Nat) : Nat → Nat → Nat
  | 0, x => x
  | n + 1, x => it L n (L x)
theorem it_out (L : Nat → Nat) : ∀ (n x : Nat), L (it L n x) = it L n (L x)
  | 0, _ => rfl
  | n + 1, x => by rw [it, it_out L n (L x), it]

theorem U_xor (c d : Nat) (b : Nat → Nat) : ∀ k, U (c ^^^ d) b k = U c b k ^^^ it Z k d
  | 0 => rfl
  | k + 1 => by
    rw [U, U_xor c d b k, Nat.xor_assoc, Nat.xor_comm (it Z k d), ← Nat.xor_assoc]
    have h : Z (U c b k ^^^ b k ^^^ it Z k d) = Z (U c b k ^^^ b k) ^^^ Z (it Z k d) := SN_xor 8 _ _
    rw [h, it_out Z k d, U, it]

/-- Texts, one behind the other. -/
theorem U_app (c : Nat) (b d : Nat → Nat) (n : Nat) (h : ∀ i, i < n → b i = d i) : ∀ k, k ≤ n → U c b k = U c d k
  | 0, _ => rfl
  | k + 1, hk => by rw [U, U, U_app c b d n h k (by omega), h k (by omega)]
theorem U_add (c : Nat) (b : Nat → Nat) (n : Nat) : ∀ k, U c b (n + k) = U (U c b n) (fun i => b (n + i)) k
  | 0 => rfl
  | k + 1 => by rw [← Nat.add_assoc, U, U_add c b n k, U]

theorem bn_left (s t : ByteArray) (i : Nat) (h : i < s.size) : bn (s ++ t) i = bn s i := by
  unfold bn bt
  rw [dif_pos (by rw [Int.toNat_natCast, ByteArray.size_append]; omega), dif_pos (by rw [Int.toNat_natCast]; exact h)]
  simp only [Int.toNat_natCast]
  rw [ByteArray.getElem_append_left h]
theorem bn_right (s t : ByteArray) (i : Nat) (h : i < t.size) : bn (s ++ t) (s.size + i) = bn t i := by
  unfold bn bt
  rw [dif_pos (by rw [Int.toNat_natCast, ByteArray.size_append]; omega), dif_pos (by rw [Int.toNat_natCast]; exact h)]
  simp only [Int.toNat_natCast]
  rw [ByteArray.getElem_append_right (by omega)]
  simp

/-- The CRC over natural numbers. -/
def crcN (s : ByteArray) : Nat := 4294967295 ^^^ U 4294967295 (bn s) s.size
theorem crc_nat (s : ByteArray) : crcOf s = ((crcN s : Nat) : Int) := by
  unfold crcOf notU crcN
  have h := upS_nat 4294967295 (by omega) s s.size
  have h2 : upS 4294967295 s s.size = ((U 4294967295 (bn s) s.size : Nat) : Int) := h
  rw [h2]
  exact xor_u32 4294967295 _ (by omega) (U_lt _ (by omega) _ (bn_lt s) _)
theorem crcN_lt (s : ByteArray) : crcN s < 4294967296 := Nat.xor_lt_two_pow (n := 32) (by omega) (U_lt _ (by omega) _ (bn_lt s) _)

theorem crc_append (s t : ByteArray) : crcN (s ++ t) = it Z t.size (crcN s) ^^^ crcN t := by
  have h1 : U 4294967295 (bn (s ++ t)) (s ++ t).size = U (U 4294967295 (bn s) s.size) (bn t) t.size := by
    rw [ByteArray.size_append, U_add, U_app 4294967295 (bn (s ++ t)) (bn s) s.size (fun i hi => bn_left s t i hi) s.size (Nat.le_refl _)]
    exact U_app _ _ _ t.size (fun i hi => bn_right s t i hi) t.size (Nat.le_refl _)
  have h2 : U 4294967295 (bn s) s.size = 4294967295 ^^^ crcN s := by
    unfold crcN
    rw [← Nat.xor_assoc, Nat.xor_self, Nat.zero_xor]
  have h3 : crcN t = 4294967295 ^^^ U 4294967295 (bn t) t.size := rfl
  have h4 : crcN (s ++ t) = 4294967295 ^^^ U 4294967295 (bn (s ++ t)) (s ++ t).size := rfl
  rw [h4, h1, h2, U_xor, h3, ← Nat.xor_assoc, Nat.xor_comm]

end Go.Proofs.Ytndcfccbicognaa.XCrcOf
