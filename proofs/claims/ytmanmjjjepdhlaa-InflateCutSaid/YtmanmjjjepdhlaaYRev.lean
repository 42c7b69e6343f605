/- Bits turned round. It has no conditions. -/
import Derived.Test.YtmanmjjjepdhlaaYTab
import Derived.Test.YtmanmjjjepdhlaaYNum
import Derived.BigRegion
import Derived.RegionTactic
import Derived.ChangeAlike
import Derived.Deep.RegionWith
import Derived.Deep.RegionLaw
import Derived.Laws.Tables
import Derived.Deep.QuietTactic
import Derived.BigQuiet
import Derived.Deep.RegionHeld3
import Derived.Deep.AppendLies
import Derived.Deep.DrawnRows
import Derived.Laws.CopyOwn
import Derived.Deep.MidRow
import Derived.Laws.ResultCell
import Derived.ChangeKeysEq
import Derived.Laws.BitsAllLaws
namespace Go.Proofs.Ytmanmjjjepdhlaa.XPrefix
set_option linter.unusedVariables false
set_option linter.unusedSimpArgs false
open Go.RowKit Go.Proofs.YtmanmjjjepdhlaaW.PrintWords Go.Proofs.YtmanmjjjepdhlaaW.PrintLast Go.Proofs.YtmanmjjjepdhlaaW.PrintMore
open XInflateAny
def rvA (x : Nat) : Nat := ((x / 2) &&& 1431655765) ||| (((x &&& 1431655765) * 2) % 4294967296)
def rvB (x : Nat) : Nat := ((rvA x / 4) &&& 858993459) ||| (((rvA x &&& 858993459) * 4) % 4294967296)
def rvC (x : Nat) : Nat := ((rvB x / 16) &&& 252645135) ||| (((rvB x &&& 252645135) * 16) % 4294967296)
def rvD (x : Nat) : Nat := ((rvC x / 256) &&& 16711935) ||| (((rvC x &&& 16711935) * 256) % 4294967296)
def rvN (x : Nat) : Nat := (rvD x / 65536) ||| ((rvD x * 65536) % 4294967296)
/-- The lowest L bits, turned round. -/
def revN : Nat → Nat → Nat
 | 0, _ => 0
 | L + 1, c => (c % 2) * 2 ^ L + revN L (c / 2)
set_option maxRecDepth 100000 in
theorem rvN_all : ∀ a, a < 128 → ∀ b, b < 256 → rvN (256 * a + b) / 131072 = revN 15 (256 * a + b) := by decide +kernel
theorem rvN_15 (c : Nat) (h : c < 32768) : rvN c / 131072 = revN 15 c := by
 have := rvN_all (c / 256) (by omega) (c % 256) (by omega)
 rwa [Nat.div_add_mod] at this
open XInflateAny
theorem half_or (k m : Nat) (x : Nat) (hx : x < 4294967296) (hm : m < 4294967296) (hk : 0 < k) :
  Go.bits .or .u32 (Go.bits .and .u32 ((x : Int) / (k : Int)) (m : Int)) (((Go.bits .and .u32 (x : Int) (m : Int)) * (k : Int)) % 4294967296) = ((((x / k) &&& m) ||| (((x &&& m) * k) % 4294967296) : Nat) : Int) := by
 have h1 : x / k ≤ x := Nat.div_le_self _ _
 have h2 : (x / k) &&& m ≤ m := Nat.and_le_right
 rw [show ((x : Int) / (k : Int)) = ((x / k : Nat) : Int) from by simp, u32_and_nat _ _ (by omega) hm, u32_and_nat _ _ hx hm, show ((x &&& m : Nat) : Int) * (k : Int) % 4294967296 = (((x &&& m) * k % 4294967296 : Nat) : Int) from by simp, u32_or_nat _ _ (by omega) (Nat.mod_lt _ (by decide))]
theorem or_lt (x k m : Nat) (hm : m < 4294967296) : ((x / k) &&& m) ||| (((x &&& m) * k) % 4294967296) < 4294967296 := by
 have h2 : (x / k) &&& m ≤ m := Nat.and_le_right
 exact Nat.or_lt_two_pow (n := 32) (by omega) (Nat.mod_lt _ (by decide))
theorem rv_nat (x : Nat) (hx : x < 4294967296) : rv (x : Int) = ((rvN x : Nat) : Int) := by
 have a : Go.bits .or .u32 (Go.bits .and .u32 ((x : Int) / 2) 1431655765) (((Go.bits .and .u32 (x : Int) 1431655765) * 2) % 4294967296) = ((rvA x : Nat) : Int) := half_or 2 1431655765 x hx (by decide) (by decide)
 have b : Go.bits .or .u32 (Go.bits .and .u32 ((rvA x : Int) / 4) 858993459) (((Go.bits .and .u32 (rvA x : Int) 858993459) * 4) % 4294967296) = ((rvB x : Nat) : Int) := half_or 4 858993459 (rvA x) (or_lt _ _ _ (by decide)) (by decide) (by decide)
 have c : Go.bits .or .u32 (Go.bits .and .u32 ((rvB x : Int) / 16) 252645135) (((Go.bits .and .u32 (rvB x : Int) 252645135) * 16) % 4294967296) = ((rvC x : Nat) : Int) := half_or 16 252645135 (rvB x) (or_lt _ _ _ (by decide)) (by decide) (by decide)
 have d : Go.bits .or .u32 (Go.bits .and .u32 ((rvC x : Int) / 256) 16711935) (((Go.bits .and .u32 (rvC x : Int) 16711935) * 256) % 4294967296) = ((rvD x : Nat) : Int) := half_or 256 16711935 (rvC x) (or_lt _ _ _ (by decide)) (by decide) (by decide)
 have hd : rvD x < 4294967296 := or_lt _ _ _ (by decide)
 have h2 : rvD x / 65536 ≤ rvD x := Nat.div_le_self _ _
 unfold rv bits_Reverse32.f bits_ReverseBytes32.f
 simp only [Option.bind_some, Option.getD_some]
 rw [a, b, c, d, show ((rvD x : Nat) : Int) / 65536 = ((rvD x / 65536 : Nat) : Int) from by simp, show ((rvD x : Nat) : Int) * 65536 % 4294967296 = ((rvD x * 65536 % 4294967296 : Nat) : Int) from by simp, u32_or_nat _ _ (by omega) (Nat.mod_lt _ (by decide))]
 rfl
theorem revN_lt : ∀ (L c : Nat), revN L c < 2 ^ L
 | 0, _ => by simp [revN]
 | L + 1, c => by
  have := revN_lt L (c / 2)
  have h : c % 2 < 2 := Nat.mod_lt _ (by decide)
  have h2 : (c % 2) * 2 ^ L ≤ 1 * 2 ^ L := Nat.mul_le_mul_right _ (by omega)
  rw [revN, Nat.pow_succ]
  omega
theorem revN_up : ∀ (L c : Nat), c < 2 ^ L → revN (L + 1) c = 2 * revN L c
 | 0, c, h => by
  have : c = 0 := by simpa using h
  subst this; rfl
 | L + 1, c, h => by
  rw [Nat.pow_succ] at h
  have ih := revN_up L (c / 2) (by omega)
  rw [show revN (L + 1 + 1) c = (c % 2) * 2 ^ (L + 1) + revN (L + 1) (c / 2) from rfl, show revN (L + 1) c = (c % 2) * 2 ^ L + revN L (c / 2) from rfl, ih, Nat.pow_succ, Nat.mul_add, ← Nat.mul_assoc, Nat.mul_comm _ 2]
theorem revN_15 (L c : Nat) (h : c < 2 ^ L) : ∀ d, revN (L + d) c = 2 ^ d * revN L c
 | 0 => by simp
 | d + 1 => by
  rw [← Nat.add_assoc, revN_up (L + d) c (Nat.lt_of_lt_of_le h (Nat.pow_le_pow_right (by decide) (by omega))), revN_15 L c h d, Nat.pow_succ, Nat.mul_comm (2 ^ d) 2, Nat.mul_assoc]
/-- The bits as the table has them. -/
theorem rv_shift (L c : Nat) (hL : L ≤ 15) (h : c < 2 ^ L) : rv (c : Int) / 2 ^ (32 - L) = ((revN L c : Nat) : Int) := by
 have h1 : 2 ^ L ≤ 2 ^ 15 := Nat.pow_le_pow_right (by decide) hL
 have h2 := rvN_15 c (by omega)
 have h3 := revN_15 L c h (15 - L)
 rw [show L + (15 - L) = 15 from by omega] at h3
 rw [rv_nat c (by omega), show (2 : Int) ^ (32 - L) = ((131072 * 2 ^ (15 - L) : Nat) : Int) from by
  rw [show 32 - L = 17 + (15 - L) from by omega, Int.pow_add]; simp]
 rw [← Int.natCast_ediv, ← Nat.div_div_eq_div_mul, h2, h3, Nat.mul_div_cancel_left _ (Nat.two_pow_pos _)]
/-- Bit j of the bits turned round. -/
theorem revN_bit : ∀ (L c j : Nat), j < L → revN L c / 2 ^ j % 2 = c / 2 ^ (L - 1 - j) % 2
 | 0, _, _, h => absurd h (by omega)
 | L + 1, c, j, h => by
  have hlt := revN_lt L (c / 2)
  rw [revN]
  by_cases e : j = L
  ·subst e
   rw [Nat.add_comm, Nat.add_mul_div_right _ _ (Nat.two_pow_pos j), Nat.div_eq_of_lt hlt, Nat.zero_add, show j + 1 - 1 - j = 0 from by omega, Nat.pow_zero, Nat.div_one, Nat.mod_mod]
  ·have ih := revN_bit L (c / 2) j (by omega)
   rw [show L = j + (L - j) from by omega, Nat.pow_add, Nat.mul_comm (2 ^ j), ← Nat.mul_assoc, Nat.add_comm, Nat.add_mul_div_right _ _ (Nat.two_pow_pos j), show j + (L - j) = L from by omega, Nat.add_mod, Nat.mul_mod, show 2 ^ (L - j) % 2 = 0 from by rw [show L - j = (L - j - 1) + 1 from by omega, Nat.pow_succ, Nat.mul_mod_left], Nat.mul_zero, Nat.zero_mod, Nat.add_zero, Nat.mod_mod, ih, Nat.div_div_eq_div_mul, show 2 * 2 ^ (L - 1 - j) = 2 ^ (L + 1 - 1 - j) from by rw [show L + 1 - 1 - j = (L - 1 - j) + 1 from by omega, Nat.pow_succ, Nat.mul_comm]]
end Go.Proofs.Ytmanmjjjepdhlaa.XPrefix
