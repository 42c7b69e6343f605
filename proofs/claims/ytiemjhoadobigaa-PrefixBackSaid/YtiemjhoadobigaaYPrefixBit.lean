/- prefix.Table.Read, of any text. It has no conditions. -/
import Derived.Test.YtiemjhoadobigaaYPrefixRead
import Derived.Test.YtiemjhoadobigaaYPrefixOf
import Derived.BigRegion
import Derived.RegionTactic
import Derived.ChangeAlike
import Derived.Deep.RegionWith
import Derived.Deep.RegionLaw
import Derived.Laws.Tables
import Derived.Deep.QuietTactic
import Derived.BigQuiet
import Derived.Deep.RegionHeld3
import Derived.Deep.AppendLies
import Derived.Deep.DrawnRows
import Derived.Laws.CopyOwn
import Derived.Deep.MidRow
import Derived.Laws.ResultCell
import Derived.ChangeKeysEq
namespace Go.Proofs.Ytiemjhoadobigaa.XPrefix
set_option linter.unusedVariables false
set_option linter.unusedSimpArgs false
open Go.RowKit Go.Proofs.YtiemjhoadobigaaW.PrintWords Go.Proofs.YtiemjhoadobigaaW.PrintLast Go.Proofs.YtiemjhoadobigaaW.PrintMore

open XPrefixReads
theorem or_bit (n b : Int) (h0 : 0 ≤ n) (h1 : n < 100000) (hb : b = 0 ∨ b = 1) : bits .or .i64 (n * 2) b = 2 * n + b := by
  obtain ⟨m, rfl⟩ := Int.eq_ofNat_of_zero_le h0
  obtain ⟨c, hc, hc2⟩ : ∃ c : Nat, b = c ∧ c < 2 := ⟨b.toNat, by omega, by omega⟩
  subst hc
  have e : ((m : Int) * 2) = ((m * 2 : Nat) : Int) := by omega
  rw [e]
  have hx : m * 2 ||| c = m * 2 + c := by
    rw [Nat.or_comm]
    have := or_add c m 1 (by omega)
    rw [Nat.pow_one] at this
    omega
  have g1 : (BitVec.ofInt 64 ((m * 2 : Nat) : Int)).toNat = m * 2 := by
    rw [BitVec.ofInt_natCast, BitVec.toNat_ofNat]; exact Nat.mod_eq_of_lt (by omega)
  have g2 : (BitVec.ofInt 64 (c : Int)).toNat = c := by
    rw [BitVec.ofInt_natCast, BitVec.toNat_ofNat]; exact Nat.mod_eq_of_lt (by omega)
  show IntKind.i64.wrap ((BitVec.ofInt 64 ((m * 2 : Nat) : Int) ||| BitVec.ofInt 64 (c : Int)).toNat : Int) = _
  rw [BitVec.toNat_or, g1, g2, hx, i64_w]
  unfold wrap64
  omega
/-- The bits of the number Z. -/
def bitZ (Z : Nat) (q : Nat) : Int := ((Z / 2 ^ q % 2 : Nat) : Int)
theorem bit_reads (S : ByteArray) (Z : Nat) (hS : S.size ≤ 1000000) (hZ : ∀ i, i < S.size → bt S (i : Int) = ((Z / 256 ^ i % 256 : Nat) : Int)) (q : Nat) (h : q < 8 * S.size) :
    (bitZ Z q = 0 ∨ bitZ Z q = 1) ∧ ∃ kk, bits_Reader_Bits.f kk S (q : Int) false 1 = some (bitZ Z q, S, ((q + 1 : Nat) : Int), false) := by
  refine ⟨by unfold bitZ; omega, ?_⟩
  have h := (reads S Z q 1 (by omega) (by omega) hS hZ).rounds
  exact h
theorem bit_ends (S : ByteArray) (hS : S.size ≤ 1000000) : ∃ kk, bits_Reader_Bits.f kk S ((8 * S.size : Nat) : Int) false 1 = some (0, S, ((8 * S.size : Nat) : Int), true) :=
  (fails S (8 * S.size) 1 (Nat.le_refl _) hS (by omega)).rounds
/-- Table.Read, of any text. -/
theorem read_any (base g gr : Nat) (l : List Int) (kd : Int) (p Z : Nat) (S : ByteArray) (w0 w : World) (hT : IsT base w g l kd) (hI : IsS70 w0 w gr S (p : Int) false) (hB : Below w0.heap.size w0 w) (hp : p ≤ 8 * S.size) (hS : S.size ≤ 100000) (hl : l.length ≤ 288) (hkd : kd ≠ 2)
    (hZ : ∀ i, i < S.size → bt S (i : Int) = ((Z / 256 ^ i % 256 : Nat) : Int)) :
    Calls Try.prog 17 #[.pointer (some ⟨g, 0, none⟩), .pointer (some ⟨gr, 0, none⟩)] w fun e w' =>
      e = .returned (.tuple #[.int .i64 (readK l kd (bitZ Z) (8 * S.size) 15 0 0 p).1, .int .i64 (readK l kd (bitZ Z) (8 * S.size) 15 0 0 p).2.1]) ∧ IsS70 w0 w' gr S ((readK l kd (bitZ Z) (8 * S.size) 15 0 0 p).2.2.1 : Int) (readK l kd (bitZ Z) (8 * S.size) 15 0 0 p).2.2.2 ∧ Below w0.heap.size w0 w' ∧ KeepBut w w' gr none :=
  read_calls base g gr l kd (bitZ Z) (8 * S.size) p S w0 w hT hI hB hp (by omega) hl hkd (fun q hq => bit_reads S Z (by omega) hZ q hq) (bit_ends S (by omega)) or_bit

end Go.Proofs.Ytiemjhoadobigaa.XPrefix
