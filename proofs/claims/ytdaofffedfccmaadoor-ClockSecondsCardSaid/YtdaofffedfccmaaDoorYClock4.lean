/- The packed number and the text It has no conditions. -/
import Derived.Test.YtdaofffedfccmaaDoorYClock2
import Derived.BigRegion
import Derived.RegionTactic
import Derived.ChangeAlike
import Derived.Deep.RegionWith
import Derived.Deep.RegionLaw
import Derived.Laws.Tables
import Derived.Deep.QuietTactic
import Derived.BigQuiet
import Derived.Deep.RegionHeld3
import Derived.Deep.AppendLies
import Derived.Deep.DrawnRows
import Derived.Laws.CopyOwn
import Derived.Deep.MidRow
import Derived.Laws.ResultCell
import Derived.ChangeKeysEq
import Derived.Laws.BitsAllLaws
namespace Go.Proofs.YtdaofffedfccmaaDoor.ClockP
set_option linter.unusedVariables false
set_option linter.unusedSimpArgs false
open Go.RowKit Go.Proofs.YtdaofffedfccmaaDoorW.PrintWords Go.Proofs.YtdaofffedfccmaaDoorW.PrintLast Go.Proofs.YtdaofffedfccmaaDoorW.PrintMore
attribute [local go_sem] max2_int min2_int max_two min_two max_three min_three max_four min_four
open XClockDates
/-! ### The packed number; the text. -/
theorem orZ (A B : Int) (a b n : Nat) (hA : A = ((a * 2 ^ n : Nat) : Int)) (hB : B = (b : Int)) (hb : b < 2 ^ n) (h : a * 2 ^ n < 9223372036854775808) (hn : n ≤ 40) : Go.bits .or .i64 A B = A + B := by
  rw [hA, hB, or_disj a b n hb h hn]
  omega
theorem put_or (q M D H I T : Nat) (hq : q ≤ 127) (hM : M ≤ 12) (hD : D ≤ 31) (hH : H ≤ 23) (hI : I ≤ 59) (hT : T ≤ 29) : Go.bits .or .i64 (Go.bits .or .i64 (Go.bits .or .i64 (Go.bits .or .i64 (Go.bits .or .i64 ((q : Int) * 33554432) ((M : Int) * 2097152)) ((D : Int) * 65536)) ((H : Int) * 2048)) ((I : Int) * 32)) (T : Int) = (q : Int) * 33554432 + (M : Int) * 2097152 + (D : Int) * 65536 + (H : Int) * 2048 + (I : Int) * 32 + (T : Int) := by
  rw [orZ ((q : Int) * 33554432) ((M : Int) * 2097152) q (M * 2097152) 25 (by omega) (by omega) (by omega) (by omega) (by omega)]
  rw [orZ ((q : Int) * 33554432 + (M : Int) * 2097152) ((D : Int) * 65536) (q * 16 + M) (D * 65536) 21 (by omega) (by omega) (by omega) (by omega) (by omega)]
  rw [orZ ((q : Int) * 33554432 + (M : Int) * 2097152 + (D : Int) * 65536) ((H : Int) * 2048) ((q * 16 + M) * 32 + D) (H * 2048) 16 (by omega) (by omega) (by omega) (by omega) (by omega)]
  rw [orZ ((q : Int) * 33554432 + (M : Int) * 2097152 + (D : Int) * 65536 + (H : Int) * 2048) ((I : Int) * 32) (((q * 16 + M) * 32 + D) * 32 + H) (I * 32) 11 (by omega) (by omega) (by omega) (by omega) (by omega)]
  rw [orZ ((q : Int) * 33554432 + (M : Int) * 2097152 + (D : Int) * 65536 + (H : Int) * 2048 + (I : Int) * 32) (T : Int) ((((q * 16 + M) * 32 + D) * 32 + H) * 64 + I) T 5 (by omega) rfl (by omega) (by omega) (by omega)]
theorem put_doc (q M D H I T : Nat) (hq : q ≤ 127) (hM : M ≤ 12) (hD : D ≤ 31) (hH : H ≤ 23) (hI : I ≤ 59) (hT : T ≤ 29) : wrap64 (wrap64 (wrap64 (wrap64 (wrap64 ((T : Int) + (I : Int) * 32) + (H : Int) * 2048) + (D : Int) * 65536) + (M : Int) * 2097152) + (q : Int) * 33554432) = (q : Int) * 33554432 + (M : Int) * 2097152 + (D : Int) * 65536 + (H : Int) * 2048 + (I : Int) * 32 + (T : Int) := by
  rw [w64c (x := (T : Int) + (I : Int) * 32) (by omega) (by omega)]
  rw [w64c (x := (T : Int) + (I : Int) * 32 + (H : Int) * 2048) (by omega) (by omega)]
  rw [w64c (x := (T : Int) + (I : Int) * 32 + (H : Int) * 2048 + (D : Int) * 65536) (by omega) (by omega)]
  rw [w64c (x := (T : Int) + (I : Int) * 32 + (H : Int) * 2048 + (D : Int) * 65536 + (M : Int) * 2097152) (by omega) (by omega)]
  rw [w64c (by omega) (by omega)]
  omega
theorem put_w (q M D H I S : Nat) (hq : q ≤ 127) (hM : M ≤ 12) (hD : D ≤ 31) (hH : H ≤ 23) (hI : I ≤ 59) (hS : S ≤ 58) : wrap64 (1980 + (q : Int) - 1980) = (q : Int) ∧ wrap64 ((q : Int) * 33554432) = (q : Int) * 33554432 ∧ wrap64 ((M : Int) * 2097152) = (M : Int) * 2097152 ∧ wrap64 ((D : Int) * 65536) = (D : Int) * 65536 ∧ wrap64 ((H : Int) * 2048) = (H : Int) * 2048 ∧ wrap64 ((I : Int) * 32) = (I : Int) * 32 ∧ wrap64 (Int.tdiv (S : Int) 2) = ((S / 2 : Nat) : Int) := by
  refine ⟨?_, w64c (by omega) (by omega), w64c (by omega) (by omega), w64c (by omega) (by omega), w64c (by omega) (by omega), w64c (by omega) (by omega), ?_⟩
  · rw [w64c (by omega) (by omega)]; omega
  · rw [Int.tdiv_eq_ediv_of_nonneg (by omega), w64c (by omega) (by omega)]; rfl
theorem put_z (q M D H I S : Nat) : putZ (1980 + (q : Int)) M D H I S = (q : Int) * 33554432 + (M : Int) * 2097152 + (D : Int) * 65536 + (H : Int) * 2048 + (I : Int) * 32 + ((S / 2 : Nat) : Int) := by unfold putZ; omega
theorem put_ev (q M D H I S : Nat) (hq : q ≤ 127) (hM : M ≤ 12) (hD : D ≤ 31) (hH : H ≤ 23) (hI : I ≤ 59) (hS : S ≤ 58) : (∀ k, clock_right.f k (1980 + (q : Int)) M D H I S = some true → clock_Put.f k (1980 + (q : Int)) M D H I S = some (putZ (1980 + (q : Int)) M D H I S, 0)) ∧ montageref41_Put.f (1980 + (q : Int)) M D H I S = some (putZ (1980 + (q : Int)) M D H I S) := by
  have hT : S / 2 ≤ 29 := by omega
  have eo := put_or q M D H I (S / 2) hq hM hD hH hI hT
  have ed := put_doc q M D H I (S / 2) hq hM hD hH hI hT
  have ep := put_z q M D H I S
  obtain ⟨w1, w2, w3, w4, w5, w6, w7⟩ := put_w q M D H I S hq hM hD hH hI hS
  constructor
  · intro k hk
    unfold clock_Put.f
    rw [hk, Option.bind_some, if_pos rfl, w1, w2, w3, w4, w5, w6, w7, eo, ep]
  · unfold montageref41_Put.f
    rw [w1, w2, w3, w4, w5, w6, w7, ed, ep]
/-- Two digits and four. -/
def d2 (n : Nat) : ByteArray := ⟨#[UInt8.ofNat (48 + n / 10), UInt8.ofNat (48 + n % 10)]⟩
def d4 (n : Nat) : ByteArray := ⟨#[UInt8.ofNat (48 + n / 1000), UInt8.ofNat (48 + n / 100 % 10), UInt8.ofNat (48 + n / 10 % 10), UInt8.ofNat (48 + n % 10)]⟩
theorem dig2 : ∀ x : Fin 60, clock_digits.f ((x.val : Nat) : Int) 2 = some (d2 x.val) := by decide +kernel
theorem dig4 : ∀ x : Fin 128, clock_digits.f (1980 + ((x.val : Nat) : Int)) 4 = some (d4 (1980 + x.val)) := by decide +kernel
theorem ddig2 : ∀ x : Fin 60, montageref41_digits.f 8 ((x.val : Nat) : Int) 2 = some (d2 x.val) := by decide +kernel
theorem ddig4 : ∀ x : Fin 128, montageref41_digits.f 8 (1980 + ((x.val : Nat) : Int)) 4 = some (d4 (1980 + x.val)) := by decide +kernel
theorem sz1 (c : UInt8) : (⟨#[c]⟩ : ByteArray).size = 1 := rfl
theorem szd2 (n : Nat) : (d2 n).size = 2 := rfl
theorem szd4 (n : Nat) : (d4 n).size = 4 := rfl
def textB (q M D H I S : Nat) : ByteArray := ((((((((((d4 (1980 + q) ++ (⟨#[45]⟩ : ByteArray)) ++ d2 M) ++ (⟨#[45]⟩ : ByteArray)) ++ d2 D) ++ (⟨#[32]⟩ : ByteArray)) ++ d2 H) ++ (⟨#[58]⟩ : ByteArray)) ++ d2 I) ++ (⟨#[58]⟩ : ByteArray)) ++ d2 S)
theorem dd2 (n : Nat) (h : n < 60) : Ev (fun k => montageref41_digits.f k (n : Int) 2) (d2 n) := Ev.of (fun k => montageref41_digits.mono _ _ k) (ddig2 ⟨n, h⟩)
theorem dd4 (n : Nat) (h : n < 128) : Ev (fun k => montageref41_digits.f k (1980 + (n : Int)) 4) (d4 (1980 + n)) := Ev.of (fun k => montageref41_digits.mono _ _ k) (ddig4 ⟨n, h⟩)
theorem text_ev (q M D H I S : Nat) (hq : q ≤ 127) (hM : M ≤ 12) (hD : D ≤ 31) (hH : H ≤ 23) (hI : I ≤ 59) (hS : S ≤ 58) : (∀ k, clock_right.f k (1980 + (q : Int)) M D H I S = some true → clock_Text.f k (1980 + (q : Int)) M D H I S = some (textB q M D H I S, 0)) ∧ Ev (fun k => montageref41_Text.f k (1980 + (q : Int)) M D H I S) (textB q M D H I S) := by
  constructor
  · intro k hk
    unfold clock_Text.f textB
    simp only [hk, Option.bind_some, if_true, dig4 ⟨q, by omega⟩, dig2 ⟨M, by omega⟩, dig2 ⟨D, by omega⟩, dig2 ⟨H, by omega⟩, dig2 ⟨I, by omega⟩, dig2 ⟨S, by omega⟩, ByteArray.size_append, sz1, szd2, szd4, Nat.reduceAdd, Nat.reduceLeDiff, ↓reduceIte]
  · obtain ⟨K0, g0⟩ := dd4 q (by omega)
    obtain ⟨K1, g1⟩ := dd2 M (by omega)
    obtain ⟨K2, g2⟩ := dd2 D (by omega)
    obtain ⟨K3, g3⟩ := dd2 H (by omega)
    obtain ⟨K4, g4⟩ := dd2 I (by omega)
    obtain ⟨K5, g5⟩ := dd2 S (by omega)
    refine ⟨K0 + K1 + K2 + K3 + K4 + K5, fun n hn => ?_⟩
    have a0 := g0 n (by omega)
    have a1 := g1 n (by omega)
    have a2 := g2 n (by omega)
    have a3 := g3 n (by omega)
    have a4 := g4 n (by omega)
    have a5 := g5 n (by omega)
    simp only [] at a0 a1 a2 a3 a4 a5
    show montageref41_Text.f n (1980 + (q : Int)) M D H I S = _
    unfold montageref41_Text.f textB
    simp only [a0, a1, a2, a3, a4, a5, Option.bind_some, ByteArray.size_append, sz1, szd2, szd4, Nat.reduceAdd, Nat.reduceLeDiff, ↓reduceIte]

end Go.Proofs.YtdaofffedfccmaaDoor.ClockP
