/- Parse, of the text of a date It has no conditions. -/
import Derived.Test.YtdaofffedfccmaaDoorYClock4
import Derived.BigRegion
import Derived.RegionTactic
import Derived.ChangeAlike
import Derived.Deep.RegionWith
import Derived.Deep.RegionLaw
import Derived.Laws.Tables
import Derived.Deep.QuietTactic
import Derived.BigQuiet
import Derived.Deep.RegionHeld3
import Derived.Deep.AppendLies
import Derived.Deep.DrawnRows
import Derived.Laws.CopyOwn
import Derived.Deep.MidRow
import Derived.Laws.ResultCell
import Derived.ChangeKeysEq
import Derived.Laws.BitsAllLaws
namespace Go.Proofs.YtdaofffedfccmaaDoor.ClockP
set_option linter.unusedVariables false
set_option linter.unusedSimpArgs false
open Go.RowKit Go.Proofs.YtdaofffedfccmaaDoorW.PrintWords Go.Proofs.YtdaofffedfccmaaDoorW.PrintLast Go.Proofs.YtdaofffedfccmaaDoorW.PrintMore
attribute [local go_sem] max2_int min2_int max_two min_two max_three min_three max_four min_four
open XClockDates
/-! ### Parse: clock's and the document's. -/
theorem at2 : ∀ x : Fin 60, XGlob.atoiV (d2 x.val).data.toList = ((x.val : Nat) : Int) := by decide +kernel
theorem at4 : ∀ x : Fin 128, XGlob.atoiV (d4 (1980 + x.val)).data.toList = 1980 + ((x.val : Nat) : Int) := by decide +kernel
section
variable (q M D H I S : Nat)
theorem ex0 : (textB q M D H I S).extract 0 4 = d4 (1980 + q) := by
  apply ByteArray.ext
  simp [textB, d2, d4]
theorem ex1 : (textB q M D H I S).extract 5 7 = d2 M := by
  apply ByteArray.ext
  simp [textB, d2, d4]
theorem ex2 : (textB q M D H I S).extract 8 10 = d2 D := by
  apply ByteArray.ext
  simp [textB, d2, d4]
theorem ex3 : (textB q M D H I S).extract 11 13 = d2 H := by
  apply ByteArray.ext
  simp [textB, d2, d4]
theorem ex4 : (textB q M D H I S).extract 14 16 = d2 I := by
  apply ByteArray.ext
  simp [textB, d2, d4]
theorem ex5 : (textB q M D H I S).extract 17 19 = d2 S := by
  apply ByteArray.ext
  simp [textB, d2, d4]
theorem textB_size : (textB q M D H I S).size = 19 := by
  unfold textB
  simp only [ByteArray.size_append, sz1, szd2, szd4]
end
theorem toList_inj {a b : ByteArray} (h : a.toList = b.toList) : a = b := by
  rw [ByteArray.toList_eq, ByteArray.toList_eq] at h
  apply ByteArray.ext
  exact Array.ext' (by simpa using h)
/-- A date that may be: its numbers are small. -/
theorem may_nats {y mo d h mi s : Int} (hm : MayP y mo d h mi s) : ∃ q M D H I S : Nat, (q ≤ 127 ∧ M ≤ 12 ∧ D ≤ 31 ∧ H ≤ 23 ∧ I ≤ 59 ∧ S ≤ 58) ∧ y = 1980 + (q : Int) ∧ mo = M ∧ d = D ∧ h = H ∧ mi = I ∧ s = S := by
  have hdz := dz_le y mo
  obtain ⟨hy, hmo, hd, hh, hmi, hs, hs2⟩ := hm
  exact ⟨(y - 1980).toNat, mo.toNat, d.toNat, h.toNat, mi.toNat, s.toNat, by omega, by omega, by omega, by omega, by omega, by omega, by omega⟩
theorem parse_yes1 (q M D H I S : Nat) (hm : MayP (1980 + (q : Int)) M D H I S) (hb : q ≤ 127 ∧ M ≤ 12 ∧ D ≤ 31 ∧ H ≤ 23 ∧ I ≤ 59 ∧ S ≤ 58) :
    Ev (fun k => clock_Parse.f k (textB q M D H I S)) (1980 + (q : Int), (M : Int), (D : Int), (H : Int), (I : Int), (S : Int), 0) := by
  obtain ⟨t1, t2⟩ := text_ev q M D H I S hb.1 hb.2.1 hb.2.2.1 hb.2.2.2.1 hb.2.2.2.2.1 hb.2.2.2.2.2
  have hr := right_ev (1980 + (q : Int)) M D H I S
  rw [decide_eq_true hm] at hr
  have p0 : partZ (textB q M D H I S) 0 4 = 1980 + (q : Int) := by unfold partZ; rw [ex0]; exact at4 ⟨q, by omega⟩
  have p1 : partZ (textB q M D H I S) 5 7 = M := by unfold partZ; rw [ex1]; exact at2 ⟨M, by omega⟩
  have p2 : partZ (textB q M D H I S) 8 10 = D := by unfold partZ; rw [ex2]; exact at2 ⟨D, by omega⟩
  have p3 : partZ (textB q M D H I S) 11 13 = H := by unfold partZ; rw [ex3]; exact at2 ⟨H, by omega⟩
  have p4 : partZ (textB q M D H I S) 14 16 = I := by unfold partZ; rw [ex4]; exact at2 ⟨I, by omega⟩
  have p5 : partZ (textB q M D H I S) 17 19 = S := by unfold partZ; rw [ex5]; exact at2 ⟨S, by omega⟩
  have hsz : ((textB q M D H I S).size : Int) = 19 := by rw [textB_size]; rfl
  obtain ⟨K, g⟩ := hr
  refine ⟨K, fun n hn => ?_⟩
  show clock_Parse.f n (textB q M D H I S) = _
  unfold clock_Parse.f
  rw [if_pos hsz, p0, p1, p2, p3, p4, p5, t1 n (g n hn), Option.bind_some]
  unfold parseR
  rw [if_pos ⟨rfl, rfl⟩, p0, p1, p2, p3, p4, p5]

end Go.Proofs.YtdaofffedfccmaaDoor.ClockP
