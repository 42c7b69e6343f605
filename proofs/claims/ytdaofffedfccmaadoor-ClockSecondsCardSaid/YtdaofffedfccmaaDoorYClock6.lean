/- Parse It has no conditions. -/
import Derived.Test.YtdaofffedfccmaaDoorYClock4
import Derived.Test.YtdaofffedfccmaaDoorXClockDatesx8
import Derived.BigRegion
import Derived.RegionTactic
import Derived.ChangeAlike
import Derived.Deep.RegionWith
import Derived.Deep.RegionLaw
import Derived.Laws.Tables
import Derived.Deep.QuietTactic
import Derived.BigQuiet
import Derived.Deep.RegionHeld3
import Derived.Deep.AppendLies
import Derived.Deep.DrawnRows
import Derived.Laws.CopyOwn
import Derived.Deep.MidRow
import Derived.Laws.ResultCell
import Derived.ChangeKeysEq
import Derived.Laws.BitsAllLaws
namespace Go.Proofs.YtdaofffedfccmaaDoor.ClockP
set_option linter.unusedVariables false
set_option linter.unusedSimpArgs false
open Go.RowKit Go.Proofs.YtdaofffedfccmaaDoorW.PrintWords Go.Proofs.YtdaofffedfccmaaDoorW.PrintLast Go.Proofs.YtdaofffedfccmaaDoorW.PrintMore
attribute [local go_sem] max2_int min2_int max_two min_two max_three min_three max_four min_four
open XClockDates
/-! ### Parse: clock's and the document's. -/
theorem at2 : ∀ x : Fin 60, XGlob.atoiV (d2 x.val).data.toList = ((x.val : Nat) : Int) := by decide +kernel
theorem at4 : ∀ x : Fin 128, XGlob.atoiV (d4 (1980 + x.val)).data.toList = 1980 + ((x.val : Nat) : Int) := by decide +kernel
theorem nm2 : ∀ x : Fin 60, montageref41_number.f 8 (d2 x.val) = some ((x.val : Nat) : Int) := by decide +kernel
theorem nm4 : ∀ x : Fin 128, montageref41_number.f 8 (d4 (1980 + x.val)) = some (1980 + ((x.val : Nat) : Int)) := by decide +kernel
section
variable (q M D H I S : Nat)
theorem ex0 : (textB q M D H I S).extract 0 4 = d4 (1980 + q) := by
  apply ByteArray.ext
  simp [textB, d2, d4]
theorem ex1 : (textB q M D H I S).extract 5 7 = d2 M := by
  apply ByteArray.ext
  simp [textB, d2, d4]
theorem ex2 : (textB q M D H I S).extract 8 10 = d2 D := by
  apply ByteArray.ext
  simp [textB, d2, d4]
theorem ex3 : (textB q M D H I S).extract 11 13 = d2 H := by
  apply ByteArray.ext
  simp [textB, d2, d4]
theorem ex4 : (textB q M D H I S).extract 14 16 = d2 I := by
  apply ByteArray.ext
  simp [textB, d2, d4]
theorem ex5 : (textB q M D H I S).extract 17 19 = d2 S := by
  apply ByteArray.ext
  simp [textB, d2, d4]
theorem textB_size : (textB q M D H I S).size = 19 := by
  unfold textB
  simp only [ByteArray.size_append, sz1, szd2, szd4]
end
theorem toList_inj {a b : ByteArray} (h : a.toList = b.toList) : a = b := by
  rw [ByteArray.toList_eq, ByteArray.toList_eq] at h
  apply ByteArray.ext
  exact Array.ext' (by simpa using h)
/-- The document's number of a piece: some number. -/
theorem number_any (x : ByteArray) (hx : x.size ≤ 40) : ∀ (e i : Nat) (v : Int), i + e = x.size → ∃ r, Ev (fun k => montageref41_number.l0 k x v (i : Int)) r
  | 0, i, v, he => ⟨v, Ev.step (f := fun _ => some v) (fun k => by
      simp only [montageref41_number.l0]
      rw [if_neg (by omega)]) (Ev.now _)⟩
  | e + 1, i, v, he => by
    obtain ⟨r, hr⟩ := number_any x hx e (i + 1) (wrap64 ((wrap64 ((wrap64 (10 * v)) + (wrap64 (bt x (i : Int))))) - 48)) (by omega)
    refine ⟨r, Ev.step (fun k => ?_) hr⟩
    simp only [montageref41_number.l0]
    rw [if_pos (by omega), if_pos (by omega), w64c (x := (i : Int) + 1) (by omega) (by omega)]
    rfl
theorem num_any (x : ByteArray) (hx : x.size ≤ 40) : ∃ r, Ev (fun k => montageref41_number.f k x) r := number_any x hx x.size 0 0 (by omega)
theorem num2 (n : Nat) (h : n < 60) : Ev (fun k => montageref41_number.f k (d2 n)) (n : Int) := Ev.of (fun k => montageref41_number.mono _ k) (nm2 ⟨n, h⟩)
theorem num4 (n : Nat) (h : n < 128) : Ev (fun k => montageref41_number.f k (d4 (1980 + n))) (1980 + (n : Int)) := Ev.of (fun k => montageref41_number.mono _ k) (nm4 ⟨n, h⟩)
/-- A date that may be: its numbers are small. -/
theorem may_nats {y mo d h mi s : Int} (hm : MayP y mo d h mi s) : ∃ q M D H I S : Nat, (q ≤ 127 ∧ M ≤ 12 ∧ D ≤ 31 ∧ H ≤ 23 ∧ I ≤ 59 ∧ S ≤ 58) ∧ y = 1980 + (q : Int) ∧ mo = M ∧ d = D ∧ h = H ∧ mi = I ∧ s = S := by
  have hdz := dz_le y mo
  obtain ⟨hy, hmo, hd, hh, hmi, hs, hs2⟩ := hm
  exact ⟨(y - 1980).toNat, mo.toNat, d.toNat, h.toNat, mi.toNat, s.toNat, by omega, by omega, by omega, by omega, by omega, by omega, by omega⟩
theorem parse_yes (q M D H I S : Nat) (hm : MayP (1980 + (q : Int)) M D H I S) (hb : q ≤ 127 ∧ M ≤ 12 ∧ D ≤ 31 ∧ H ≤ 23 ∧ I ≤ 59 ∧ S ≤ 58) :
    Ev (fun k => clock_Parse.f k (textB q M D H I S)) (1980 + (q : Int), (M : Int), (D : Int), (H : Int), (I : Int), (S : Int), 0) ∧ Ev (fun k => montageref41_Parse.f k (textB q M D H I S)) (1980 + (q : Int), (M : Int), (D : Int), (H : Int), (I : Int), (S : Int), 0) := by
  obtain ⟨t1, t2⟩ := text_ev q M D H I S hb.1 hb.2.1 hb.2.2.1 hb.2.2.2.1 hb.2.2.2.2.1 hb.2.2.2.2.2
  have hr := right_ev (1980 + (q : Int)) M D H I S
  rw [decide_eq_true hm] at hr
  have hy := may_ev (1980 + (q : Int)) M D H I S
  rw [decide_eq_true hm] at hy
  have p0 : partZ (textB q M D H I S) 0 4 = 1980 + (q : Int) := by unfold partZ; rw [ex0]; exact at4 ⟨q, by omega⟩
  have p1 : partZ (textB q M D H I S) 5 7 = M := by unfold partZ; rw [ex1]; exact at2 ⟨M, by omega⟩
  have p2 : partZ (textB q M D H I S) 8 10 = D := by unfold partZ; rw [ex2]; exact at2 ⟨D, by omega⟩
  have p3 : partZ (textB q M D H I S) 11 13 = H := by unfold partZ; rw [ex3]; exact at2 ⟨H, by omega⟩
  have p4 : partZ (textB q M D H I S) 14 16 = I := by unfold partZ; rw [ex4]; exact at2 ⟨I, by omega⟩
  have p5 : partZ (textB q M D H I S) 17 19 = S := by unfold partZ; rw [ex5]; exact at2 ⟨S, by omega⟩
  have hsz : ((textB q M D H I S).size : Int) = 19 := by rw [textB_size]; rfl
  constructor
  · obtain ⟨K, g⟩ := hr
    refine ⟨K, fun n hn => ?_⟩
    show clock_Parse.f n (textB q M D H I S) = _
    unfold clock_Parse.f
    rw [if_pos hsz, p0, p1, p2, p3, p4, p5, t1 n (g n hn), Option.bind_some]
    unfold parseR
    rw [if_pos ⟨rfl, rfl⟩, p0, p1, p2, p3, p4, p5]
  · obtain ⟨K, g⟩ := hy
    obtain ⟨K2, g2⟩ := t2
    obtain ⟨L0, n0⟩ := num4 q (by omega)
    obtain ⟨L1, n1⟩ := num2 M (by omega)
    obtain ⟨L2, n2⟩ := num2 D (by omega)
    obtain ⟨L3, n3⟩ := num2 H (by omega)
    obtain ⟨L4, n4⟩ := num2 I (by omega)
    obtain ⟨L5, n5⟩ := num2 S (by omega)
    refine ⟨K + K2 + L0 + L1 + L2 + L3 + L4 + L5, fun n hn => ?_⟩
    have a0 := n0 n (by omega)
    have a1 := n1 n (by omega)
    have a2 := n2 n (by omega)
    have a3 := n3 n (by omega)
    have a4 := n4 n (by omega)
    have a5 := n5 n (by omega)
    have b0 := g n (by omega)
    have b1 := g2 n (by omega)
    simp only [] at a0 a1 a2 a3 a4 a5 b0 b1
    show montageref41_Parse.f n (textB q M D H I S) = _
    unfold montageref41_Parse.f
    rw [if_pos hsz, textB_size, ex0, ex1, ex2, ex3, ex4, ex5, a0, Option.bind_some, a1, Option.bind_some, a2, Option.bind_some, a3, Option.bind_some, a4, Option.bind_some, a5, Option.bind_some]
    unfold docParse
    rw [b0, Option.bind_some, if_pos rfl, b1, Option.bind_some, if_pos rfl]
theorem parse_no (s : ByteArray) (hs : s.size ≤ 30) (hno : ∀ q M D H I S : Nat, MayP (1980 + (q : Int)) M D H I S → s ≠ textB q M D H I S) :
    Ev (fun k => clock_Parse.f k s) (0, 0, 0, 0, 0, 0, 2) ∧ Ev (fun k => montageref41_Parse.f k s) (0, 0, 0, 0, 0, 0, 2) := by
  by_cases h19 : (s.size : Int) = 19
  · constructor
    · have hr := right_ev (partZ s 0 4) (partZ s 5 7) (partZ s 8 10) (partZ s 11 13) (partZ s 14 16) (partZ s 17 19)
      obtain ⟨K, g⟩ := hr
      refine ⟨K, fun n hn => ?_⟩
      have gn := g n hn
      simp only [] at gn
      show clock_Parse.f n s = _
      unfold clock_Parse.f
      rw [if_pos h19]
      by_cases hm : MayP (partZ s 0 4) (partZ s 5 7) (partZ s 8 10) (partZ s 11 13) (partZ s 14 16) (partZ s 17 19)
      · rw [decide_eq_true hm] at gn
        obtain ⟨q, M, D, H, I, S, hb, e0, e1, e2, e3, e4, e5⟩ := may_nats hm
        rw [e0, e1, e2, e3, e4, e5] at gn hm ⊢
        rw [(text_ev q M D H I S hb.1 hb.2.1 hb.2.2.1 hb.2.2.2.1 hb.2.2.2.2.1 hb.2.2.2.2.2).1 n gn, Option.bind_some]
        unfold parseR
        rw [if_neg (fun h => hno q M D H I S hm (toList_inj h.2).symm)]
      · rw [decide_eq_false hm] at gn
        have ht : clock_Text.f n (partZ s 0 4) (partZ s 5 7) (partZ s 8 10) (partZ s 11 13) (partZ s 14 16) (partZ s 17 19) = some ((⟨#[]⟩ : ByteArray), 1) := by
          unfold clock_Text.f
          rw [gn, Option.bind_some, if_neg (by simp)]
        rw [ht, Option.bind_some]
        unfold parseR
        rw [if_neg (fun h => absurd h.1 (by decide))]
    · have hex : ∀ a b : Nat, (s.extract a b).size ≤ 40 := fun a b => by rw [ByteArray.size_extract]; omega
      obtain ⟨v0, L0, n0⟩ := num_any (s.extract 0 4) (hex _ _)
      obtain ⟨v1, L1, n1⟩ := num_any (s.extract 5 7) (hex _ _)
      obtain ⟨v2, L2, n2⟩ := num_any (s.extract 8 10) (hex _ _)
      obtain ⟨v3, L3, n3⟩ := num_any (s.extract 11 13) (hex _ _)
      obtain ⟨v4, L4, n4⟩ := num_any (s.extract 14 16) (hex _ _)
      obtain ⟨v5, L5, n5⟩ := num_any (s.extract 17 s.size) (hex _ _)
      have hd : Ev (fun k => docParse k s v0 v1 v2 v3 v4 v5) (0, 0, 0, 0, 0, 0, 2) := by
        have hy := may_ev v0 v1 v2 v3 v4 v5
        unfold docParse
        by_cases hm : MayP v0 v1 v2 v3 v4 v5
        · rw [decide_eq_true hm] at hy
          obtain ⟨q, M, D, H, I, S, hb, rfl, rfl, rfl, rfl, rfl, rfl⟩ := may_nats hm
          have t2 := (text_ev q M D H I S hb.1 hb.2.1 hb.2.2.1 hb.2.2.2.1 hb.2.2.2.2.1 hb.2.2.2.2.2).2
          obtain ⟨K, g⟩ := hy
          obtain ⟨K2, g2⟩ := t2
          refine ⟨K + K2, fun n hn => ?_⟩
          have b0 := g n (by omega)
          have b1 := g2 n (by omega)
          simp only [] at b0 b1
          simp only []
          rw [b0, Option.bind_some, if_pos rfl, b1, Option.bind_some, if_neg (fun h => hno q M D H I S hm (toList_inj h).symm)]
        · rw [decide_eq_false hm] at hy
          obtain ⟨K, g⟩ := hy
          refine ⟨K, fun n hn => ?_⟩
          have b0 := g n hn
          simp only [] at b0
          simp only []
          rw [b0, Option.bind_some, if_neg (by simp)]
      obtain ⟨K, g⟩ := hd
      refine ⟨K + L0 + L1 + L2 + L3 + L4 + L5, fun n hn => ?_⟩
      have a0 := n0 n (by omega)
      have a1 := n1 n (by omega)
      have a2 := n2 n (by omega)
      have a3 := n3 n (by omega)
      have a4 := n4 n (by omega)
      have a5 := n5 n (by omega)
      have b0 := g n (by omega)
      simp only [] at a0 a1 a2 a3 a4 a5 b0
      show montageref41_Parse.f n s = _
      unfold montageref41_Parse.f
      rw [if_pos h19, a0, Option.bind_some, a1, Option.bind_some, a2, Option.bind_some, a3, Option.bind_some, a4, Option.bind_some, a5, Option.bind_some, b0]
  · constructor
    · refine Ev.congr (fun k => ?_) (Ev.now _)
      unfold clock_Parse.f
      rw [if_neg h19]
    · refine Ev.congr (fun k => ?_) (Ev.now _)
      unfold montageref41_Parse.f
      rw [if_neg h19]
/-- Both parse to one answer. -/
theorem parse_both (s : ByteArray) (hs : s.size ≤ 30) : ∃ r, Ev (fun k => clock_Parse.f k s) r ∧ Ev (fun k => montageref41_Parse.f k s) r := by
  by_cases h : ∃ q M D H I S : Nat, MayP (1980 + (q : Int)) M D H I S ∧ s = textB q M D H I S
  · obtain ⟨q, M, D, H, I, S, hm, rfl⟩ := h
    have hdz := dz_le (1980 + (q : Int)) M
    have hm' := hm
    obtain ⟨hy, hmo, hd, hh, hmi, hs', hs2⟩ := hm'
    exact ⟨_, parse_yes q M D H I S hm ⟨by omega, by omega, by omega, by omega, by omega, by omega⟩⟩
  · exact ⟨_, parse_no s hs (fun q M D H I S hm e => h ⟨q, M, D, H, I, S, hm, e⟩)⟩

end Go.Proofs.YtdaofffedfccmaaDoor.ClockP
