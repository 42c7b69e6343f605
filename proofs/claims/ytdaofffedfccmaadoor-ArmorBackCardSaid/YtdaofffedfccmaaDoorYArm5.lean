/- Armor: what is read says the signs It has no conditions. -/
import Derived.Test.YtdaofffedfccmaaDoorYArm4
import Derived.BigRegion
import Derived.RegionTactic
import Derived.ChangeAlike
import Derived.Deep.RegionWith
import Derived.Deep.RegionLaw
import Derived.Laws.Tables
import Derived.Deep.QuietTactic
import Derived.BigQuiet
import Derived.Deep.RegionHeld3
import Derived.Deep.AppendLies
import Derived.Deep.DrawnRows
import Derived.Laws.CopyOwn
import Derived.Deep.MidRow
import Derived.Laws.ResultCell
import Derived.ChangeKeysEq
import Derived.Laws.BitsAllLaws
namespace Go.Proofs.YtdaofffedfccmaaDoor.ArmP
set_option linter.unusedVariables false
set_option linter.unusedSimpArgs false
open Go.RowKit Go.Proofs.YtdaofffedfccmaaDoorW.PrintWords Go.Proofs.YtdaofffedfccmaaDoorW.PrintLast Go.Proofs.YtdaofffedfccmaaDoorW.PrintMore
attribute [local go_sem] max2_int min2_int max_two min_two max_three min_three max_four min_four
open XArmorSigns XGlob
/-! ### quad: what is read says the signs. -/
theorem acc_some (n : Nat) (c : UInt8) (y : List UInt8) (v r : Nat) (h : acc (n + 1) (c :: y) v = some r) : ∃ m, m < 64 ∧ c = sg m ∧ acc n y (v * 64 + m) = some r := by
  rw [acc] at h
  rcases ix_any c with hc | ⟨h0, h1, hc⟩
  · rw [if_pos (by omega)] at h; cases h
  · rw [if_neg (by omega)] at h
    exact ⟨(ix c).toNat, by omega, hc.symm, h⟩
theorem trimS_one (c : UInt8) (h : Lib.trimS [c] [0] = []) : c = 0 := by
  by_cases hc : c = 0
  · exact hc
  · exfalso
    simp [Lib.trimS, Lib.trimRightS, Lib.trimLeftS, List.dropWhile, hc] at h
theorem trimS_two (b c : UInt8) (h : Lib.trimS [b, c] [0] = []) : b = 0 ∧ c = 0 := by
  by_cases hc : c = 0
  · by_cases hb : b = 0
    · exact ⟨hb, hc⟩
    · exfalso
      simp [Lib.trimS, Lib.trimRightS, Lib.trimLeftS, List.dropWhile, hc, hb] at h
  · exfalso
    by_cases hb : b = 0
    · simp [Lib.trimS, Lib.trimRightS, Lib.trimLeftS, List.dropWhile, hc, hb] at h
    · simp [Lib.trimS, Lib.trimRightS, Lib.trimLeftS, List.dropWhile, hc, hb] at h
theorem ofNat_zero (x : Nat) (hx : x < 256) (h : UInt8.ofNat x = 0) : x = 0 := by
  have e := congrArg UInt8.toNat h
  rw [UInt8.toNat_ofNat_of_lt' (by simpa using hx)] at e
  simpa using e
theorem toNat_of (x : Nat) (hx : x < 256) : (UInt8.ofNat x).toNat = x := UInt8.toNat_ofNat_of_lt' (by simpa using hx)
theorem good_of (l : List UInt8) (hl : l.length = 4) (last : Bool) (q : ByteArray) (h : quadF l last = (q, true)) : good l last q.data.toList := by
  match l, hl with
  | [x0, x1, x2, x3], _ =>
    by_cases h3 : x3 = 61
    · subst h3
      by_cases h2 : x2 = 61
      · subst h2
        by_cases h1 : x1 = 61
        · subst h1
          have e : (Lib.trimRightS [x0, 61, 61, 61] [61]).length ≤ 1 := by
            rw [show [x0, (61 : UInt8), 61, 61] = [x0] ++ [61] ++ [61] ++ [61] from rfl, trimR_snoc, if_pos rfl, trimR_snoc, if_pos rfl, trimR_snoc, if_pos rfl]
            exact trimR_le [x0]
          unfold quadF at h
          rw [if_pos e] at h
          cases h
        · have e : Lib.trimRightS [x0, x1, 61, 61] [61] = [x0, x1] := by
            rw [show [x0, x1, (61 : UInt8), 61] = [x0] ++ [x1] ++ [61] ++ [61] from rfl, trimR_snoc, if_pos rfl, trimR_snoc, if_pos rfl, trimR_snoc, if_neg h1]
            rfl
          unfold quadF at h
          rw [e, if_neg (by simp)] at h
          cases last with
          | false => rw [if_pos (by simp)] at h; cases h
          | true =>
            rw [if_neg (by simp)] at h
            cases ha : acc 4 [x0, x1] 0 with
            | none => rw [ha] at h; cases h
            | some V =>
              rw [ha] at h
              obtain ⟨i0, l0, rfl, hA1⟩ := acc_some _ _ _ _ _ ha
              obtain ⟨i1, l1, rfl, hA2⟩ := acc_some _ _ _ _ _ hA1
              have hV : ((0 * 64 + i0) * 64 + i1) * 64 * 64 = V := Option.some.inj hA2
              have hq : (⟨#[UInt8.ofNat (V / 65536 % 256)]⟩ : ByteArray) = q := congrArg Prod.fst h
              have ht : (Lib.trimS [UInt8.ofNat (V / 256 % 256), UInt8.ofNat (V % 256)] [0] == []) = true := congrArg Prod.snd h
              obtain ⟨hb, hc⟩ := trimS_two _ _ (by simpa using ht)
              have hb := ofNat_zero _ (by omega) hb
              have hc := ofNat_zero _ (by omega) hc
              rw [← hq]
              refine ⟨?_, by simp, by simp, .inr rfl⟩
              show _ = quadL [UInt8.ofNat (V / 65536 % 256)]
              rw [quad1, toNat_of (V / 65536 % 256) (by omega), show V / 65536 % 256 / 4 = i0 by omega, show V / 65536 % 256 % 4 * 16 = i1 by omega]
      · have e : Lib.trimRightS [x0, x1, x2, 61] [61] = [x0, x1, x2] := by
          rw [show [x0, x1, x2, (61 : UInt8)] = [x0, x1] ++ [x2] ++ [61] from rfl, trimR_snoc, if_pos rfl, trimR_snoc, if_neg h2]
          rfl
        unfold quadF at h
        rw [e, if_neg (by simp)] at h
        cases last with
        | false => rw [if_pos (by simp)] at h; cases h
        | true =>
          rw [if_neg (by simp)] at h
          cases ha : acc 4 [x0, x1, x2] 0 with
          | none => rw [ha] at h; cases h
          | some V =>
            rw [ha] at h
            obtain ⟨i0, l0, rfl, hA1⟩ := acc_some _ _ _ _ _ ha
            obtain ⟨i1, l1, rfl, hA2⟩ := acc_some _ _ _ _ _ hA1
            obtain ⟨i2, l2, rfl, hA3⟩ := acc_some _ _ _ _ _ hA2
            have hV : (((0 * 64 + i0) * 64 + i1) * 64 + i2) * 64 = V := Option.some.inj hA3
            have hq : (⟨#[UInt8.ofNat (V / 65536 % 256), UInt8.ofNat (V / 256 % 256)]⟩ : ByteArray) = q := congrArg Prod.fst h
            have ht : (Lib.trimS [UInt8.ofNat (V % 256)] [0] == []) = true := congrArg Prod.snd h
            have hc := ofNat_zero (V % 256) (by omega) (trimS_one _ (by simpa using ht))
            rw [← hq]
            refine ⟨?_, by simp, by simp, .inr rfl⟩
            show _ = quadL [UInt8.ofNat (V / 65536 % 256), UInt8.ofNat (V / 256 % 256)]
            rw [quad2, toNat_of (V / 65536 % 256) (by omega), toNat_of (V / 256 % 256) (by omega), show V / 65536 % 256 / 4 = i0 by omega, show V / 65536 % 256 % 4 * 16 + V / 256 % 256 / 16 = i1 by omega, show V / 256 % 256 % 16 * 4 = i2 by omega]
    · have e : Lib.trimRightS [x0, x1, x2, x3] [61] = [x0, x1, x2, x3] := by
        rw [show [x0, x1, x2, x3] = [x0, x1, x2] ++ [x3] from rfl, trimR_snoc, if_neg h3]
      unfold quadF at h
      rw [e, if_neg (by simp), if_neg (by simp)] at h
      cases ha : acc 4 [x0, x1, x2, x3] 0 with
      | none => rw [ha] at h; cases h
      | some V =>
        rw [ha] at h
        obtain ⟨i0, l0, rfl, hA1⟩ := acc_some _ _ _ _ _ ha
        obtain ⟨i1, l1, rfl, hA2⟩ := acc_some _ _ _ _ _ hA1
        obtain ⟨i2, l2, rfl, hA3⟩ := acc_some _ _ _ _ _ hA2
        obtain ⟨i3, l3, rfl, hA4⟩ := acc_some _ _ _ _ _ hA3
        have hV : (((0 * 64 + i0) * 64 + i1) * 64 + i2) * 64 + i3 = V := Option.some.inj hA4
        have hq : (⟨#[UInt8.ofNat (V / 65536 % 256), UInt8.ofNat (V / 256 % 256), UInt8.ofNat (V % 256)]⟩ : ByteArray) = q := congrArg Prod.fst h
        rw [← hq]
        refine ⟨?_, by simp, by simp, .inl rfl⟩
        show _ = quadL [UInt8.ofNat (V / 65536 % 256), UInt8.ofNat (V / 256 % 256), UInt8.ofNat (V % 256)]
        rw [quad3, toNat_of (V / 65536 % 256) (by omega), toNat_of (V / 256 % 256) (by omega), toNat_of (V % 256) (by omega), show V / 65536 % 256 / 4 = i0 by omega, show V / 65536 % 256 % 4 * 16 + V / 256 % 256 / 16 = i1 by omega, show V / 256 % 256 % 16 * 4 + V % 256 / 64 = i2 by omega, show V % 256 % 64 = i3 by omega]
/-! ### Bytes: what signs are read, and as what. -/
theorem good_len (l : List UInt8) (last : Bool) (q : List UInt8) (h : good l last q) : l.length = 4 := by rw [h.1]; rfl
theorem signsL_quads (q : List UInt8) (b : List UInt8) (h1 : q.length = 3) : signsL (q ++ b) = quadL q ++ signsL b := by
  match q, h1 with
  | [x, y, z], _ => rfl
theorem signsL_last (q : List UInt8) (h1 : 1 ≤ q.length) (h2 : q.length ≤ 3) : signsL q = quadL q := by
  match q, h1, h2 with
  | [x], _, _ => rfl
  | [x, y], _, _ => rfl
  | [x, y, z], _, _ => rfl
theorem signsL_mod : ∀ (n : Nat) (l : List UInt8), l.length ≤ n → (signsL l).length % 4 = 0
  | 0, l, h => by
    obtain rfl : l = [] := List.length_eq_zero_iff.1 (by omega)
    rfl
  | n + 1, l, h => by
    by_cases hl : l = []
    · subst hl; rfl
    · have h0 : 0 < l.length := List.length_pos_iff.2 hl
      have ih := signsL_mod n (l.drop 3) (by rw [List.length_drop]; omega)
      rw [signsL_step l hl, List.length_append]
      have : (quadL l).length = 4 := rfl
      omega
theorem signsL_nil (l : List UInt8) (h : signsL l = []) : l = [] := by
  by_cases hl : l = []
  · exact hl
  · rw [signsL_step l hl] at h
    have := congrArg List.length h
    rw [List.length_append] at this
    have h4 : (quadL l).length = 4 := rfl
    rw [h4] at this
    simp at this
/-- Signs are taken apart: four, and the others. -/
theorem signsL_cut (b : List UInt8) (x : List UInt8) (y : List UInt8) (hx : x.length = 4) (h : signsL b = x ++ y) : good x (decide (y = [])) (b.take 3) ∧ signsL (b.drop 3) = y := by
  have hb : b ≠ [] := by
    intro e
    subst e
    have := congrArg List.length h
    rw [List.length_append] at this
    simp [signsL] at this
    omega
  have h0 : 0 < b.length := List.length_pos_iff.2 hb
  have hq : quadL b = quadL (b.take 3) := by
    match b, hb with
    | [a], _ => rfl
    | [a, c], _ => rfl
    | a :: c :: d :: t, _ => exact quadL_take a c d t
  rw [signsL_step b hb, hq] at h
  have h4 : (quadL (b.take 3)).length = 4 := rfl
  obtain ⟨e1, e2⟩ := List.append_inj h (by rw [h4, hx])
  refine ⟨⟨e1.symm, by rw [List.length_take]; omega, by rw [List.length_take]; omega, ?_⟩, e2⟩
  by_cases h3 : 3 ≤ b.length
  · left; rw [List.length_take]; omega
  · right
    rw [List.drop_eq_nil_of_le (by omega)] at e2
    exact decide_eq_true e2.symm

end Go.Proofs.YtdaofffedfccmaaDoor.ArmP
