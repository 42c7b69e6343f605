/- Armor: groups of bits are signs It has no conditions. -/
import Derived.Test.YtdaofffedfccmaaDoorYArm1
import Derived.BigRegion
import Derived.RegionTactic
import Derived.ChangeAlike
import Derived.Deep.RegionWith
import Derived.Deep.RegionLaw
import Derived.Laws.Tables
import Derived.Deep.QuietTactic
import Derived.BigQuiet
import Derived.Deep.RegionHeld3
import Derived.Deep.AppendLies
import Derived.Deep.DrawnRows
import Derived.Laws.CopyOwn
import Derived.Deep.MidRow
import Derived.Laws.ResultCell
import Derived.ChangeKeysEq
import Derived.Laws.BitsAllLaws
namespace Go.Proofs.YtdaofffedfccmaaDoor.ArmP
set_option linter.unusedVariables false
set_option linter.unusedSimpArgs false
open Go.RowKit Go.Proofs.YtdaofffedfccmaaDoorW.PrintWords Go.Proofs.YtdaofffedfccmaaDoorW.PrintLast Go.Proofs.YtdaofffedfccmaaDoorW.PrintMore
attribute [local go_sem] max2_int min2_int max_two min_two max_three min_three max_four min_four
open XArmorSigns XGlob
/-! ### Groups of bits are signs. -/
theorem grp_app : ∀ (m n : Nat) (Y Z : List Int), Y.length = 6 * m → grp (m + n) (Y ++ Z) = grp m Y ++ grp n Z
  | 0, n, Y, Z, h => by
    obtain rfl : Y = [] := List.length_eq_zero_iff.1 (by omega)
    rw [Nat.zero_add]
    rfl
  | m + 1, n, Y, Z, h => by
    rw [show m + 1 + n = m + n + 1 by omega, grp, grp, List.take_append_of_le_length (by omega), List.drop_append_of_le_length (by omega), grp_app m n (Y.drop 6) Z (by rw [List.length_drop]; omega)]
    rfl
theorem grp_len : ∀ (n : Nat) (X : List Int), (grp n X).length = n
  | 0, _ => rfl
  | n + 1, X => by rw [grp, List.length_cons, grp_len n]
theorem pad6_app (Y X : List Int) (h : Y.length % 6 = 0) : pad6 (Y ++ X) = Y ++ pad6 X := by
  unfold pad6
  rw [List.append_assoc, List.length_append]
  congr 3
  omega
theorem pad4_app (l m : List UInt8) (h : l.length % 4 = 0) : pad4 (l ++ m) = l ++ pad4 m := by
  unfold pad4
  rw [List.append_assoc, List.length_append]
  congr 3
  omega
theorem b0 (a : Nat) (h : a < 256) : ((2 * (2 * (2 * (2 * (2 * (2 * 0 + ((a / 2 ^ 7 % 2 : Nat) : Int)) + ((a / 2 ^ 6 % 2 : Nat) : Int)) + ((a / 2 ^ 5 % 2 : Nat) : Int)) + ((a / 2 ^ 4 % 2 : Nat) : Int)) + ((a / 2 ^ 3 % 2 : Nat) : Int)) + ((a / 2 ^ 2 % 2 : Nat) : Int) : Int)).toNat = a / 4 := by omega
theorem b1 (a b : Nat) (h : a < 256) (hb : b < 256) : ((2 * (2 * (2 * (2 * (2 * (2 * 0 + ((a / 2 ^ 1 % 2 : Nat) : Int)) + ((a / 2 ^ 0 % 2 : Nat) : Int)) + ((b / 2 ^ 7 % 2 : Nat) : Int)) + ((b / 2 ^ 6 % 2 : Nat) : Int)) + ((b / 2 ^ 5 % 2 : Nat) : Int)) + ((b / 2 ^ 4 % 2 : Nat) : Int) : Int)).toNat = a % 4 * 16 + b / 16 := by omega
theorem b2 (a b : Nat) (h : a < 256) (hb : b < 256) : ((2 * (2 * (2 * (2 * (2 * (2 * 0 + ((a / 2 ^ 3 % 2 : Nat) : Int)) + ((a / 2 ^ 2 % 2 : Nat) : Int)) + ((a / 2 ^ 1 % 2 : Nat) : Int)) + ((a / 2 ^ 0 % 2 : Nat) : Int)) + ((b / 2 ^ 7 % 2 : Nat) : Int)) + ((b / 2 ^ 6 % 2 : Nat) : Int) : Int)).toNat = a % 16 * 4 + b / 64 := by omega
theorem b3 (a : Nat) (h : a < 256) : ((2 * (2 * (2 * (2 * (2 * (2 * 0 + ((a / 2 ^ 5 % 2 : Nat) : Int)) + ((a / 2 ^ 4 % 2 : Nat) : Int)) + ((a / 2 ^ 3 % 2 : Nat) : Int)) + ((a / 2 ^ 2 % 2 : Nat) : Int)) + ((a / 2 ^ 1 % 2 : Nat) : Int)) + ((a / 2 ^ 0 % 2 : Nat) : Int) : Int)).toNat = a % 64 := by omega
theorem b1z (a : Nat) (h : a < 256) : ((2 * (2 * (2 * (2 * (2 * (2 * 0 + ((a / 2 ^ 1 % 2 : Nat) : Int)) + ((a / 2 ^ 0 % 2 : Nat) : Int)) + 0) + 0) + 0) + 0 : Int)).toNat = a % 4 * 16 := by omega
theorem b2z (a : Nat) (h : a < 256) : ((2 * (2 * (2 * (2 * (2 * (2 * 0 + ((a / 2 ^ 3 % 2 : Nat) : Int)) + ((a / 2 ^ 2 % 2 : Nat) : Int)) + ((a / 2 ^ 1 % 2 : Nat) : Int)) + ((a / 2 ^ 0 % 2 : Nat) : Int)) + 0) + 0 : Int)).toNat = a % 16 * 4 := by omega
theorem v0 (a b c : Nat) (h : a < 256) (hb : b < 256) (hc : c < 256) : (((0 * 256 + a) * 256 + b) * 256 + c) / 2 ^ 18 % 64 = a / 4 := by omega
theorem v1 (a b c : Nat) (h : a < 256) (hb : b < 256) (hc : c < 256) : (((0 * 256 + a) * 256 + b) * 256 + c) / 2 ^ 12 % 64 = a % 4 * 16 + b / 16 := by omega
theorem v2 (a b c : Nat) (h : a < 256) (hb : b < 256) (hc : c < 256) : (((0 * 256 + a) * 256 + b) * 256 + c) / 2 ^ 6 % 64 = b % 16 * 4 + c / 64 := by omega
theorem v3 (a b c : Nat) (h : a < 256) (hb : b < 256) (hc : c < 256) : (((0 * 256 + a) * 256 + b) * 256 + c) / 2 ^ 0 % 64 = c % 64 := by omega
/-- Four signs, in words. -/
theorem quad3 (a b c : UInt8) : quadL [a, b, c] = [sg (a.toNat / 4), sg (a.toNat % 4 * 16 + b.toNat / 16), sg (b.toNat % 16 * 4 + c.toNat / 64), sg (c.toNat % 64)] := by
  show [sg ((((0 * 256 + a.toNat) * 256 + b.toNat) * 256 + c.toNat) / 2 ^ 18 % 64), sg ((((0 * 256 + a.toNat) * 256 + b.toNat) * 256 + c.toNat) / 2 ^ 12 % 64), sg ((((0 * 256 + a.toNat) * 256 + b.toNat) * 256 + c.toNat) / 2 ^ 6 % 64), sg ((((0 * 256 + a.toNat) * 256 + b.toNat) * 256 + c.toNat) / 2 ^ 0 % 64)] = _
  have ha := UInt8.toNat_lt a
  have hb := UInt8.toNat_lt b
  have hc := UInt8.toNat_lt c
  rw [v0 _ _ _ ha hb hc, v1 _ _ _ ha hb hc, v2 _ _ _ ha hb hc, v3 _ _ _ ha hb hc]
theorem quad2 (a b : UInt8) : quadL [a, b] = [sg (a.toNat / 4), sg (a.toNat % 4 * 16 + b.toNat / 16), sg (b.toNat % 16 * 4), 61] := by
  show [sg ((((0 * 256 + a.toNat) * 256 + b.toNat) * 256 + 0) / 2 ^ 18 % 64), sg ((((0 * 256 + a.toNat) * 256 + b.toNat) * 256 + 0) / 2 ^ 12 % 64), sg ((((0 * 256 + a.toNat) * 256 + b.toNat) * 256 + 0) / 2 ^ 6 % 64), 61] = _
  have ha := UInt8.toNat_lt a
  have hb := UInt8.toNat_lt b
  rw [v0 _ _ 0 ha hb (by decide), v1 _ _ 0 ha hb (by decide), v2 _ _ 0 ha hb (by decide), Nat.zero_div, Nat.add_zero]
theorem quad1 (a : UInt8) : quadL [a] = [sg (a.toNat / 4), sg (a.toNat % 4 * 16), 61, 61] := by
  show [sg ((((0 * 256 + a.toNat) * 256 + 0) * 256 + 0) / 2 ^ 18 % 64), sg ((((0 * 256 + a.toNat) * 256 + 0) * 256 + 0) / 2 ^ 12 % 64), 61, 61] = _
  have ha := UInt8.toNat_lt a
  rw [v0 _ 0 0 ha (by decide) (by decide), v1 _ 0 0 ha (by decide) (by decide), Nat.zero_div, Nat.add_zero]
theorem grp_quad (a b c : UInt8) : grp 4 (bd a.toNat 8 ++ (bd b.toNat 8 ++ bd c.toNat 8)) = quadL [a, b, c] := by
  have ha := UInt8.toNat_lt a
  have hb := UInt8.toNat_lt b
  have hc := UInt8.toNat_lt c
  rw [quad3, ← b0 a.toNat ha, ← b1 a.toNat b.toNat ha hb, ← b2 b.toNat c.toNat hb hc, ← b3 c.toNat hc]
  rfl
theorem grp_pad2 (a b : UInt8) : pad4 (grp 3 (pad6 (bd a.toNat 8 ++ bd b.toNat 8))) = quadL [a, b] := by
  have ha := UInt8.toNat_lt a
  have hb := UInt8.toNat_lt b
  have e : pad6 (bd a.toNat 8 ++ bd b.toNat 8) = bd a.toNat 8 ++ (bd b.toNat 8 ++ [0, 0]) := by
    unfold pad6
    rw [List.length_append, bd_len, bd_len, List.append_assoc]
    rfl
  rw [e, quad2, ← b0 a.toNat ha, ← b1 a.toNat b.toNat ha hb, ← b2z b.toNat hb]
  unfold pad4
  rw [grp_len]
  rfl
theorem grp_pad1 (a : UInt8) : pad4 (grp 2 (pad6 (bd a.toNat 8))) = quadL [a] := by
  have ha := UInt8.toNat_lt a
  have e : pad6 (bd a.toNat 8) = bd a.toNat 8 ++ [0, 0, 0, 0] := by
    unfold pad6
    rw [bd_len]
    rfl
  rw [e, quad1, ← b0 a.toNat ha, ← b1z a.toNat ha]
  unfold pad4
  rw [grp_len]
  rfl
theorem pad6_len (X : List Int) : (pad6 X).length = 6 * ((X.length + 5) / 6) := by
  unfold pad6
  rw [List.length_append, List.length_replicate]
  omega
theorem all_signs : ∀ (m : Nat) (l : List UInt8), l.length ≤ m → pad4 (grp ((8 * l.length + 5) / 6) (pad6 (bitsL l))) = signsL l
  | m, [], _ => rfl
  | m, [a], _ => by
    have e : (8 * [a].length + 5) / 6 = 2 := by simp
    rw [e, bitsL, bitsL, List.append_nil, signsL]
    exact grp_pad1 a
  | m, [a, b], _ => by
    have e : (8 * [a, b].length + 5) / 6 = 3 := by simp
    rw [e, bitsL, bitsL, bitsL, List.append_nil, signsL]
    exact grp_pad2 a b
  | 0, a :: b :: c :: t, h => by simp at h
  | m + 1, a :: b :: c :: t, h => by
    have ih := all_signs m t (by simp at h; omega)
    have e1 : bitsL (a :: b :: c :: t) = (bd a.toNat 8 ++ (bd b.toNat 8 ++ bd c.toNat 8)) ++ bitsL t := by simp [bitsL]
    have e2 : (bd a.toNat 8 ++ (bd b.toNat 8 ++ bd c.toNat 8)).length = 6 * 4 := rfl
    have e3 : (8 * (a :: b :: c :: t).length + 5) / 6 = 4 + (8 * t.length + 5) / 6 := by simp only [List.length_cons]; omega
    rw [e1, pad6_app _ _ (by rw [e2]), e3, grp_app 4 _ _ _ e2, grp_quad, pad4_app _ _ (by rw [show (quadL [a, b, c]).length = 4 from rfl]), ih, signsL]
theorem pad6_01 (X : List Int) (h : ∀ x ∈ X, x = 0 ∨ x = 1) : ∀ x ∈ pad6 X, x = 0 ∨ x = 1 := by
  intro x hx
  unfold pad6 at hx
  rcases List.mem_append.1 hx with hx | hx
  · exact h x hx
  · exact .inl (List.eq_of_mem_replicate hx)
/-- The document's Signs. -/
theorem signs_ev (s : ByteArray) (hs : s.size ≤ 1000000) : Ev (fun k => montageref42_Signs.f k s) ⟨(signsL s.data.toList).toArray⟩ := by
  have hl : s.data.toList.length = s.size := by rw [Array.length_toList]; rfl
  have hb := bitsL_len s.data.toList
  have hp := pad6_len (bitsL s.data.toList)
  rw [hb, hl] at hp
  have h5 := sl5 ((4 - (grp ((8 * s.data.toList.length + 5) / 6) (pad6 (bitsL s.data.toList))).length % 4) % 4) ⟨(grp ((8 * s.data.toList.length + 5) / 6) (pad6 (bitsL s.data.toList))).toArray⟩ rfl (by
    rw [grp_len]
    show (grp ((8 * s.data.toList.length + 5) / 6) (pad6 (bitsL s.data.toList))).toArray.size + _ ≤ _
    rw [List.size_toArray, grp_len, hl]
    omega)
  rw [show (⟨(grp ((8 * s.data.toList.length + 5) / 6) (pad6 (bitsL s.data.toList))).toArray⟩ : ByteArray).data.toList = grp ((8 * s.data.toList.length + 5) / 6) (pad6 (bitsL s.data.toList)) from rfl, all_signs _ _ (Nat.le_refl _)] at h5
  have h3 := sl3 (pad6 (bitsL s.data.toList)) (pad6_01 _ (bitsL_01 _)) (by rw [hp]; omega) _ ((8 * s.data.toList.length + 5) / 6) 0 (⟨#[]⟩ : ByteArray) (by rw [hp, hl]; omega) (by show 0 + _ ≤ _; rw [hl]; omega) (by
    have : (⟨(⟨#[]⟩ : ByteArray).data ++ (grp ((8 * s.data.toList.length + 5) / 6) ((pad6 (bitsL s.data.toList)).drop 0)).toArray⟩ : ByteArray) = ⟨(grp ((8 * s.data.toList.length + 5) / 6) (pad6 (bitsL s.data.toList))).toArray⟩ := by
      apply ByteArray.ext
      apply Array.toList_inj.1
      simp
    rw [this]
    exact h5)
  have h2 := sl2 _ _ (bitsL s.data.toList) rfl (by rw [hb, hl]; omega) h3
  exact sl0 s hs _ s.size 0 [] (by omega) (by show 0 + _ ≤ _; omega) h2

end Go.Proofs.YtdaofffedfccmaaDoor.ArmP
