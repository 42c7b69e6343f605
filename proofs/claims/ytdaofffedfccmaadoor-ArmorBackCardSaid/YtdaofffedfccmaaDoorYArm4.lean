/- Armor: which signs are read It has no conditions. -/
import Derived.Test.YtdaofffedfccmaaDoorYArm3
import Derived.BigRegion
import Derived.RegionTactic
import Derived.ChangeAlike
import Derived.Deep.RegionWith
import Derived.Deep.RegionLaw
import Derived.Laws.Tables
import Derived.Deep.QuietTactic
import Derived.BigQuiet
import Derived.Deep.RegionHeld3
import Derived.Deep.AppendLies
import Derived.Deep.DrawnRows
import Derived.Laws.CopyOwn
import Derived.Deep.MidRow
import Derived.Laws.ResultCell
import Derived.ChangeKeysEq
import Derived.Laws.BitsAllLaws
namespace Go.Proofs.YtdaofffedfccmaaDoor.ArmP
set_option linter.unusedVariables false
set_option linter.unusedSimpArgs false
open Go.RowKit Go.Proofs.YtdaofffedfccmaaDoorW.PrintWords Go.Proofs.YtdaofffedfccmaaDoorW.PrintLast Go.Proofs.YtdaofffedfccmaaDoorW.PrintMore
attribute [local go_sem] max2_int min2_int max_two min_two max_three min_three max_four min_four
open XArmorSigns XGlob
/-! ### quad: which four signs are read, and as what. -/
theorem trimR_snoc (l : List UInt8) (c : UInt8) : Lib.trimRightS (l ++ [c]) [61] = if c = 61 then Lib.trimRightS l [61] else l ++ [c] := by
  unfold Lib.trimRightS
  rw [List.reverse_append]
  show ((c :: l.reverse).dropWhile _).reverse = _
  rw [List.dropWhile_cons]
  by_cases h : c = 61
  · rw [if_pos h, if_pos (by rw [h]; decide)]
  · rw [if_neg h, if_neg (by simp [h])]
    simp
theorem trimR_nil : Lib.trimRightS [] [61] = [] := rfl
theorem trimR_le (l : List UInt8) : (Lib.trimRightS l [61]).length ≤ l.length := by
  unfold Lib.trimRightS
  rw [List.length_reverse]
  have h := (List.dropWhile_suffix (l := l.reverse) fun x => [(61 : UInt8)].contains x).length_le
  rw [List.length_reverse] at h
  exact h
def quadF (l : List UInt8) (last : Bool) : ByteArray × Bool :=
  if (Lib.trimRightS l [61]).length ≤ 1 then (⟨#[]⟩, false) else if (Lib.trimRightS l [61]).length ≤ 3 ∧ last = false then (⟨#[]⟩, false) else quadR ((Lib.trimRightS l [61]).length - 1) (acc 4 (Lib.trimRightS l [61]) 0)
theorem quad_ev (t : ByteArray) (ht : t.size ≤ 4) (last : Bool) : Ev (fun k => armor_quad.f k t last) (quadF t.data.toList last) := by
  obtain ⟨y, hy⟩ : ∃ y : ByteArray, y = ⟨(Lib.trimRightS t.data.toList [61]).toArray⟩ := ⟨_, rfl⟩
  have hT : strings_TrimRight.f t ⟨#[61]⟩ = some y := by
    unfold strings_TrimRight.f
    rw [if_pos ⟨by decide, by decide, by omega⟩, hy]
  have hyl : y.data.toList = Lib.trimRightS t.data.toList [61] := by rw [hy]
  have hl : y.data.toList.length = y.size := by rw [Array.length_toList]; rfl
  have htl : t.data.toList.length = t.size := by rw [Array.length_toList]; rfl
  have hle := trimR_le t.data.toList
  rw [← hyl, hl, htl] at hle
  have hw : wrap64 ((y.size : Int) - 1) = (y.size : Int) - 1 := w64c (by omega) (by omega)
  unfold quadF
  rw [← hyl, hl]
  have hj : ∀ (n : Nat), (y.size : Int) - 1 = (n : Int) → n ≤ 3 → Ev (fun k => armor_quad.j0 k y ((y.size : Int) - 1) false) (quadR n (acc 4 y.data.toList 0)) := by
    intro n hn h3
    have h := quad_l0 y (by omega) n h3 4 0 0 (by omega) (by decide)
    rw [List.drop_zero] at h
    rw [hn]
    refine Ev.step (fun k => ?_) h
    rw [armor_quad.j0, if_neg (by decide)]
    rfl
  have hno : Ev (fun k => armor_quad.j0 k y ((y.size : Int) - 1) true) ((⟨#[]⟩ : ByteArray), false) := by
    refine Ev.step (f := fun _ => some ((⟨#[]⟩ : ByteArray), false)) (fun k => ?_) (Ev.now _)
    rw [armor_quad.j0, if_pos rfl]
  by_cases h1 : y.size ≤ 1
  · rw [if_pos h1]
    refine Ev.congr (fun k => ?_) hno
    unfold armor_quad.f
    rw [hT, Option.bind_some, hw, if_pos (by omega)]
  · rw [if_neg h1]
    have hjs := hj (y.size - 1) (by omega) (by omega)
    by_cases h3 : y.size ≤ 3
    · cases last with
      | false =>
        rw [if_pos ⟨h3, rfl⟩]
        refine Ev.congr (fun k => ?_) hno
        unfold armor_quad.f
        rw [hT, Option.bind_some, hw, if_neg (by omega), if_pos (by omega)]
        rfl
      | true =>
        rw [if_neg (by simp)]
        refine Ev.congr (fun k => ?_) hjs
        unfold armor_quad.f
        rw [hT, Option.bind_some, hw, if_neg (by omega), if_pos (by omega)]
        rfl
    · rw [if_neg (fun h => h3 h.1)]
      refine Ev.congr (fun k => ?_) hjs
      unfold armor_quad.f
      rw [hT, Option.bind_some, hw, if_neg (by omega), if_neg (by omega)]
/-- Four signs that say these bytes. -/
def good (l : List UInt8) (last : Bool) (q : List UInt8) : Prop := l = quadL q ∧ 1 ≤ q.length ∧ q.length ≤ 3 ∧ (q.length = 3 ∨ last = true)
theorem acc_sg (n : Nat) (m : Nat) (hm : m < 64) (y : List UInt8) (v : Nat) : acc (n + 1) (sg m :: y) v = acc n y (v * 64 + m) := by
  rw [acc, ix_sg m hm, if_neg (by omega), Int.toNat_natCast]
theorem of_b (x : Nat) (a : UInt8) (h : x = a.toNat) : UInt8.ofNat x = a := by rw [h, UInt8.ofNat_toNat]
theorem quadR_of (n v : Nat) (a b c : UInt8) (h : v = a.toNat * 65536 + b.toNat * 256 + c.toNat) : quadR n (some v) = (⟨([a, b, c].take n).toArray⟩, Lib.trimS ([a, b, c].drop n) [0] == []) := by
  have ha := UInt8.toNat_lt a
  have hb := UInt8.toNat_lt b
  have hc := UInt8.toNat_lt c
  unfold quadR bytes3
  simp only []
  rw [of_b (v / 65536 % 256) a (by omega), of_b (v / 256 % 256) b (by omega), of_b (v % 256) c (by omega)]
theorem good_yes (l : List UInt8) (last : Bool) (q : List UInt8) (h : good l last q) : quadF l last = (⟨q.toArray⟩, true) := by
  obtain ⟨rfl, h1, h2, h3⟩ := h
  match q, h1, h2, h3 with
  | [a], _, _, h3 =>
    have ha := UInt8.toNat_lt a
    have hl : last = true := by simpa using h3
    have e : Lib.trimRightS (quadL [a]) [61] = [sg (a.toNat / 4), sg (a.toNat % 4 * 16)] := by
      rw [quad1, show [sg (a.toNat / 4), sg (a.toNat % 4 * 16), (61 : UInt8), 61] = ((([] ++ [sg (a.toNat / 4)]) ++ [sg (a.toNat % 4 * 16)]) ++ [61]) ++ [61] from rfl, trimR_snoc, if_pos rfl, trimR_snoc, if_pos rfl, trimR_snoc, if_neg (sg_ne _ (by omega))]
      rfl
    unfold quadF
    rw [e, if_neg (by simp), if_neg (by simp [hl]), acc_sg 3 _ (by omega), acc_sg 2 _ (by omega)]
    exact (quadR_of 1 _ a 0 0 (by show _ = a.toNat * 65536 + 0 * 256 + 0; omega)).trans (by rfl)
  | [a, b], _, _, h3 =>
    have ha := UInt8.toNat_lt a
    have hb := UInt8.toNat_lt b
    have hl : last = true := by simpa using h3
    have e : Lib.trimRightS (quadL [a, b]) [61] = [sg (a.toNat / 4), sg (a.toNat % 4 * 16 + b.toNat / 16), sg (b.toNat % 16 * 4)] := by
      rw [quad2, show [sg (a.toNat / 4), sg (a.toNat % 4 * 16 + b.toNat / 16), sg (b.toNat % 16 * 4), (61 : UInt8)] = [sg (a.toNat / 4), sg (a.toNat % 4 * 16 + b.toNat / 16)] ++ [sg (b.toNat % 16 * 4)] ++ [61] from rfl, trimR_snoc, if_pos rfl, trimR_snoc, if_neg (sg_ne _ (by omega))]
      rfl
    unfold quadF
    rw [e, if_neg (by simp), if_neg (by simp [hl]), acc_sg 3 _ (by omega), acc_sg 2 _ (by omega), acc_sg 1 _ (by omega)]
    exact (quadR_of 2 _ a b 0 (by show _ = a.toNat * 65536 + b.toNat * 256 + 0; omega)).trans (by rfl)
  | [a, b, c], _, _, h3 =>
    have ha := UInt8.toNat_lt a
    have hb := UInt8.toNat_lt b
    have hc := UInt8.toNat_lt c
    have e : Lib.trimRightS (quadL [a, b, c]) [61] = [sg (a.toNat / 4), sg (a.toNat % 4 * 16 + b.toNat / 16), sg (b.toNat % 16 * 4 + c.toNat / 64), sg (c.toNat % 64)] := by
      rw [quad3, show [sg (a.toNat / 4), sg (a.toNat % 4 * 16 + b.toNat / 16), sg (b.toNat % 16 * 4 + c.toNat / 64), sg (c.toNat % 64)] = [sg (a.toNat / 4), sg (a.toNat % 4 * 16 + b.toNat / 16), sg (b.toNat % 16 * 4 + c.toNat / 64)] ++ [sg (c.toNat % 64)] from rfl, trimR_snoc, if_neg (sg_ne _ (by omega))]
    unfold quadF
    rw [e, if_neg (by simp), if_neg (by simp), acc_sg 3 _ (by omega), acc_sg 2 _ (by omega), acc_sg 1 _ (by omega), acc_sg 0 _ (by omega)]
    exact (quadR_of 3 _ a b c (by omega)).trans (by rfl)

end Go.Proofs.YtdaofffedfccmaaDoor.ArmP
