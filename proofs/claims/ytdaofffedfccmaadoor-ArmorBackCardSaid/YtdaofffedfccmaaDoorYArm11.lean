/- Armor: Encode, both It has no conditions. -/
import Derived.Test.YtdaofffedfccmaaDoorYArm10
import Derived.BigRegion
import Derived.RegionTactic
import Derived.ChangeAlike
import Derived.Deep.RegionWith
import Derived.Deep.RegionLaw
import Derived.Laws.Tables
import Derived.Deep.QuietTactic
import Derived.BigQuiet
import Derived.Deep.RegionHeld3
import Derived.Deep.AppendLies
import Derived.Deep.DrawnRows
import Derived.Laws.CopyOwn
import Derived.Deep.MidRow
import Derived.Laws.ResultCell
import Derived.ChangeKeysEq
import Derived.Laws.BitsAllLaws
namespace Go.Proofs.YtdaofffedfccmaaDoor.ArmP
set_option linter.unusedVariables false
set_option linter.unusedSimpArgs false
open Go.RowKit Go.Proofs.YtdaofffedfccmaaDoorW.PrintWords Go.Proofs.YtdaofffedfccmaaDoorW.PrintLast Go.Proofs.YtdaofffedfccmaaDoorW.PrintMore
attribute [local go_sem] max2_int min2_int max_two min_two max_three min_three max_four min_four
open XArmorSigns XGlob
/-! ### Encode, both. -/
open Classical in
theorem encode_both (s nm : ByteArray) (w : Int) (hs : s.size ≤ 300) (hn : nm.size ≤ 40) :
    (∃ W n : Nat, w = W ∧ 4 ≤ W ∧ W ≤ 76 ∧ W % 4 = 0 ∧ nameOK nm.data.toList ∧ armor_sum.f s = some (mk (61 :: signsL (bytes3 n))) ∧
      armor_Encode.f s nm w = some (encA nm (mk (61 :: signsL (bytes3 n))) (mk (signsL s.data.toList)) W, 0) ∧ Ev (fun k => montageref42_Encode.f k s nm w) (encA nm (mk (61 :: signsL (bytes3 n))) (mk (signsL s.data.toList)) W, 0)) ∨
    (armor_Encode.f s nm w = some (⟨#[]⟩, 1) ∧ Ev (fun k => montageref42_Encode.f k s nm w) (⟨#[]⟩, 1)) := by
  have hr := right_f nm (by omega)
  have hnm := name_ev nm (by omega)
  have hbad : Ev (fun k => montageref42_Encode.j0 k s nm w true) ((⟨#[]⟩ : ByteArray), 1) := by
    refine Ev.step (f := fun _ => some ((⟨#[]⟩ : ByteArray), 1)) (fun k => ?_) (Ev.now _)
    rw [montageref42_Encode.j0, if_pos rfl]
  by_cases hok : nameOK nm.data.toList
  · rw [decide_eq_true hok] at hr hnm
    by_cases h4 : w < 4
    · right
      have hw : armor_wide.f w = some false := by unfold armor_wide.f; rw [if_neg (by omega)]
      constructor
      · unfold armor_Encode.f
        rw [hr, Option.bind_some, if_pos rfl, hw, Option.bind_some, if_neg (by decide)]
      · refine Ev.bind (f := fun k t200 => if t200 = true then (if w < 4 then (montageref42_Encode.j0 k s nm w true) else (if w > 76 then (montageref42_Encode.j0 k s nm w true) else (montageref42_Encode.j0 k s nm w ((Int.tmod w 4) != 0)))) else (montageref42_Encode.j0 k s nm w true)) hnm ?_
        exact Ev.congr (fun k => by rw [if_pos rfl, if_pos h4]) hbad
    · by_cases h76 : w > 76
      · right
        have hw : armor_wide.f w = some false := by unfold armor_wide.f; rw [if_pos (by omega), if_neg (by omega)]
        constructor
        · unfold armor_Encode.f
          rw [hr, Option.bind_some, if_pos rfl, hw, Option.bind_some, if_neg (by decide)]
        · refine Ev.bind (f := fun k t200 => if t200 = true then (if w < 4 then (montageref42_Encode.j0 k s nm w true) else (if w > 76 then (montageref42_Encode.j0 k s nm w true) else (montageref42_Encode.j0 k s nm w ((Int.tmod w 4) != 0)))) else (montageref42_Encode.j0 k s nm w true)) hnm ?_
          exact Ev.congr (fun k => by rw [if_pos rfl, if_neg h4, if_pos h76]) hbad
      · by_cases hm : Int.tmod w 4 = 0
        · left
          obtain ⟨W, rfl⟩ := Int.eq_ofNat_of_zero_le (show 0 ≤ w by omega)
          have hW4 : W % 4 = 0 := by
            rw [Int.tmod_eq_emod_of_nonneg (by omega)] at hm
            omega
          obtain ⟨n, hsum, hS⟩ := sums s (by omega)
          have hsl : s.data.toList.length = s.size := by rw [Array.length_toList]; rfl
          have hlen := signsL_len _ s.data.toList (Nat.le_refl _)
          have hsz : (mk (signsL s.data.toList)).size ≤ 1200 := by
            show (signsL s.data.toList).toArray.size ≤ _
            rw [List.size_toArray]
            omega
          have hb3 : (signsL (bytes3 n)).length = 4 := by
            rw [signsL_last _ (by simp [bytes3]) (by simp [bytes3])]
            rfl
          have hsm : (mk (61 :: signsL (bytes3 n))).size = 5 := by
            show (61 :: signsL (bytes3 n)).toArray.size = 5
            rw [List.size_toArray, List.length_cons, hb3]
          refine ⟨W, n, rfl, by omega, by omega, hW4, hok, hsum, ?_, ?_⟩
          · have hw : armor_wide.f (W : Int) = some true := by
              unfold armor_wide.f
              rw [if_pos (by omega), if_pos (by omega), hm]
              rfl
            have hG : armor_Signs.f s = some (mk (signsL s.data.toList)) := by
              unfold armor_Signs.f
              rw [if_pos (by omega)]
              rfl
            unfold armor_Encode.f
            rw [hr, Option.bind_some, if_pos rfl, hw, Option.bind_some, if_pos rfl, if_pos (by omega), hG, Option.bind_some, hsum, Option.bind_some]
            show (if nm.size ≤ 30 ∧ _ ∧ _ then _ else _) = _
            rw [if_pos ⟨by have := hok.2.1; rw [Array.length_toList] at this; exact this, by omega, by show (mk (61 :: signsL (bytes3 n))).size ≤ _; omega⟩, Int.toNat_natCast]
            rfl
          · refine Ev.bind (f := fun k t200 => if t200 = true then (if (W : Int) < 4 then (montageref42_Encode.j0 k s nm (W : Int) true) else (if (W : Int) > 76 then (montageref42_Encode.j0 k s nm (W : Int) true) else (montageref42_Encode.j0 k s nm (W : Int) ((Int.tmod (W : Int) 4) != 0)))) else (montageref42_Encode.j0 k s nm (W : Int) true)) hnm ?_
            refine Ev.congr (f := fun k => montageref42_Encode.j0 k s nm (W : Int) false) (fun k => by rw [if_pos rfl, if_neg h4, if_neg h76, hm]; rfl) ?_
            obtain ⟨K1, g1⟩ := signs_ev s (by omega)
            have hs1 : ((⟨#[45, 45, 45, 45, 45, 66, 69, 71, 73, 78, 32]⟩ : ByteArray) ++ nm).size = 11 + nm.size := ByteArray.size_append
            have hs2 : (((⟨#[45, 45, 45, 45, 45, 66, 69, 71, 73, 78, 32]⟩ : ByteArray) ++ nm) ++ (⟨#[45, 45, 45, 45, 45, 10]⟩ : ByteArray)).size = 11 + nm.size + 6 := by rw [ByteArray.size_append, hs1]; rfl
            obtain ⟨K2, g2⟩ := enc_l0 s nm (mk (61 :: signsL (bytes3 n))) W (by omega) (by omega) (by omega) hS 1200 (((⟨#[45, 45, 45, 45, 45, 66, 69, 71, 73, 78, 32]⟩ : ByteArray) ++ nm) ++ (⟨#[45, 45, 45, 45, 45, 10]⟩ : ByteArray)) (mk (signsL s.data.toList)) hsz (by omega)
            have ee : (⟨((((⟨#[45, 45, 45, 45, 45, 66, 69, 71, 73, 78, 32]⟩ : ByteArray) ++ nm) ++ (⟨#[45, 45, 45, 45, 45, 10]⟩ : ByteArray)).data.toList ++ linesA W (mk (signsL s.data.toList)).data.toList.length (mk (signsL s.data.toList)).data.toList ++ (footA nm (mk (61 :: signsL (bytes3 n)))).data.toList).toArray⟩ : ByteArray) = encA nm (mk (61 :: signsL (bytes3 n))) (mk (signsL s.data.toList)) W := by
              unfold encA
              have : (((⟨#[45, 45, 45, 45, 45, 66, 69, 71, 73, 78, 32]⟩ : ByteArray) ++ nm) ++ (⟨#[45, 45, 45, 45, 45, 10]⟩ : ByteArray)).data.toList = (headA nm).data.toList := by simp [headA, begB, tailB, nlB, ByteArray.data_append]
              rw [this]
            rw [ee] at g2
            refine ⟨K1 + K2 + 1, fun q hq => ?_⟩
            obtain ⟨k, rfl⟩ : ∃ k, q = k + 1 := ⟨q - 1, by omega⟩
            have a1 := g1 k (by omega)
            have a2 := g2 k (by omega)
            simp only [] at a1 a2
            show montageref42_Encode.j0 (k + 1) s nm (W : Int) false = _
            rw [montageref42_Encode.j0, if_neg (by decide), if_neg (by omega), if_pos (by omega), hs1, if_pos (by omega), a1, Option.bind_some]
            exact a2
        · right
          have hw : armor_wide.f w = some false := by
            unfold armor_wide.f
            rw [if_pos (by omega), if_pos (by omega)]
            congr 1
            exact beq_eq_false_iff_ne.mpr hm
          constructor
          · unfold armor_Encode.f
            rw [hr, Option.bind_some, if_pos rfl, hw, Option.bind_some, if_neg (by decide)]
          · refine Ev.bind (f := fun k t200 => if t200 = true then (if w < 4 then (montageref42_Encode.j0 k s nm w true) else (if w > 76 then (montageref42_Encode.j0 k s nm w true) else (montageref42_Encode.j0 k s nm w ((Int.tmod w 4) != 0)))) else (montageref42_Encode.j0 k s nm w true)) hnm ?_
            exact Ev.congr (fun k => by rw [if_pos rfl, if_neg h4, if_neg h76, bne_iff_ne.mpr hm]) hbad
  · rw [decide_eq_false hok] at hr hnm
    right
    constructor
    · unfold armor_Encode.f
      rw [hr, Option.bind_some, if_neg (by decide)]
    · refine Ev.bind (f := fun k t200 => if t200 = true then (if w < 4 then (montageref42_Encode.j0 k s nm w true) else (if w > 76 then (montageref42_Encode.j0 k s nm w true) else (montageref42_Encode.j0 k s nm w ((Int.tmod w 4) != 0)))) else (montageref42_Encode.j0 k s nm w true)) hnm ?_
      exact Ev.congr (fun k => by rw [if_neg (by decide)]) hbad

end Go.Proofs.YtdaofffedfccmaaDoor.ArmP
