/- Glob: parts, the program and the document. It has no conditions. -/
import Derived.Test.YtdaofffedfccmaaDoorXGlobFitsx6
import Derived.Test.YtdaofffedfccmaaDoorYGlob1
import Derived.BigRegion
import Derived.RegionTactic
import Derived.ChangeAlike
import Derived.Deep.RegionWith
import Derived.Deep.RegionLaw
import Derived.Laws.Tables
import Derived.Deep.QuietTactic
import Derived.BigQuiet
import Derived.Deep.RegionHeld3
import Derived.Deep.AppendLies
import Derived.Deep.DrawnRows
import Derived.Laws.CopyOwn
import Derived.Deep.MidRow
import Derived.Laws.ResultCell
import Derived.ChangeKeysEq
import Derived.Laws.BitsAllLaws
namespace Go.Proofs.YtdaofffedfccmaaDoor.XGlob
set_option linter.unusedVariables false
set_option linter.unusedSimpArgs false
open Go.RowKit Go.Proofs.YtdaofffedfccmaaDoorW.PrintWords Go.Proofs.YtdaofffedfccmaaDoorW.PrintLast Go.Proofs.YtdaofffedfccmaaDoorW.PrintMore
attribute [local go_sem] max2_int min2_int max_two min_two max_three min_three max_four min_four
open XGlobFits
def mk (l : List UInt8) : ByteArray := ⟨l.toArray⟩
theorem mk_data (x : ByteArray) : mk x.data.toList = x := by
  cases x with
  | mk d => simp [mk]
theorem data_mk (l : List UInt8) : (mk l).data.toList = l := rfl
theorem toList_mk (l : List UInt8) : (mk l).toList = l := by rw [Lib.toList_data, data_mk]
theorem size_mk (l : List UInt8) : (mk l).size = l.length := rfl
theorem size_data (x : ByteArray) : x.data.toList.length = x.size := rfl
theorem of_data : ∀ (L : List ByteArray) (M : List (List UInt8)), L.map (·.data.toList) = M → L = M.map mk
  | [], M, h => by subst h; rfl
  | x :: L, M, h => by
    subst h
    rw [List.map_cons, List.map_cons, mk_data, ← of_data L _ rfl]
def partsB (a : ByteArray) : List ByteArray := if a.data.toList = [] then [] else (sp a.data.toList).map mk
theorem parts_split (a : ByteArray) : Lib.splitB ⟨#[47]⟩ 0 (Lib.countB a ⟨#[47]⟩) a = (sp a.data.toList).map mk := by
  apply of_data
  rw [Lib.splitB_data]
  refine splitK_sp _ _ ?_
  show _ ≤ Lib.count a.data.toList [47]
  rw [Lib.count_one]
  exact Nat.le_refl _
theorem route_parts (a : ByteArray) (h : a.size < 4294967281) : route_Parts.f a = some (partsB a) := by
  unfold route_Parts.f partsB
  rw [Lib.toList_data]
  by_cases h0 : a.data.toList = []
  · rw [if_pos h0, if_pos h0]
  · rw [if_neg h0, if_neg h0]
    unfold strings_Split.f
    rw [if_pos ⟨rfl, h⟩, parts_split]
    rfl
theorem partsB_mk (l : List UInt8) (h : l ≠ []) : partsB (mk l) = (sp l).map mk := by
  unfold partsB
  rw [data_mk, if_neg h]
theorem partsB_of (a : ByteArray) (h : a.data.toList ≠ []) : partsB a = (sp a.data.toList).map mk := by
  unfold partsB
  rw [if_neg h]
theorem partsB_size (a p : ByteArray) (h : p ∈ partsB a) : p.size ≤ a.size := by
  unfold partsB at h
  by_cases h0 : a.data.toList = []
  · rw [if_pos h0] at h; cases h
  · rw [if_neg h0] at h
    obtain ⟨l, hl, rfl⟩ := List.mem_map.1 h
    rw [size_mk, ← size_data]
    exact sp_le _ _ hl
theorem sp_length : ∀ l : List UInt8, (sp l).length ≤ l.length + 1
  | [] => Nat.le_refl _
  | c :: l => by
    have ih := sp_length l
    by_cases hc : c = 47
    · subst hc; rw [sp_slash]; simp; omega
    · obtain ⟨a, t, h1, h2⟩ := sp_other c l hc
      rw [h1] at ih
      rw [h2]; simp at ih ⊢; omega
theorem partsB_length (a : ByteArray) : (partsB a).length ≤ a.size + 1 := by
  unfold partsB
  by_cases h0 : a.data.toList = []
  · rw [if_pos h0]; exact Nat.zero_le _
  · rw [if_neg h0, List.length_map, ← size_data]; exact sp_length _
/-! The document's parts. -/
theorem w64g {x : Int} (h0 : -9223372036854775808 ≤ x) (h1 : x ≤ 9223372036854775807) : wrap64 x = x := by unfold wrap64; omega
theorem extract_mk (x : ByteArray) (a b : Nat) (hb : b ≤ x.size) : x.extract a b = mk ((x.data.toList.take b).drop a) := by
  rw [← mk_data (x.extract a b)]
  congr 1
  rw [Lib.extract_data, List.drop_take]
theorem bt_get (x : ByteArray) (i : Nat) (h : i < x.size) : bt x (i : Int) = ((x.data.toList[i]'(by rw [size_data]; exact h)).toNat : Int) := by
  unfold bt
  rw [dif_pos (show ((i : Int)).toNat < x.size from h)]
  rfl
/-- What is behind: the part that is under way, and the rest. -/
def restOf (l : List UInt8) (fr i : Nat) : List (List UInt8) := match sp (l.drop i) with
  | [] => []
  | h :: t => ((l.take i).drop fr ++ h) :: t
theorem doc_parts_l0 (x : ByteArray) (hx : x.size ≤ 1048576) : ∀ (d fr i : Nat) (acc : List ByteArray), x.size - i = d → i ≤ x.size → fr ≤ i → acc.length ≤ i → Ev (fun k => montageref13_Parts.l0 k x acc (fr : Int) (i : Int)) (acc ++ (restOf x.data.toList fr i).map mk)
  | 0, fr, i, acc, hd, hi, hf, ha => by
    obtain rfl : i = x.size := by omega
    have e1 : restOf x.data.toList fr x.size = [x.data.toList.drop fr] := by
      unfold restOf
      rw [List.drop_of_length_le (by rw [size_data]; exact Nat.le_refl _), List.take_of_length_le (by rw [size_data]; exact Nat.le_refl _)]
      show [_] = _
      rw [List.append_nil]
    rw [e1]
    refine Ev.step (f := fun k => montageref13_Parts.l0 k x (acc ++ [x.extract fr x.size]) ((x.size + 1 : Nat) : Int) ((x.size + 1 : Nat) : Int)) (fun k => ?_) ?_
    · simp only [montageref13_Parts.l0]
      rw [if_pos (by omega), if_pos trivial, if_pos (by omega), if_pos (by omega), if_pos (by omega), w64g (by omega) (by omega)]
      rfl
    · refine Ev.step (f := fun _ => some (acc ++ [x.extract fr x.size])) (fun k => ?_) ?_
      · simp only [montageref13_Parts.l0]
        rw [if_neg (by omega)]
      · rw [extract_mk x fr x.size (Nat.le_refl _), List.take_of_length_le (by rw [size_data]; exact Nat.le_refl _)]
        exact Ev.now _
  | d + 1, fr, i, acc, hd, hi, hf, ha => by
    have hlt : i < x.size := by omega
    have hll : i < x.data.toList.length := by rw [size_data]; exact hlt
    have hdr : x.data.toList.drop i = x.data.toList[i] :: x.data.toList.drop (i + 1) := List.drop_eq_getElem_cons hll
    have htk : x.data.toList.take (i + 1) = x.data.toList.take i ++ [x.data.toList[i]] := by rw [List.take_succ_eq_append_getElem hll]
    have hdt : (x.data.toList.take (i + 1)).drop fr = (x.data.toList.take i).drop fr ++ [x.data.toList[i]] := by
      rw [htk, List.drop_append_of_le_length (by rw [List.length_take]; omega)]
    by_cases hc : x.data.toList[i] = 47
    · have hb : bt x (i : Int) = 47 := by rw [bt_get x i hlt, hc]; rfl
      refine Ev.step (f := fun k => montageref13_Parts.l0 k x (acc ++ [x.extract fr i]) ((i + 1 : Nat) : Int) ((i + 1 : Nat) : Int)) (fun k => ?_) ?_
      · simp only [montageref13_Parts.l0]
        rw [if_pos (by omega), if_neg (by omega), if_pos (by omega), if_pos (by omega), if_pos hb, if_pos (by omega), if_pos (by omega), if_pos (by omega), w64g (by omega) (by omega)]
        rfl
      · have ih := doc_parts_l0 x hx d (i + 1) (i + 1) (acc ++ [x.extract fr i]) (by omega) (by omega) (Nat.le_refl _) (by simp; omega)
        have e1 : acc ++ (restOf x.data.toList fr i).map mk = (acc ++ [x.extract fr i]) ++ (restOf x.data.toList (i + 1) (i + 1)).map mk := by
          rw [extract_mk x fr i (by omega)]
          unfold restOf
          rw [hdr, hc, sp_slash]
          cases hs : sp (x.data.toList.drop (i + 1)) with
          | nil => exact absurd hs (sp_ne _)
          | cons a t =>
            have e2 : (x.data.toList.take (i + 1)).drop (i + 1) = [] := List.drop_of_length_le (by rw [List.length_take]; omega)
            rw [e2]
            simp
        rw [e1]
        exact ih
    · have hb : ¬ bt x (i : Int) = 47 := by
        rw [bt_get x i hlt]
        intro e
        exact hc (UInt8.toNat_inj.1 (by show _ = 47; omega))
      refine Ev.step (f := fun k => montageref13_Parts.l0 k x acc (fr : Int) ((i + 1 : Nat) : Int)) (fun k => ?_) ?_
      · simp only [montageref13_Parts.l0]
        rw [if_pos (by omega), if_neg (by omega), if_pos (by omega), if_pos (by omega), if_neg hb, w64g (by omega) (by omega)]
        rfl
      · have ih := doc_parts_l0 x hx d fr (i + 1) acc (by omega) (by omega) (by omega) (by omega)
        have e1 : restOf x.data.toList fr i = restOf x.data.toList fr (i + 1) := by
          unfold restOf
          obtain ⟨a, t, h1, h2⟩ := sp_other x.data.toList[i] (x.data.toList.drop (i + 1)) hc
          rw [hdr, h2, h1, hdt]
          simp
        rw [e1]
        exact ih
theorem doc_parts (x : ByteArray) (hx : x.size ≤ 1048576) : Ev (fun k => montageref13_Parts.f k x) (partsB x) := by
  unfold partsB
  by_cases h0 : x.data.toList = []
  · rw [if_pos h0]
    refine Ev.congr (fun k => ?_) (Ev.now _)
    unfold montageref13_Parts.f
    rw [Lib.toList_data, if_pos h0]
  · rw [if_neg h0]
    refine Ev.congr (f := fun k => montageref13_Parts.l0 k x [] 0 0) (fun k => ?_) ?_
    · unfold montageref13_Parts.f
      rw [Lib.toList_data, if_neg h0]
    · have h := doc_parts_l0 x hx x.size 0 0 [] (by omega) (Nat.zero_le _) (Nat.le_refl _) (Nat.zero_le _)
      have e1 : restOf x.data.toList 0 0 = sp x.data.toList := by
        unfold restOf
        rw [List.drop_zero]
        cases hs : sp x.data.toList with
        | nil => rfl
        | cons a t => simp
      rw [e1] at h
      exact h

end Go.Proofs.YtdaofffedfccmaaDoor.XGlob
