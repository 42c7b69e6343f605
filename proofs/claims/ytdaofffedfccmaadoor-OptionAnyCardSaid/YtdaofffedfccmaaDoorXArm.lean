/- Armor: bytes as signs. It has no conditions. -/
import Derived.Shelf.Strings.SlTrimAscii
import Derived.Test.YtdaofffedfccmaaDoorXBuild
import Derived.Test.YtdaofffedfccmaaDoorXShelfA
import Derived.Test.YtdaofffedfccmaaDoorXSplit
import Derived.BigRegion
import Derived.RegionTactic
import Derived.ChangeAlike
import Derived.Deep.RegionWith
import Derived.Deep.RegionLaw
import Derived.Laws.Tables
import Derived.Deep.QuietTactic
import Derived.BigQuiet
import Derived.Deep.RegionHeld3
import Derived.Deep.AppendLies
import Derived.Deep.DrawnRows
import Derived.Laws.CopyOwn
import Derived.Deep.MidRow
import Derived.Laws.ResultCell
import Derived.ChangeKeysEq
import Derived.Laws.BitsAllLaws
namespace Go.Proofs.YtdaofffedfccmaaDoor.XGlob
set_option linter.unusedVariables false
set_option linter.unusedSimpArgs false
open Go.RowKit Go.Proofs.YtdaofffedfccmaaDoorW.PrintWords Go.Proofs.YtdaofffedfccmaaDoorW.PrintLast Go.Proofs.YtdaofffedfccmaaDoorW.PrintMore
attribute [local go_sem] max2_int min2_int max_two min_two max_three min_three max_four min_four
/-! ### armor.Signs: what it makes of bytes. -/
def alphaL : List UInt8 := [65, 66, 67, 68, 69, 70, 71, 72, 73, 74, 75, 76, 77, 78, 79, 80, 81, 82, 83, 84, 85, 86, 87, 88, 89, 90, 97, 98, 99, 100, 101, 102, 103, 104, 105, 106, 107, 108, 109, 110, 111, 112, 113, 114, 115, 116, 117, 118, 119, 120, 121, 122, 48, 49, 50, 51, 52, 53, 54, 55, 56, 57, 43, 47]
def sg (n : Nat) : UInt8 := alphaL.getD n 0
/-- The number of the first i bytes, 0 where there are none. -/
def vA (l : List UInt8) : Nat → Nat
  | 0 => 0
  | i + 1 => vA l i * 256 + (l.getD i 0).toNat
/-- The i-th of four signs. -/
def sign (l : List UInt8) (i : Nat) : UInt8 := if min 3 l.length < i then 61 else sg (vA l 3 / 2 ^ (18 - 6 * i) % 64)
def quadL (l : List UInt8) : List UInt8 := [sign l 0, sign l 1, sign l 2, sign l 3]
def signsL : List UInt8 → List UInt8
  | [] => []
  | [a] => quadL [a]
  | [a, b] => quadL [a, b]
  | a :: b :: c :: t => quadL [a, b, c] ++ signsL t
theorem vA_lt (l : List UInt8) : ∀ i, vA l i < 256 ^ i
  | 0 => by simp [vA]
  | i + 1 => by
    have := vA_lt l i
    have h2 : (l.getD i 0).toNat < 256 := UInt8.toNat_lt _
    rw [vA, Nat.pow_succ]
    omega
theorem quadL_take (a b c : UInt8) (t : List UInt8) : quadL (a :: b :: c :: t) = quadL [a, b, c] := by
  have h : min 3 (t.length + 1 + 1 + 1) = 3 := by omega
  simp [quadL, sign, vA, h]
theorem signsL_step (l : List UInt8) (h : l ≠ []) : signsL l = quadL l ++ signsL (l.drop 3) := by
  match l, h with
  | [a], _ => rfl
  | [a, b], _ => rfl
  | a :: b :: c :: t, _ => rw [quadL_take]; rfl
theorem signsL_len : ∀ (n : Nat) (l : List UInt8), l.length ≤ n → (signsL l).length ≤ 4 * l.length
  | 0, l, h => by
    obtain rfl : l = [] := List.length_eq_zero_iff.1 (by omega)
    simp [signsL]
  | n + 1, l, h => by
    by_cases hl : l = []
    · subst hl; simp [signsL]
    · have h0 : 0 < l.length := List.length_pos_iff.2 hl
      have ih := signsL_len n (l.drop 3) (by rw [List.length_drop]; omega)
      rw [List.length_drop] at ih
      rw [signsL_step l hl, List.length_append]
      have : (quadL l).length = 4 := rfl
      omega
theorem or_u32 (V b : Nat) (hV : V < 65536) (hb : b < 256) : Go.bits .or .u32 ((V : Int) * 256 % 4294967296) ((b : Int) % 4294967296) = ((V * 256 + b : Nat) : Int) := by
  have h32 : (2 : Int) ^ 32 = 4294967296 := by decide
  have p32 : (2 : Nat) ^ 32 = 4294967296 := by decide
  have e := (Go.bits_nat .u32 32 (by decide) (fun z h0 h1 => by rw [Go.IntKind.wrap_u32]; omega) (V * 256) b (by omega) (by omega)).2
  rw [show (V : Int) * 256 % 4294967296 = ((V * 256 : Nat) : Int) by omega, show (b : Int) % 4294967296 = (b : Int) by omega, e]
  have h := Nat.two_pow_add_eq_or_of_lt (i := 8) (b := b) (by omega) V
  rw [show V * 256 = 2 ^ 8 * V by omega, ← h]
theorem ba_getD (r : ByteArray) (i : Nat) (h : i < r.size) : (r[i]'h).toNat = (r.data.toList.getD i 0).toNat := by
  have h2 : i < r.data.toList.length := by rw [Array.length_toList]; exact h
  rw [List.getD_eq_getElem?_getD, List.getElem?_eq_getElem h2, Option.getD_some]
  rfl
theorem alpha_fin : ∀ x : Fin 64, ((⟨#[65, 66, 67, 68, 69, 70, 71, 72, 73, 74, 75, 76, 77, 78, 79, 80, 81, 82, 83, 84, 85, 86, 87, 88, 89, 90, 97, 98, 99, 100, 101, 102, 103, 104, 105, 106, 107, 108, 109, 110, 111, 112, 113, 114, 115, 116, 117, 118, 119, 120, 121, 122, 48, 49, 50, 51, 52, 53, 54, 55, 56, 57, 43, 47]⟩ : ByteArray)[x.val]'x.isLt) = sg x.val := by decide +kernel
theorem alpha_get (x : Nat) (h : x < (⟨#[65, 66, 67, 68, 69, 70, 71, 72, 73, 74, 75, 76, 77, 78, 79, 80, 81, 82, 83, 84, 85, 86, 87, 88, 89, 90, 97, 98, 99, 100, 101, 102, 103, 104, 105, 106, 107, 108, 109, 110, 111, 112, 113, 114, 115, 116, 117, 118, 119, 120, 121, 122, 48, 49, 50, 51, 52, 53, 54, 55, 56, 57, 43, 47]⟩ : ByteArray).size) : ((⟨#[65, 66, 67, 68, 69, 70, 71, 72, 73, 74, 75, 76, 77, 78, 79, 80, 81, 82, 83, 84, 85, 86, 87, 88, 89, 90, 97, 98, 99, 100, 101, 102, 103, 104, 105, 106, 107, 108, 109, 110, 111, 112, 113, 114, 115, 116, 117, 118, 119, 120, 121, 122, 48, 49, 50, 51, 52, 53, 54, 55, 56, 57, 43, 47]⟩ : ByteArray)[x]'h) = sg x := alpha_fin ⟨x, h⟩
theorem and63 (x : Nat) (hx : x < 4294967296) : Go.bits .and .u32 (x : Int) 63 = ((x % 64 : Nat) : Int) := by
  have h32 : (2 : Int) ^ 32 = 4294967296 := by decide
  have p32 : (2 : Nat) ^ 32 = 4294967296 := by decide
  have e := (Go.bits_nat .u32 32 (by decide) (fun z h0 h1 => by rw [Go.IntKind.wrap_u32]; omega) x 63 (by omega) (by omega)).1
  have e2 : Go.bits .and .u32 (x : Int) 63 = ((x &&& 63 : Nat) : Int) := e
  rw [e2, show (63 : Nat) = 2 ^ 6 - 1 from rfl, Nat.and_two_pow_sub_one_eq_mod]
theorem quadL_snoc (l : List UInt8) (i : Nat) (h : i < 4) : (quadL l).take (i + 1) = (quadL l).take i ++ [sign l i] := by
  have h5 : i = 0 ∨ i = 1 ∨ i = 2 ∨ i = 3 := by omega
  rcases h5 with rfl | rfl | rfl | rfl <;> rfl
theorem sign_len (l : List UInt8) (i : Nat) : ((quadL l).take i).length ≤ 4 := Nat.le_trans (List.length_take_le' _ _) (Nat.le_refl 4)
theorem extract_list (r : ByteArray) (n : Nat) : (r.extract n r.size).data.toList = r.data.toList.drop n := by
  rw [ByteArray.data_extract, Array.toList_extract, List.extract_eq_take_drop, List.take_of_length_le]
  rw [List.length_drop, Array.length_toList]
  exact Nat.le_refl _
set_option maxHeartbeats 3200000 in
set_option maxRecDepth 100000 in
/-- armor.Signs. -/
theorem signs_calls (s : ByteArray) (w : World) (hs : s.size ≤ 1099511627776) :
    Calls Tryd.prog 23 #[.string s] w fun e w' => e = .returned (.string ⟨(signsL s.data.toList).toArray⟩) ∧ Below w.heap.size w w' := by
  go_enter Tryd.func23, Tryd.ntmps23
  go_wp2
  go_loopg [0] s.size (fun gg v0 W => ∃ (r : ByteArray) (dn : List UInt8), v0 = .string r ∧ r.size ≤ gg ∧ r.size ≤ s.size ∧ Aside0 (dn ++ signsL r.data.toList = signsL s.data.toList) ∧ Aside0 (Lib.IsBuilder 86 5 w.heap.size w.heap.size (Lib.byteCells dn) W) ∧ Aside0 (Below w.heap.size w W))
  case atStart => exact ⟨s, [], rfl, Nat.le_refl _, Nat.le_refl _, ⟨rfl⟩, ⟨isB_new 86 5 w w.heap.size (Nat.le_refl _)⟩, ⟨below_alloc (Below.refl _ _) _⟩⟩
  case round =>
    obtain ⟨r, dn, rfl, hg, hle, HD, HI, HB⟩ := hrel
    by_cases h : 0 < r.size
    · have e1 : ¬ (r.toList = []) := by rw [ByteArray.toList_eq]; intro e; have := congrArg List.length e; rw [Array.length_toList] at this; have h9 : r.size = 0 := this; omega
      have e2 : r.toList.isEmpty = false := by simpa using e1
      obtain ⟨n, hn⟩ : ∃ n : Nat, n = min 3 r.size := ⟨_, rfl⟩
      have hmn : (if (r.size : Int) < 3 then (r.size : Int) else 3) = (n : Int) := by split <;> omega
      have HN := Aside0.mk hn
      clear hn
      go_wp2
      go_loopg [4, 18] 3 (fun g2 v4 v18 W2 => ∃ i : Nat, i ≤ 3 ∧ v4 = .int .u32 ((vA r.data.toList i : Nat) : Int) ∧ v18 = .int .i64 (i : Int) ∧ 3 - i ≤ g2 ∧ Aside0 (Lib.IsBuilder 86 5 w.heap.size w.heap.size (Lib.byteCells dn) W2) ∧ Aside0 (Below w.heap.size w W2))
      case atStart => exact ⟨0, by omega, rfl, rfl, by omega, HI, HB⟩
      case round =>
        clear HI HB
        obtain ⟨i, hi, rfl, rfl, hg2, HI, HB⟩ := hrel
        by_cases h3 : i < 3
        · have z3 : (i : Int) < 3 := by omega
          by_cases hin : i < r.size
          · have zn : (i : Int) < (n : Int) := by have := HN.out; omega
            have zr : (i : Int) < (r.size : Int) := by omega
            go_wp2
            go_roundg (3 - (i + 1))
            case measure => omega
            case rel =>
              refine ⟨i + 1, by omega, ?_, by go_num, Nat.le_refl _, HI, HB⟩
              have hv := vA_lt r.data.toList i
              have h2 : 256 ^ i ≤ 256 ^ 2 := Nat.pow_le_pow_right (by decide) (by omega)
              rw [or_u32 _ _ (by omega) (UInt8.toNat_lt _), ba_getD r i hin]
              rfl
          · have zn : ¬ (i : Int) < (n : Int) := by have := HN.out; omega
            go_wp2
            go_roundg (3 - (i + 1))
            case measure => omega
            case rel =>
              refine ⟨i + 1, by omega, ?_, by go_num, Nat.le_refl _, HI, HB⟩
              have hv := vA_lt r.data.toList i
              have h2 : 256 ^ i ≤ 256 ^ 2 := Nat.pow_le_pow_right (by decide) (by omega)
              have h4 : r.data.toList.getD i 0 = 0 := by
                rw [List.getD_eq_getElem?_getD, List.getElem?_eq_none (by rw [Array.length_toList]; show r.size ≤ i; omega)]
                rfl
              rw [show vA r.data.toList (i + 1) = vA r.data.toList i * 256 + (r.data.toList.getD i 0).toNat from rfl, h4]
              congr 1
              show (vA r.data.toList i : Int) * 256 % 4294967296 = ((vA r.data.toList i * 256 + 0 : Nat) : Int)
              omega
        · obtain rfl : i = 3 := by omega
          have z3 : ¬ ((3 : Nat) : Int) < 3 := by omega
          go_wp2
          have HL : Aside0 (dn.length ≤ 4 * s.size) := ⟨by have h7 := congrArg List.length HD.out; rw [List.length_append] at h7; have h8 := signsL_len _ s.data.toList (Nat.le_refl _); have h9 : s.data.toList.length = s.size := (by rw [Array.length_toList]; rfl); rw [h9] at h8; omega⟩
          generalize hV : vA r.data.toList 3 = V
          have HV := Aside0.mk hV
          clear hV
          go_loopg [33] 4 (fun g3 v33 W3 => ∃ i : Nat, i ≤ 4 ∧ v33 = .int .i64 (i : Int) ∧ 4 - i ≤ g3 ∧ Aside0 (Lib.IsBuilder 86 5 w.heap.size w.heap.size (Lib.byteCells (dn ++ (quadL r.data.toList).take i)) W3) ∧ Aside0 (Below w.heap.size w W3))
          case atStart => exact ⟨0, by omega, rfl, by omega, by rw [List.take_zero, List.append_nil]; exact HI, HB⟩
          case round =>
            clear HI HB z3 hi hg2
            obtain ⟨i, hi, rfl, hg2, HI, HB⟩ := hrel
            by_cases h3 : i < 4
            · have z3 : (i : Int) < 4 := by omega
              by_cases hin : n < i
              · have zn : (n : Int) < (i : Int) := by omega
                have K2 := writeByte w.heap.size w.heap.size _ 61 _ HI.out (by have := HL.out; have := sign_len r.data.toList i; rw [Lib.byteCells_length, List.length_append]; omega) HB.out.size
                go_wp2_with fail
                refine Calls.mono K2 ?_
                rintro e w3 ⟨rfl, i3, b3⟩
                clear K2
                have I3 : Aside0 (Lib.IsBuilder 86 5 w.heap.size w.heap.size (Lib.byteCells (dn ++ (quadL r.data.toList).take (i + 1))) w3) := ⟨by
                  rw [quadL_snoc _ _ h3, ← List.append_assoc, ← byteCells_snoc, show sign r.data.toList i = 61 from by unfold sign; rw [if_pos (by rw [Array.length_toList]; show min 3 r.size < i; have := HN.out; omega)]]
                  exact i3⟩
                have B3 := Aside0.mk (HB.out.trans b3)
                clear i3 b3
                go_wp2
                go_roundg (4 - (i + 1))
                case measure => omega
                case rel => exact ⟨i + 1, by omega, by go_num, Nat.le_refl _, I3, B3⟩
              · have zn : ¬ (n : Int) < (i : Int) := by omega
                have hc0 : 0 ≤ 18 - 6 * (i : Int) := by omega
                obtain ⟨x, hx⟩ : ∃ x : Nat, x = V / 2 ^ (18 - 6 * i) % 64 := ⟨_, rfl⟩
                have hx64 : x < 64 := by omega
                have hVlt : V < 16777216 := by rw [← HV.out]; exact vA_lt r.data.toList 3
                have hE : Go.bits .and .u32 ((V : Int) / 2 ^ (18 - 6 * i)) 63 = (x : Int) := by
                  have h8 : V / 2 ^ (18 - 6 * i) ≤ V := Nat.div_le_self _ _
                  rw [hx, show (V : Int) / 2 ^ (18 - 6 * i) = ((V / 2 ^ (18 - 6 * i) : Nat) : Int) by push_cast; rfl, and63 _ (by omega)]
                have hx0 : 0 ≤ (x : Int) := by omega
                have hx1 : (x : Int) < 64 := by omega
                have HX := Aside0.mk hx
                clear hx hVlt
                have K2 := writeByte w.heap.size w.heap.size _ ((sg x).toNat : Int) _ HI.out (by have := HL.out; have := sign_len r.data.toList i; rw [Lib.byteCells_length, List.length_append]; omega) HB.out.size
                go_wp2_with fail
                rw [alpha_get]
                refine Calls.mono K2 ?_
                rintro e w3 ⟨rfl, i3, b3⟩
                clear K2
                have I3 : Aside0 (Lib.IsBuilder 86 5 w.heap.size w.heap.size (Lib.byteCells (dn ++ (quadL r.data.toList).take (i + 1))) w3) := ⟨by
                  rw [quadL_snoc _ _ h3, ← List.append_assoc, ← byteCells_snoc, show sign r.data.toList i = sg x from by unfold sign; rw [if_neg (by rw [Array.length_toList]; show ¬ min 3 r.size < i; have := HN.out; omega), HV.out, ← HX.out]]
                  exact i3⟩
                have B3 := Aside0.mk (HB.out.trans b3)
                clear i3 b3
                go_wp2
                go_roundg (4 - (i + 1))
                case measure => omega
                case rel => exact ⟨i + 1, by omega, by go_num, Nat.le_refl _, I3, B3⟩
            · obtain rfl : i = 4 := by omega
              have z3 : ¬ ((4 : Nat) : Int) < 4 := by omega
              have hk0 : 0 ≤ (n : Int) := by omega
              have hk1 : (n : Int) ≤ (r.size : Int) := by have := HN.out; omega
              go_wp2
              go_roundg (r.size - n)
              case measure => have := HN.out; omega
              case rel =>
                refine ⟨r.extract n r.size, dn ++ quadL r.data.toList, rfl, by simp, by simp; omega, ⟨?_⟩, HI, HB⟩
                rw [extract_list, List.append_assoc, ← HD.out]
                congr 1
                rw [signsL_step r.data.toList (by intro e; have := congrArg List.length e; rw [Array.length_toList] at this; have h9 : r.size = 0 := this; omega)]
                congr 2
                have hl : r.data.toList.length = r.size := by rw [Array.length_toList]; rfl
                have := HN.out
                by_cases h9 : 3 ≤ r.size
                · rw [show n = 3 by omega]
                · rw [List.drop_eq_nil_of_le (by omega), List.drop_eq_nil_of_le (by omega)]
    · have e1 : r.toList = [] := by rw [ByteArray.toList_eq]; exact List.length_eq_zero_iff.1 (by rw [Array.length_toList]; show r.size = 0; omega)
      have e2 : r.toList.isEmpty = true := by simpa using e1
      have hr0 : r.data.toList = [] := by rw [← ByteArray.toList_eq]; exact e1
      have hdn : dn = signsL s.data.toList := by have := HD.out; rw [hr0] at this; rw [← this]; simp [signsL]
      have K2 := builderString w.heap.size w.heap.size _ wr HI.out HB.out.size
      rw [hdn] at K2
      go_wp2_with fail
      refine Calls.mono K2 ?_
      rintro e w2 ⟨rfl, b2⟩
      clear K2
      go_wp2
      go_ret
      exact ⟨rfl, HB.out.trans b2⟩

end Go.Proofs.YtdaofffedfccmaaDoor.XGlob
