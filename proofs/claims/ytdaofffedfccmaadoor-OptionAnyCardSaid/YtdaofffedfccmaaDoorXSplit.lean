/- strings.Split at one byte. It has no conditions. -/
import Derived.Test.YtdaofffedfccmaaDoorXShelf
import Derived.Test.YtdaofffedfccmaaDoorWMore
import Derived.BigRegion
import Derived.RegionTactic
import Derived.ChangeAlike
import Derived.Deep.RegionWith
import Derived.Deep.RegionLaw
import Derived.Laws.Tables
import Derived.Deep.QuietTactic
import Derived.BigQuiet
import Derived.Deep.RegionHeld3
import Derived.Deep.AppendLies
import Derived.Deep.DrawnRows
import Derived.Laws.CopyOwn
import Derived.Deep.MidRow
import Derived.Laws.ResultCell
import Derived.ChangeKeysEq
import Derived.Laws.BitsAllLaws
namespace Go.Proofs.YtdaofffedfccmaaDoor.XGlob
set_option linter.unusedVariables false
set_option linter.unusedSimpArgs false
open Go.RowKit Go.Proofs.YtdaofffedfccmaaDoorW.PrintWords Go.Proofs.YtdaofffedfccmaaDoorW.PrintLast Go.Proofs.YtdaofffedfccmaaDoorW.PrintMore
attribute [local go_sem] max2_int min2_int max_two min_two max_three min_three max_four min_four
set_option maxHeartbeats 1000000 in
/-- strings.Split at one byte: no variable is read. -/
theorem split_one (s : ByteArray) (c : UInt8) (w : World) (hs : s.size < 4294967281) :
    Calls Tryd.prog 72 #[.string s, .string ⟨#[c]⟩] w fun e w' =>
      e = .returned (.slice (some ⟨w.heap.size, 0, none⟩) (Lib.countB s ⟨#[c]⟩ + 1) (Lib.countB s ⟨#[c]⟩ + 1)) ∧ w' = w.alloc (.cells ((Lib.splitB ⟨#[c]⟩ 0 (Lib.countB s ⟨#[c]⟩) s).map Value.string).toArray 9) := by
  have L := Tryd.lays146
  obtain ⟨sep, hsep⟩ : ∃ x : ByteArray, x = ⟨#[c]⟩ := ⟨_, rfl⟩
  have h1 : 1 ≤ sep.size := by rw [hsep]; exact Nat.le_refl _
  have hC : Calls Tryd.prog 137 #[.string s, .string sep] w fun e w' => e = .returned (.int .i64 (Lib.countB s sep)) ∧ w' = w := by
    rw [hsep]
    refine (Any.strings_Count_one (ρ := Tryd.lays146_ren) { L with } s c w).mono fun e w' ⟨he, hw⟩ => ⟨?_, hw⟩
    rw [he]
    show _ = Ending.returned (Value.int .i64 ((Lib.count s.data.toList [c] : Nat) : Int))
    rw [Lib.count_one]
    rfl
  have hI : ∀ (x : ByteArray) (q : Array Value), x.size ≤ s.size → Calls Tryd.prog 138 #[.string x, .string sep] (w.alloc (.cells q 9)) fun e w' => e = .returned (.int .i64 (Lib.indexB x sep)) ∧ w' = w.alloc (.cells q 9) := by
    intro x q _
    rw [hsep]
    refine (Any.strings_Index_one (ρ := Tryd.lays146_ren) { L with } x c _).mono fun e w' ⟨he, hw⟩ => ⟨?_, hw⟩
    rw [he]
    congr 2
    show _ = Lib.index x.data.toList [c]
    exact (Lib.index_one _ _).symm
  rw [← hsep]
  have hle := Lib.countB_le sep h1 s.size s (Nat.le_refl _)
  have hlen := Lib.splitB_all sep h1 0 _ s rfl
  have c0 : Calls Tryd.prog 110 #[.string s, .string sep, .int .i64 0, .int .i64 (-1)] w fun e w' => e = .returned (.slice (some ⟨w.heap.size, 0, none⟩) (Lib.splitB sep 0 (Lib.countB s sep + 1 - 1) s).length (Lib.countB s sep + 1)) ∧ w' = w.alloc (.cells (Lib.cellsOf (Lib.splitB sep 0 (Lib.countB s sep + 1 - 1) s) (Lib.countB s sep + 1)) 9) := Any.strings_genSplit_core (ρ := Tryd.lays146_ren) { L with } (by kernel_rfl) s sep 0 (-1) (Lib.countB s sep + 1) w hs h1 (Nat.zero_le _) hI hC (by decide) (by decide) (by rw [if_pos (by decide)]; omega)
  rw [Nat.add_sub_cancel, hlen] at c0
  have e2 : Lib.cellsOf (Lib.splitB sep 0 (Lib.countB s sep) s) (Lib.countB s sep + 1) = ((Lib.splitB sep 0 (Lib.countB s sep) s).map Value.string).toArray := by rw [← hlen]; exact Lib.cellsOf_full _
  rw [e2] at c0
  clear hI hC e2 hlen hle L
  generalize (Lib.splitB sep 0 (Lib.countB s sep) s) = R at c0 ⊢
  generalize Lib.countB s sep = n at c0 ⊢
  subst hsep
  go_enter Tryd.func72, Tryd.ntmps72
  go_wp2_with fail
  refine Calls.mono c0 ?_
  rintro e w' ⟨rfl, hw⟩
  subst hw
  go_wp2
  go_ret
  exact ⟨rfl, rfl⟩
/-- The parts that strings.Split hands back are the call's own row. -/
theorem split_row (w : World) (R : List ByteArray) (h : R.length ≤ maxLen) : Kd.R Kd.string 9 (w.alloc (.cells (R.map Value.string).toArray 9)) w.heap.size (fun _ => True) (.slice (some ⟨w.heap.size, 0, none⟩) R.length R.length) R := by
  have h0 := World.ownsRow_lit (base := w.heap.size) (size := 1) (e := 9) w (R.map Value.string).toArray R.length (Nat.le_refl _) h (by simp)
  rw [List.toList_toArray] at h0
  exact Kd.R_of_own h0 (fun _ _ => trivial)
theorem splitB_len (s : ByteArray) (c : UInt8) : (Lib.splitB ⟨#[c]⟩ 0 (Lib.countB s ⟨#[c]⟩) s).length = Lib.countB s ⟨#[c]⟩ + 1 := Lib.splitB_all ⟨#[c]⟩ (Nat.le_refl _) 0 _ s rfl
theorem splitB_le (s : ByteArray) (c : UInt8) : (Lib.splitB ⟨#[c]⟩ 0 (Lib.countB s ⟨#[c]⟩) s).length ≤ s.size + 1 := by
  rw [splitB_len]
  have := Lib.countB_le ⟨#[c]⟩ (Nat.le_refl _) s.size s (Nat.le_refl _)
  omega

end Go.Proofs.YtdaofffedfccmaaDoor.XGlob
