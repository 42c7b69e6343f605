/- Option: the closure of Words. It has no conditions. It has no conditions. -/
import Derived.Test.YtdaofffedfccmaaDoorXOptR
import Derived.BigRegion
import Derived.RegionTactic
import Derived.ChangeAlike
import Derived.Deep.RegionWith
import Derived.Deep.RegionLaw
import Derived.Laws.Tables
import Derived.Deep.QuietTactic
import Derived.BigQuiet
import Derived.Deep.RegionHeld3
import Derived.Deep.AppendLies
import Derived.Deep.DrawnRows
import Derived.Laws.CopyOwn
import Derived.Deep.MidRow
import Derived.Laws.ResultCell
import Derived.ChangeKeysEq
import Derived.Laws.BitsAllLaws
namespace Go.Proofs.YtdaofffedfccmaaDoor.XGlob
set_option linter.unusedVariables false
set_option linter.unusedSimpArgs false
open Go.RowKit Go.Proofs.YtdaofffedfccmaaDoorW.PrintWords Go.Proofs.YtdaofffedfccmaaDoorW.PrintLast Go.Proofs.YtdaofffedfccmaaDoorW.PrintMore
attribute [local go_sem] max2_int min2_int max_two min_two max_three min_three max_four min_four
open Go.Maps
/-! ### option.Words. -/
theorem infoStr : (Tryd.prog.info? 9).map (fun i => (i.zero, i.size, i.bytes)) = some (some (.string ⟨#[]⟩), 1, 16) := by kernel_rfl
/-- A list of words in a variable at block b. -/
def OwnS (B : Nat) (W : World) (b : Nat) (xs : List ByteArray) : Prop := B ≤ b ∧ ∃ v, W.heap[b]? = some (.cells #[v] 56 (0, 0)) ∧ W.ownsRow B 9 1 v xs.length (xs.map Value.string) ∧ v.ownBlock ≠ some b
def addW (is : Bool) (s : ByteArray) (xs : List ByteArray) : List ByteArray := if is = true then xs ++ [s] else xs
theorem addW_t (s : ByteArray) (xs : List ByteArray) : addW true s xs = xs ++ [s] := rfl
theorem addW_f (s : ByteArray) (xs : List ByteArray) : addW false s xs = xs := rfl
set_option maxHeartbeats 2000000 in
set_option maxRecDepth 100000 in
theorem words1_calls (B b : Nat) (xs : List ByteArray) (is : Bool) (s : ByteArray) (w : World) (h : OwnS B w b xs) (hlen : xs.length ≤ 1000) (hBw : B ≤ w.heap.size) :
    Calls Tryd.prog 96 #[.bool is, .string s, .pointer (some ⟨b, 0, none⟩)] w fun e w' => e = .returned (.tuple #[]) ∧ OwnS B w' b (addW is s xs) ∧ Below B w w' ∧ ∀ (k : Nat) (cs : Array Value), w.heap[k]? = some (.cells cs 58 (0, 0)) → w'.heap[k]? = some (.cells cs 58 (0, 0)) := by
  obtain ⟨i0, hi, hz0, hz1, hz2⟩ := info_parts infoStr
  cases is with
  | false =>
    go_enter Tryd.func96, Tryd.ntmps96
    go_wp2
    go_end0
    exact ⟨rfl, by rw [addW_f]; exact h, Below.refl _ _, fun _ _ h => h⟩
  | true =>
    obtain ⟨hB, v, hbk, hown, hne⟩ := h
    have hlt := lt_of_block hbk
    have c0 : w.cell? ⟨b, 0, none⟩ = some v := by rw [Lib.cell_of_heap hbk]; rfl
    go_enter Tryd.func96, Tryd.ntmps96
    go_wp2_with (at_builtin; refine wpList_append_own _ rfl _ _ 56 rfl B 9 i0 (.string ⟨#[]⟩) 1 16 Tryd.underlying56 hi hz0 hz1 hz2 rfl (by decide) _ _ _ rfl (hown.alloc _) ⟨w.heap.size, 0, none⟩ 1 1 [.string s] rfl rfl ?c1 ?c2 ?c3 ?c4 ?c5 ?_)
    case c1 =>
      intro j u hj
      match j, hj with
      | 0, hj => simp at hj; subst hj; simp [Addr.add]
    case c2 => intro u hu; simp at hu; subst hu; rfl
    case c3 => unfold maxLen; omega
    case c4 => omega
    case c5 => simp; omega
    intro v' w2 hown' hgrow _
    have hb2 : w2.heap[b]? = some (.cells #[v] 56 (0, 0)) := by
      rw [hgrow.block b (by simp; omega) (fun e => hne e.symm), Lib.alloc_old w _ b hlt]
      exact hbk
    have d0 : w2.cell? ⟨b, 0, none⟩ = some v := by rw [Lib.cell_of_heap hb2]; rfl
    have f0 : w2.frozen? ⟨b, 0, none⟩ = false := Lib.frozen_of_heap hb2 0
    obtain ⟨g, cap, rfl⟩ : ∃ g cap, v' = .slice (some ⟨g, 0, none⟩) (xs.length + 1) cap := by
      rcases hown'.2 with ⟨_, h0⟩ | ⟨g, cap, cur, hv, _⟩
      · omega
      · exact ⟨g, cap, hv⟩
    have hgb : g ≠ b := by
      intro e
      subst e
      rcases hown'.2 with ⟨h0, _⟩ | ⟨g', cap', cur, hv, _, hh, hcs⟩
      · cases h0
      · injection hv with hv
        injection hv with hv
        injection hv with hv
        subst hv
        rw [hb2] at hh
        injection hh with hh
        injection hh with _ hh
        cases hh
    go_wp2
    go_end0
    rw [addW_t]
    refine ⟨rfl, ⟨hB, .slice (some ⟨g, 0, none⟩) (xs.length + 1) cap, ?_, ?_, by simp [Value.ownBlock, hgb]⟩, ?_, ?_⟩
    · exact blk_put hb2 0 _ rfl
    · rw [List.length_append, List.map_append]
      exact own_setCell hown' (by simp [Value.ownBlock]; exact fun e => hgb e.symm) _
    · exact (((Below.refl B w).alloc (by omega) _).grown hgrow (by simp; omega) (fun k hk => (hown.lt k hk).1)).setCell (p := ⟨b, 0, none⟩) hB _
    · intro k cs hk
      have hkl := lt_of_block hk
      have hkb : k ≠ b := by
        intro e
        subst e
        rw [hbk] at hk
        injection hk with hk
        injection hk with _ hk
        cases hk
      refine blk_far (p := ⟨b, 0, none⟩) ?_ hkb _
      rw [hgrow.block k (by simp; omega) ?_, Lib.alloc_old w _ k hkl]
      · exact hk
      · intro e
        rcases hown.2 with ⟨rfl, _⟩ | ⟨g', cap', cur, rfl, _, hh, _⟩
        · simp [Value.ownBlock] at e
        · have : g' = k := by simpa [Value.ownBlock] using e.symm
          subst this
          rw [hk] at hh
          injection hh with hh
          injection hh with _ hh
          cases hh

end Go.Proofs.YtdaofffedfccmaaDoor.XGlob
