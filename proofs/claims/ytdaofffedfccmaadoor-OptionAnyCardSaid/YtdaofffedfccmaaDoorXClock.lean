/- Clock: what is asked of the library. It has no conditions. -/
import Derived.Lib.AppendIntMem
import Derived.Test.YtdaofffedfccmaaDoorXShelfC
import Derived.Test.YtdaofffedfccmaaDoorWMore
import Derived.BigRegion
import Derived.RegionTactic
import Derived.ChangeAlike
import Derived.Deep.RegionWith
import Derived.Deep.RegionLaw
import Derived.Laws.Tables
import Derived.Deep.QuietTactic
import Derived.BigQuiet
import Derived.Deep.RegionHeld3
import Derived.Deep.AppendLies
import Derived.Deep.DrawnRows
import Derived.Laws.CopyOwn
import Derived.Deep.MidRow
import Derived.Laws.ResultCell
import Derived.ChangeKeysEq
import Derived.Laws.BitsAllLaws
namespace Go.Proofs.YtdaofffedfccmaaDoor.XGlob
set_option linter.unusedVariables false
set_option linter.unusedSimpArgs false
open Go.RowKit Go.Proofs.YtdaofffedfccmaaDoorW.PrintWords Go.Proofs.YtdaofffedfccmaaDoorW.PrintLast Go.Proofs.YtdaofffedfccmaaDoorW.PrintMore
attribute [local go_sem] max2_int min2_int max_two min_two max_three min_three max_four min_four
/-- What the library's variables hold: the table of powers, two errors. -/
def Laid (w : World) : Prop := Lib.TabIs Tryd.prog w "internal/strconv.uint64pow10" .u64 Lib.pow10Tab ∧ (∃ te pe, w.cell? ⟨0, 0, none⟩ = some (.iface te pe)) ∧ (∃ te pe, w.cell? ⟨1, 0, none⟩ = some (.iface te pe))
theorem gTab : Tryd.prog.globalNamed "internal/strconv.uint64pow10" = some 3 := by kernel_rfl
theorem lt_of_get {w : World} {b : Nat} {o : Obj} (h : w.heap[b]? = some o) : b < w.heap.size := by
  rcases Nat.lt_or_ge b w.heap.size with h' | h'
  · exact h'
  · rw [Array.getElem?_eq_none h'] at h; cases h
theorem Laid.below {w W : World} (h : Laid w) (hb : Below w.heap.size w W) : Laid W := by
  obtain ⟨h1, ⟨t1, p1, h2⟩, ⟨t2, p2, h3⟩⟩ := h
  refine ⟨?_, ⟨t1, p1, (hb.cell (p := ⟨0, 0, none⟩) (World.block_lt_of_cell? w _ h2)).trans h2⟩, ⟨t2, p2, (hb.cell (p := ⟨1, 0, none⟩) (World.block_lt_of_cell? w _ h3)).trans h3⟩⟩
  unfold Lib.TabIs World.var? at h1 ⊢
  rw [gTab] at h1 ⊢
  simp only [Option.bind_some] at h1 ⊢
  cases h4 : w.heap[3]? with
  | none => rw [h4] at h1; cases h1
  | some o => rw [hb.block 3 (lt_of_get h4)]; exact h1
theorem itoa_calls (n : Int) (h0 : -9223372036854775808 ≤ n) (h1 : n ≤ 9223372036854775807) (w : World) (hL : Laid w) :
    Calls Tryd.prog 97 #[.int .i64 n] w fun e w' => e = .returned (.string ⟨(Lib.itoa n).toArray⟩) ∧ Below w.heap.size w w' := by
  refine (Tryd.strconv_Itoa n h0 h1 w hL.1).mono ?_
  rintro e w' ⟨rfl, k, os, rfl⟩
  exact ⟨rfl, Lib.below_grow _ w (Nat.le_refl _) k os⟩
/-- The number that strconv.Atoi hands back, whatever the error. -/
def atoiV (l : List UInt8) : Int := match Lib.atoiAll l with
  | .ok v => v
  | .range => Lib.atoiSat l
  | _ => 0
theorem atoi_calls (s : ByteArray) (hs : s.size ≤ 1048576) (w : World) (hL : Laid w) :
    Calls Tryd.prog 87 #[.string s] w fun e w' => (∃ ev, e = .returned (.tuple #[.int .i64 (atoiV s.data.toList), ev])) ∧ Below w.heap.size w w' := by
  obtain ⟨_, ⟨t1, p1, h2⟩, ⟨t2, p2, h3⟩⟩ := hL
  unfold atoiV
  cases h : Lib.atoiAll s.data.toList with
  | ok v =>
    refine (Tryd.strconv_Atoi_ok s (by omega) v h w).mono ?_
    rintro e w' ⟨rfl, hw⟩
    refine ⟨⟨_, rfl⟩, ?_⟩
    rcases hw with rfl | ⟨t, rfl⟩
    · exact Below.refl _ _
    · exact Lib.bytesWorld_below w 5 t
  | range =>
    refine (Tryd.strconv_Atoi_range s (by omega) h _ w h3 (.inr ⟨_, _, rfl⟩)).mono ?_
    rintro e w' ⟨N, rfl, _, _, hb⟩
    exact ⟨⟨_, rfl⟩, hb⟩
  | _ =>
    refine (Tryd.strconv_Atoi_syntax s (by omega) h _ w h2 (.inr ⟨_, _, rfl⟩)).mono ?_
    rintro e w' ⟨N, rfl, _, _, hb⟩
    exact ⟨⟨_, rfl⟩, hb⟩

end Go.Proofs.YtdaofffedfccmaaDoor.XGlob
