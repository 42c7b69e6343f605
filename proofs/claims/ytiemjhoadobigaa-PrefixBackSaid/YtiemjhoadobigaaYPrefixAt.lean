/- prefix.Table.at and Bits: what they do. It has no conditions. -/
import Derived.Test.YtiemjhoadobigaaYPrefixNew
import Derived.BigRegion
import Derived.RegionTactic
import Derived.ChangeAlike
import Derived.Deep.RegionWith
import Derived.Deep.RegionLaw
import Derived.Laws.Tables
import Derived.Deep.QuietTactic
import Derived.BigQuiet
import Derived.Deep.RegionHeld3
import Derived.Deep.AppendLies
import Derived.Deep.DrawnRows
import Derived.Laws.CopyOwn
import Derived.Deep.MidRow
import Derived.Laws.ResultCell
import Derived.ChangeKeysEq
namespace Go.Proofs.Ytiemjhoadobigaa.XPrefix
set_option linter.unusedVariables false
set_option linter.unusedSimpArgs false
open Go.RowKit Go.Proofs.YtiemjhoadobigaaW.PrintWords Go.Proofs.YtiemjhoadobigaaW.PrintLast Go.Proofs.YtiemjhoadobigaaW.PrintMore

theorem IsT.below {base : Nat} {W W1 : World} {g : Nat} {l : List Int} {k : Int} (h : IsT base W g l k) (hb : Below W.heap.size W W1) : IsT base W1 g l k := by
  obtain ⟨gc, A, cc, h1, h2, h3, h4, h5⟩ := h
  exact ⟨gc, A, cc, blk_below h1 hb, blk_below h2 hb, Kd.R_below h3 hb, h4, h5⟩
/-- A symbol's code: the bits, and how many. -/
def atV (l : List Int) (s : Int) : Int := if 0 ≤ s ∧ s < l.length then bitsV l s.toNat else 0
def atN (l : List Int) (s : Int) : Int := if 0 ≤ s ∧ s < l.length then rd l s else 0

set_option maxHeartbeats 800000 in
set_option maxRecDepth 100000 in
theorem at_calls (base g : Nat) (l : List Int) (k s : Int) (w : World) (hT : IsT base w g l k) :
    Calls Try.prog 28 #[.pointer (some ⟨g, 0, none⟩), .int .i64 s] w fun e w' => e = .returned (.agg #[.int .u32 (atV l s), .int .i64 (atN l s)]) ∧ Below w.heap.size w w' := by
  obtain ⟨gc, A, cc, h1, h2, h3, h4, h5⟩ := hT
  have BK := Aside0.mk h1
  have CK := Aside0.mk h2
  clear h1 h2 h3
  by_cases hneg : s < 0
  · have d0 : decide (s < 0) = true := decide_eq_true hneg
    have HV := Aside0.mk (show atV l s = 0 ∧ atN l s = 0 from ⟨if_neg (by omega), if_neg (by omega)⟩)
    rw [HV.out.1, HV.out.2]
    go_enter Try.func28, Try.ntmps28
    go_wp2_with (first | ((with_reducible refine gate_dst (N := 4) rfl ?_); refine box_event rfl (N := 4) rfl (cs := #[.int .u32 0, .int .i64 0]) (t := 63) (by first | kernel_rfl | (go_simp; done) | (go_simp; rfl)) ?_; intro g4 hg w2 hblk hb; have G4 := Aside0.mk (Nat.le_of_eq hg.symm); have BK4 := Aside0.mk hblk; have HB2 := Aside0.mk hb; have BK2 := Aside0.mk (blk_below BK.out hb); have CK2 := Aside0.mk (blk_below CK.out hb); have z0 := blk_cell hblk 0; have z1 := blk_cell hblk 1; have y0 := blk_frozen hblk 0; have y1 := blk_frozen hblk 1; clear hg hblk hb))
    exact bodyPost_ret (results_cell_row rfl _ _ g4 63 #[.int .u32 0, .int .i64 0] (0, 0) _ rfl (by refine blk_put (cs := #[.int .u32 0, .int .i64 0]) ?_ 1 _ rfl; refine blk_put (cs := #[.int .u32 0, .int .i64 0]) ?_ 0 _ rfl; exact BK4.out) Try.underlying63 rfl (by kernel_rfl)) rfl ⟨rfl, below_set (below_set HB2.out G4.out) G4.out⟩
  · have d0 : decide (s < 0) = false := decide_eq_false hneg
    by_cases hge : s < l.length
    · have d2 : decide ((l.length : Int) ≤ s) = false := decide_eq_false (by omega)
      obtain ⟨i, rfl⟩ : ∃ i : Nat, s = i := ⟨s.toNat, by omega⟩
      have hi : i < l.length := by omega
      have p1 : 0 ≤ (i : Int) := by omega
      have q1 : (i : Int) < (l.length : Int) := by omega
      have HV := Aside0.mk (show atV l i = bitsV l i ∧ atN l i = rd l i from ⟨if_pos ⟨by omega, by omega⟩, if_pos ⟨by omega, by omega⟩⟩)
      rw [HV.out.1, HV.out.2]
      go_enter Try.func28, Try.ntmps28
      go_wp2_with (first | ((with_reducible refine gate_dst (N := 4) rfl ?_); refine box_event rfl (N := 4) rfl (cs := #[.int .u32 0, .int .i64 0]) (t := 63) (by first | kernel_rfl | (go_simp; done) | (go_simp; rfl)) ?_; intro g4 hg w2 hblk hb; have G4 := Aside0.mk (Nat.le_of_eq hg.symm); have BK4 := Aside0.mk hblk; have HB2 := Aside0.mk hb; have BK2 := Aside0.mk (blk_below BK.out hb); have CK2 := Aside0.mk (blk_below CK.out hb); have z0 := blk_cell hblk 0; have z1 := blk_cell hblk 1; have y0 := blk_frozen hblk 0; have y1 := blk_frozen hblk 1; have zs : w2.cell? ⟨g, 1, none⟩ = some (.slice (some ⟨gc, 0, none⟩) l.length l.length) := (blk_cell BK2.out 1).trans rfl; have zg0 : w2.cell? ⟨gc, i * 2, none⟩ = some (.int .u32 (bitsV l i)) := (blk_cell CK2.out (i * 2)).trans ((codeRow_get0 _ _ _ _ hi).trans (by rw [vOf, if_pos hi])); have zg1 : w2.cell? ⟨gc, i * 2 + 1, none⟩ = some (.int .i64 (rd l (i : Int))) := (blk_cell CK2.out (i * 2 + 1)).trans ((codeRow_get1 _ _ _ _ hi).trans (by rw [nOf, if_pos hi])); clear hg hblk hb))
      exact bodyPost_ret (results_cell_row rfl _ _ g4 63 #[.int .u32 (bitsV l i), .int .i64 (rd l (i : Int))] (0, 0) _ rfl (by refine blk_put (cs := #[.int .u32 (bitsV l i), .int .i64 0]) ?_ 1 _ rfl; refine blk_put (cs := #[.int .u32 0, .int .i64 0]) ?_ 0 _ rfl; exact BK4.out) Try.underlying63 rfl (by kernel_rfl)) rfl ⟨rfl, below_set (below_set HB2.out G4.out) G4.out⟩
    · have d2 : decide ((l.length : Int) ≤ s) = true := decide_eq_true (by omega)
      have HV := Aside0.mk (show atV l s = 0 ∧ atN l s = 0 from ⟨if_neg (by omega), if_neg (by omega)⟩)
      rw [HV.out.1, HV.out.2]
      go_enter Try.func28, Try.ntmps28
      go_wp2_with (first | ((with_reducible refine gate_dst (N := 4) rfl ?_); refine box_event rfl (N := 4) rfl (cs := #[.int .u32 0, .int .i64 0]) (t := 63) (by first | kernel_rfl | (go_simp; done) | (go_simp; rfl)) ?_; intro g4 hg w2 hblk hb; have G4 := Aside0.mk (Nat.le_of_eq hg.symm); have BK4 := Aside0.mk hblk; have HB2 := Aside0.mk hb; have BK2 := Aside0.mk (blk_below BK.out hb); have CK2 := Aside0.mk (blk_below CK.out hb); have z0 := blk_cell hblk 0; have z1 := blk_cell hblk 1; have y0 := blk_frozen hblk 0; have y1 := blk_frozen hblk 1; have zs : w2.cell? ⟨g, 1, none⟩ = some (.slice (some ⟨gc, 0, none⟩) l.length l.length) := (blk_cell BK2.out 1).trans rfl; clear hg hblk hb))
      exact bodyPost_ret (results_cell_row rfl _ _ g4 63 #[.int .u32 0, .int .i64 0] (0, 0) _ rfl (by refine blk_put (cs := #[.int .u32 0, .int .i64 0]) ?_ 1 _ rfl; refine blk_put (cs := #[.int .u32 0, .int .i64 0]) ?_ 0 _ rfl; exact BK4.out) Try.underlying63 rfl (by kernel_rfl)) rfl ⟨rfl, below_set (below_set HB2.out G4.out) G4.out⟩

set_option maxHeartbeats 800000 in
set_option maxRecDepth 100000 in
theorem bits_calls (base g : Nat) (l : List Int) (k s : Int) (w : World) (hT : IsT base w g l k) :
    Calls Try.prog 12 #[.pointer (some ⟨g, 0, none⟩), .int .i64 s] w fun e w' => e = .returned (.int .i64 (atN l s)) ∧ Below w.heap.size w w' := by
  have HT := Aside0.mk hT
  clear hT
  have hfd : ∀ (z0 z1 : Value) (W : World), (Instr.field 63 (.agg #[z0, z1]) 1).run Try.prog W = .ok z1 W := fun z0 z1 W => by kernel_rfl
  go_enter Try.func12, Try.ntmps12
  go_wp2_with fail
  refine (at_calls base g l k s _ HT.out).mono ?_
  rintro e w' ⟨rfl, hB⟩
  have HB := Aside0.mk hB
  clear hB
  go_wp2
  go_ret
  exact ⟨rfl, HB.out⟩

end Go.Proofs.Ytiemjhoadobigaa.XPrefix
