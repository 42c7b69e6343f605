/- prefix.Table.Write: what it does. It has no conditions. -/
import Derived.Test.YtiemjhoadobigaaYPrefixAt
import Derived.Test.YtiemjhoadobigaaYPrefixBits
import Derived.BigRegion
import Derived.RegionTactic
import Derived.ChangeAlike
import Derived.Deep.RegionWith
import Derived.Deep.RegionLaw
import Derived.Laws.Tables
import Derived.Deep.QuietTactic
import Derived.BigQuiet
import Derived.Deep.RegionHeld3
import Derived.Deep.AppendLies
import Derived.Deep.DrawnRows
import Derived.Laws.CopyOwn
import Derived.Deep.MidRow
import Derived.Laws.ResultCell
import Derived.ChangeKeysEq
namespace Go.Proofs.Ytiemjhoadobigaa.XPrefix
set_option linter.unusedVariables false
set_option linter.unusedSimpArgs false
open Go.RowKit Go.Proofs.YtiemjhoadobigaaW.PrintWords Go.Proofs.YtiemjhoadobigaaW.PrintLast Go.Proofs.YtiemjhoadobigaaW.PrintMore

set_option maxHeartbeats 800000 in
set_option maxRecDepth 100000 in
theorem write_none (base g gw : Nat) (l : List Int) (k s : Int) (w : World) (hT : IsT base w g l k) (h0 : atN l s = 0) :
    Calls Try.prog 11 #[.pointer (some ⟨g, 0, none⟩), .pointer (some ⟨gw, 0, none⟩), .int .i64 s] w fun e w' => e = .returned (.int .i64 1) ∧ Below w.heap.size w w' := by
  have HT := Aside0.mk hT
  clear hT
  go_enter Try.func11, Try.ntmps11
  go_wp2_with fail
  refine (at_calls base g l k s _ HT.out).mono ?_
  rintro e w1 ⟨rfl, hB⟩
  have HB := Aside0.mk hB
  clear hB
  rw [h0]
  have e0 : ((0 : Int) == 0) = true := rfl
  obtain ⟨x, hx⟩ : ∃ x, atV l s = x := ⟨_, rfl⟩
  rw [hx]
  go_wp2_with (first | ((with_reducible refine gate_dst (N := 7) rfl ?_); refine box_event rfl (N := 7) rfl (cs := #[.int .u32 0, .int .i64 0]) (t := 63) (by first | kernel_rfl | (go_simp; done) | (go_simp; rfl)) ?_; intro g4 hg w2 hblk hb; have G4 := Aside0.mk (show w.heap.size ≤ g4 by have := below_size HB.out; omega); have BK4 := Aside0.mk hblk; have HB2 := Aside0.mk (below_step HB.out hb); have z0 := blk_cell hblk 0; have z1 := blk_cell hblk 1; have y0 := blk_frozen hblk 0; have y1 := blk_frozen hblk 1; clear hg hblk hb))
  go_ret
  exact ⟨rfl, below_set (below_set HB2.out G4.out) G4.out⟩

open XPrefixReads in
set_option maxHeartbeats 800000 in
set_option maxRecDepth 100000 in
theorem write_some (base g gw : Nat) (l : List Int) (k s : Int) (x N : Int) (v : Value) (B : List Int) (last n T : Int) (w0 w : World) (hT : IsT base w g l k) (hI : IsW w0 w gw v B last n) (hB : Below w0.heap.size w0 w)
    (hv : atV l s = x) (hN : atN l s = N) (hN0 : 0 < N) (hN1 : N ≤ 15) (hn0 : 0 ≤ n) (hn8 : n < 8)
    (hTT : bits BinOp.or IntKind.u64 last (IntKind.u64.wrap (bits BinOp.and IntKind.u64 x (IntKind.u64.wrap (IntKind.u64.wrap (2 ^ N.toNat) - 1)) * 2 ^ n.toNat)) = T)
    (hx0 : 0 ≤ x) (hx1 : x < 4294967296) (hT0 : 0 ≤ T) (hT1 : T < 18446744073709551616) (hBl : B.length ≤ 1000000000) :
    Calls Try.prog 11 #[.pointer (some ⟨g, 0, none⟩), .pointer (some ⟨gw, 0, none⟩), .int .i64 s] w fun e w' => e = .returned (.int .i64 0) ∧ ∃ W2, Below w.heap.size w W2 ∧ PutPost w0 W2 gw v (fl 5 B T (n + N)) w' := by
  have HT := Aside0.mk hT
  have HI := Aside0.mk hI
  have HB0 := Aside0.mk hB
  clear hT hI hB
  go_enter Try.func11, Try.ntmps11
  go_wp2_with fail
  refine (at_calls base g l k s _ HT.out).mono ?_
  rintro e w1 ⟨rfl, hB⟩
  have HB := Aside0.mk hB
  clear hB
  rw [hv, hN]
  have e0 : (N == 0) = false := beq_eq_false_iff_ne.mpr (by omega)
  have H := Aside0.mk (fun (W : World) (hI : IsW w0 W gw v B last n) (hB : Below w0.heap.size w0 W) => put_walk gw v B last n x N N T w0 W hI hB hn0 hn8 (by split <;> split <;> omega) hTT hx0 hx1 hT0 hT1 hBl)
  clear hv hN hTT hx0 hx1 hT0 hT1 hBl
  go_wp2_with (first | ((with_reducible refine gate_dst (N := 7) rfl ?_); refine box_event rfl (N := 7) rfl (cs := #[.int .u32 0, .int .i64 0]) (t := 63) (by first | kernel_rfl | (go_simp; done) | (go_simp; rfl)) ?_; intro g4 hg w2 hblk hb; have G4 := Aside0.mk (show w.heap.size ≤ g4 by have := below_size HB.out; omega); have BK4 := Aside0.mk hblk; have HB2 := Aside0.mk (below_step HB.out hb); have z0 := blk_cell hblk 0; have z1 := blk_cell hblk 1; have y0 := blk_frozen hblk 0; have y1 := blk_frozen hblk 1; clear hg hblk hb))
  have HB3 := Aside0.mk (show Below w.heap.size w ((w2.setCell ⟨g4, 0, none⟩ (.int .u32 x)).setCell ⟨g4, 1, none⟩ (.int .i64 N)) from below_set (below_set HB2.out G4.out) G4.out)
  refine (H.out _ (HI.out.below HB3.out) (below_step HB0.out HB3.out)).mono ?_
  rintro e w5 ⟨rfl, hP⟩
  have HP := Aside0.mk hP
  clear hP
  go_wp2
  go_ret
  exact ⟨rfl, _, HB3.out, HP.out⟩

end Go.Proofs.Ytiemjhoadobigaa.XPrefix
