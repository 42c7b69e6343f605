/- Option: a word that is a flag. It has no conditions. -/
import Derived.Test.YtdaofffedfccmaaDoorXOptW
import Derived.BigRegion
import Derived.RegionTactic
import Derived.ChangeAlike
import Derived.Deep.RegionWith
import Derived.Deep.RegionLaw
import Derived.Laws.Tables
import Derived.Deep.QuietTactic
import Derived.BigQuiet
import Derived.Deep.RegionHeld3
import Derived.Deep.AppendLies
import Derived.Deep.DrawnRows
import Derived.Laws.CopyOwn
import Derived.Deep.MidRow
import Derived.Laws.ResultCell
import Derived.ChangeKeysEq
import Derived.Laws.BitsAllLaws
namespace Go.Proofs.YtdaofffedfccmaaDoor.XGlob
set_option linter.unusedVariables false
set_option linter.unusedSimpArgs false
open Go.RowKit Go.Proofs.YtdaofffedfccmaaDoorW.PrintWords Go.Proofs.YtdaofffedfccmaaDoorW.PrintLast Go.Proofs.YtdaofffedfccmaaDoorW.PrintMore
attribute [local go_sem] max2_int min2_int max_two min_two max_three min_three max_four min_four
open Go.Maps
theorem flag_no (s : ByteArray) (p : Nat) (w : World) (a0 a1 a2 a3 a4 a5 a6 : Value) (hp : w.heap[p]? = some (.cells #[a0, a1, a2, a3, a4, a5, a6] 116 (0, 0))) (h : flagV s = 0) :
    Calls Tryd.prog 120 #[.pointer (some ⟨p, 0, none⟩), .string s] w fun e w' => e = .returned (.int .i64 2) ∧ w' = w := by
  refine (flag_calls s p w a0 a1 a2 a3 a4 a5 a6 hp).mono ?_
  rintro e w' (⟨_, h1, h2⟩ | ⟨i, hi, h3, _⟩)
  · exact ⟨h1, h2⟩
  · omega
theorem flag_yes (s : ByteArray) (p : Nat) (w : World) (a0 a1 a2 a3 a4 a5 a6 : Value) (hp : w.heap[p]? = some (.cells #[a0, a1, a2, a3, a4, a5, a6] 116 (0, 0))) (i : Nat) (hi : i = 1 ∨ i = 2 ∨ i = 3) (h : flagV s = (i : Int)) :
    Calls Tryd.prog 120 #[.pointer (some ⟨p, 0, none⟩), .string s] w fun e w' => e = .returned (.int .i64 0) ∧ w' = w.setCell ⟨p, i, none⟩ (.bool true) := by
  refine (flag_calls s p w a0 a1 a2 a3 a4 a5 a6 hp).mono ?_
  rintro e w' (⟨h3, _, _⟩ | ⟨j, hj, h3, h1, h2⟩)
  · omega
  · have : j = i := by omega
    subst this
    exact ⟨h1, h2⟩
def setF (i j : Nat) (b : Bool) : Bool := if i = j then true else b
theorem numAt_agg (p : Nat) (l : List UInt8) : ∃ q a b, numAt p l = .agg #[.pointer q, .int .i64 a, .int .i64 b] := by
  unfold numAt
  by_cases h : l = lvlL
  · rw [if_pos h]; exact ⟨_, _, _, rfl⟩
  · rw [if_neg h]
    by_cases h2 : l = mostL
    · rw [if_pos h2]; exact ⟨_, _, _, rfl⟩
    · rw [if_neg h2]; exact ⟨_, _, _, rfl⟩
set_option maxHeartbeats 6400000 in
set_option maxRecDepth 100000 in
theorem word_f0 (B p : Nat) (s kb vb : ByteArray) (hb_ eqb : Bool) (q : Option Addr) (dg mo : Int) (hs : s.size ≤ 1000) (hc : cutA s 61 = (kb, vb, eqb)) (hk : kb.size ≤ 1000) (w : World) (hL : Laid w) (lv : Int) (re sh wi : Bool) (most : Int) (n : Nat) (K : List (List UInt8))
    (hP : IsP B w p lv re sh wi most n (seenD K)) (hn : n ≤ 1000000) (hB : B ≤ w.heap.size) (hnum : numAt p kb.data.toList = .agg #[.pointer q, .int .i64 dg, .int .i64 mo]) (hhas : numHas kb.data.toList = hb_) (hbe : (hb_ && eqb) = false) (hf : flagV s = 0) :
    Calls Tryd.prog 91 #[.pointer (some ⟨p, 0, none⟩), .string s] w fun e w' => e = .returned (.int .i64 2) ∧ Below B w w' := by
  obtain ⟨m1, m2, hBp, hB1, hB2, hm12, hb, ho1, ho2⟩ := hP
  have HC := Aside0.mk (fun W => cut_one s 61 W (by omega))
  have HLd := Aside0.mk hL
  have HO1 := Aside0.mk ho1
  have HO2 := Aside0.mk ho2
  have HBK := Aside0.mk hb
  have HBp := Aside0.mk (show B ≤ p ∧ B ≤ m1 ∧ B ≤ m2 ∧ m1 ≠ m2 from ⟨hBp, hB1, hB2, hm12⟩)
  have HHB := Aside0.mk hB
  have HNN := Aside0.mk hn
  rw [hc] at HC
  have hlk : ∀ W : World, W.ownsMap Tryd.prog 9 (numR p) m1 2 numD → (Instr.lookup 113 (.map (some m1)) (.string kb) true).run Tryd.prog W = .ok (.tuple #[.agg #[.pointer q, .int .i64 dg, .int .i64 mo], .bool hb_]) W := fun W hW => by
    rw [look_num W p m1 hW kb (by omega), hnum, hhas]
  have HLK := Aside0.mk hlk
  have hu136 := Tryd.underlying136
  clear hL ho1 ho2 hb hBp hB1 hB2 hm12 hB hn hlk hc hnum hhas
  cases hb_ with
  | false =>
    go_enter Tryd.func91, Tryd.ntmps91
    go_wp2_with fail
    refine Calls.mono (HC.out _) ?_
    rintro e w1 ⟨rfl, ⟨nd, hw1⟩⟩
    have c5 : w1.cell? ⟨p, 5, none⟩ = some (.map (some m1)) := by rw [hw1]; exact blk_cell (blk_drewN HBK.out nd) 5
    have O1 := Aside0.mk (show w1.ownsMap (H := Unit) Tryd.prog 9 (numR p) m1 2 numD from by rw [hw1]; exact HO1.out)
    have O2 := Aside0.mk (show w1.ownsMap (H := Unit) Tryd.prog 9 (plainElem Tryd.prog 3) m2 n (seenD K) from by rw [hw1]; exact HO2.out)
    have BK1 := Aside0.mk (show w1.heap[p]? = some (.cells #[.int .i64 lv, .bool re, .bool sh, .bool wi, .int .i64 most, .map (some m1), .map (some m2)] 116 (0, 0)) from by rw [hw1]; exact blk_drewN HBK.out nd)
    have L1 := Aside0.mk (show Laid w1 from by rw [hw1]; exact HLd.out.below (pw_below_drewN (Below.refl _ _) nd))
    have B1 := Aside0.mk (show Below B w w1 from by rw [hw1]; exact pw_below_drewN (Below.refl _ _) nd)
    have S1 := Aside0.mk (show B ≤ w1.heap.size from by rw [hw1]; exact HHB.out)
    have hlk1 := HLK.out w1 O1.out
    clear HO1 HO2 HBK HLd hw1 HLK
    go_wp2_with (first | ((with_reducible refine gate_dst (N := 9) rfl ?_); refine box_event rfl (N := 9) rfl (cs := #[.pointer none, .int .i64 0, .int .i64 0]) (t := 136) (by first | (go_simp; done) | (go_simp; rfl)) ?_; intro gb hg w2 hblk hb3; have BG := Aside0.mk hblk; have HG := Aside0.mk hg; have HB3 := Aside0.mk hb3; clear hg hblk hb3; have z0 : w2.cell? ⟨gb, 0, none⟩ = some (.pointer none) := blk_cell BG.out 0; have z1 : w2.cell? ⟨gb, 1, none⟩ = some (.int .i64 0) := blk_cell BG.out 1; have z2 : w2.cell? ⟨gb, 2, none⟩ = some (.int .i64 0) := blk_cell BG.out 2; have q0 := blk_frozen BG.out 0; have q1 := blk_frozen BG.out 1; have q2 := blk_frozen BG.out 2))
    have hW5 := Aside0.mk (below3 HG.out HB3.out (.pointer q) (.int .i64 dg) (.int .i64 mo))
    generalize (((w2.setCell ⟨gb, 0, none⟩ (.pointer q)).setCell ⟨gb, 1, none⟩ (.int .i64 dg)).setCell ⟨gb, 2, none⟩ (.int .i64 mo)) = W5 at hW5 ⊢
    have hb5 := blk_below BK1.out hW5.out
    have K5 := flag_no s p W5 _ _ _ _ _ _ _ hb5 hf
    refine Calls.mono K5 ?_
    rintro e w6 ⟨rfl, hw6⟩
    have B6 := Aside0.mk (show Below B w w6 from by rw [hw6]; exact base_mono B1.out S1.out hW5.out)
    clear K5 hw6 hb5 hlk1 c5 z0 z1 z2 q0 q1 q2
    go_wp2
    go_ret
    exact ⟨rfl, B6.out⟩
  | true =>
    obtain rfl : eqb = false := by simpa using hbe
    clear hbe
    go_enter Tryd.func91, Tryd.ntmps91
    go_wp2_with fail
    refine Calls.mono (HC.out _) ?_
    rintro e w1 ⟨rfl, ⟨nd, hw1⟩⟩
    have c5 : w1.cell? ⟨p, 5, none⟩ = some (.map (some m1)) := by rw [hw1]; exact blk_cell (blk_drewN HBK.out nd) 5
    have O1 := Aside0.mk (show w1.ownsMap (H := Unit) Tryd.prog 9 (numR p) m1 2 numD from by rw [hw1]; exact HO1.out)
    have O2 := Aside0.mk (show w1.ownsMap (H := Unit) Tryd.prog 9 (plainElem Tryd.prog 3) m2 n (seenD K) from by rw [hw1]; exact HO2.out)
    have BK1 := Aside0.mk (show w1.heap[p]? = some (.cells #[.int .i64 lv, .bool re, .bool sh, .bool wi, .int .i64 most, .map (some m1), .map (some m2)] 116 (0, 0)) from by rw [hw1]; exact blk_drewN HBK.out nd)
    have L1 := Aside0.mk (show Laid w1 from by rw [hw1]; exact HLd.out.below (pw_below_drewN (Below.refl _ _) nd))
    have B1 := Aside0.mk (show Below B w w1 from by rw [hw1]; exact pw_below_drewN (Below.refl _ _) nd)
    have S1 := Aside0.mk (show B ≤ w1.heap.size from by rw [hw1]; exact HHB.out)
    have hlk1 := HLK.out w1 O1.out
    clear HO1 HO2 HBK HLd hw1 HLK
    go_wp2_with (first | ((with_reducible refine gate_dst (N := 9) rfl ?_); refine box_event rfl (N := 9) rfl (cs := #[.pointer none, .int .i64 0, .int .i64 0]) (t := 136) (by first | (go_simp; done) | (go_simp; rfl)) ?_; intro gb hg w2 hblk hb3; have BG := Aside0.mk hblk; have HG := Aside0.mk hg; have HB3 := Aside0.mk hb3; clear hg hblk hb3; have z0 : w2.cell? ⟨gb, 0, none⟩ = some (.pointer none) := blk_cell BG.out 0; have z1 : w2.cell? ⟨gb, 1, none⟩ = some (.int .i64 0) := blk_cell BG.out 1; have z2 : w2.cell? ⟨gb, 2, none⟩ = some (.int .i64 0) := blk_cell BG.out 2; have q0 := blk_frozen BG.out 0; have q1 := blk_frozen BG.out 1; have q2 := blk_frozen BG.out 2))
    have hW5 := Aside0.mk (below3 HG.out HB3.out (.pointer q) (.int .i64 dg) (.int .i64 mo))
    generalize (((w2.setCell ⟨gb, 0, none⟩ (.pointer q)).setCell ⟨gb, 1, none⟩ (.int .i64 dg)).setCell ⟨gb, 2, none⟩ (.int .i64 mo)) = W5 at hW5 ⊢
    have hb5 := blk_below BK1.out hW5.out
    have K5 := flag_no s p W5 _ _ _ _ _ _ _ hb5 hf
    refine Calls.mono K5 ?_
    rintro e w6 ⟨rfl, hw6⟩
    have B6 := Aside0.mk (show Below B w w6 from by rw [hw6]; exact base_mono B1.out S1.out hW5.out)
    clear K5 hw6 hb5 hlk1 c5 z0 z1 z2 q0 q1 q2
    go_wp2
    go_ret
    exact ⟨rfl, B6.out⟩
set_option maxHeartbeats 6400000 in
set_option maxRecDepth 100000 in
theorem word_f6 (B p : Nat) (s kb vb : ByteArray) (hb_ eqb : Bool) (q : Option Addr) (dg mo : Int) (hs : s.size ≤ 1000) (hc : cutA s 61 = (kb, vb, eqb)) (hk : kb.size ≤ 1000) (w : World) (hL : Laid w) (lv : Int) (re sh wi : Bool) (most : Int) (n : Nat) (K : List (List UInt8))
    (hP : IsP B w p lv re sh wi most n (seenD K)) (hn : n ≤ 1000000) (hB : B ≤ w.heap.size) (hnum : numAt p kb.data.toList = .agg #[.pointer q, .int .i64 dg, .int .i64 mo]) (hhas : numHas kb.data.toList = hb_) (hbe : (hb_ && eqb) = false) (i : Nat) (hi : i = 1 ∨ i = 2 ∨ i = 3) (hf : flagV s = (i : Int)) (hin : kb.data.toList ∈ K) :
    Calls Tryd.prog 91 #[.pointer (some ⟨p, 0, none⟩), .string s] w fun e w' => e = .returned (.int .i64 6) ∧ Below B w w' := by
  obtain ⟨m1, m2, hBp, hB1, hB2, hm12, hb, ho1, ho2⟩ := hP
  have HC := Aside0.mk (fun W => cut_one s 61 W (by omega))
  have HLd := Aside0.mk hL
  have HO1 := Aside0.mk ho1
  have HO2 := Aside0.mk ho2
  have HBK := Aside0.mk hb
  have HBp := Aside0.mk (show B ≤ p ∧ B ≤ m1 ∧ B ≤ m2 ∧ m1 ≠ m2 from ⟨hBp, hB1, hB2, hm12⟩)
  have HHB := Aside0.mk hB
  have HNN := Aside0.mk hn
  rw [hc] at HC
  have hlk : ∀ W : World, W.ownsMap Tryd.prog 9 (numR p) m1 2 numD → (Instr.lookup 113 (.map (some m1)) (.string kb) true).run Tryd.prog W = .ok (.tuple #[.agg #[.pointer q, .int .i64 dg, .int .i64 mo], .bool hb_]) W := fun W hW => by
    rw [look_num W p m1 hW kb (by omega), hnum, hhas]
  have HLK := Aside0.mk hlk
  have hu136 := Tryd.underlying136
  clear hL ho1 ho2 hb hBp hB1 hB2 hm12 hB hn hlk hc hnum hhas
  cases hb_ with
  | false =>
    go_enter Tryd.func91, Tryd.ntmps91
    go_wp2_with fail
    refine Calls.mono (HC.out _) ?_
    rintro e w1 ⟨rfl, ⟨nd, hw1⟩⟩
    have c5 : w1.cell? ⟨p, 5, none⟩ = some (.map (some m1)) := by rw [hw1]; exact blk_cell (blk_drewN HBK.out nd) 5
    have O1 := Aside0.mk (show w1.ownsMap (H := Unit) Tryd.prog 9 (numR p) m1 2 numD from by rw [hw1]; exact HO1.out)
    have O2 := Aside0.mk (show w1.ownsMap (H := Unit) Tryd.prog 9 (plainElem Tryd.prog 3) m2 n (seenD K) from by rw [hw1]; exact HO2.out)
    have BK1 := Aside0.mk (show w1.heap[p]? = some (.cells #[.int .i64 lv, .bool re, .bool sh, .bool wi, .int .i64 most, .map (some m1), .map (some m2)] 116 (0, 0)) from by rw [hw1]; exact blk_drewN HBK.out nd)
    have L1 := Aside0.mk (show Laid w1 from by rw [hw1]; exact HLd.out.below (pw_below_drewN (Below.refl _ _) nd))
    have B1 := Aside0.mk (show Below B w w1 from by rw [hw1]; exact pw_below_drewN (Below.refl _ _) nd)
    have S1 := Aside0.mk (show B ≤ w1.heap.size from by rw [hw1]; exact HHB.out)
    have hlk1 := HLK.out w1 O1.out
    clear HO1 HO2 HBK HLd hw1 HLK
    go_wp2_with (first | ((with_reducible refine gate_dst (N := 9) rfl ?_); refine box_event rfl (N := 9) rfl (cs := #[.pointer none, .int .i64 0, .int .i64 0]) (t := 136) (by first | (go_simp; done) | (go_simp; rfl)) ?_; intro gb hg w2 hblk hb3; have BG := Aside0.mk hblk; have HG := Aside0.mk hg; have HB3 := Aside0.mk hb3; clear hg hblk hb3; have z0 : w2.cell? ⟨gb, 0, none⟩ = some (.pointer none) := blk_cell BG.out 0; have z1 : w2.cell? ⟨gb, 1, none⟩ = some (.int .i64 0) := blk_cell BG.out 1; have z2 : w2.cell? ⟨gb, 2, none⟩ = some (.int .i64 0) := blk_cell BG.out 2; have q0 := blk_frozen BG.out 0; have q1 := blk_frozen BG.out 1; have q2 := blk_frozen BG.out 2))
    have hW5 := Aside0.mk (below3 HG.out HB3.out (.pointer q) (.int .i64 dg) (.int .i64 mo))
    generalize (((w2.setCell ⟨gb, 0, none⟩ (.pointer q)).setCell ⟨gb, 1, none⟩ (.int .i64 dg)).setCell ⟨gb, 2, none⟩ (.int .i64 mo)) = W5 at hW5 ⊢
    have hb5 := blk_below BK1.out hW5.out
    have K5 := flag_yes s p W5 _ _ _ _ _ _ _ hb5 i hi hf
    refine Calls.mono K5 ?_
    rintro e w7 ⟨rfl, hw7⟩
    have hb7 : w7.heap[p]? = some (.cells #[.int .i64 lv, .bool (setF i 1 re), .bool (setF i 2 sh), .bool (setF i 3 wi), .int .i64 most, .map (some m1), .map (some m2)] 116 (0, 0)) := by
      rw [hw7]
      rcases hi with rfl | rfl | rfl
      · exact blk_put hb5 1 _ rfl
      · exact blk_put hb5 2 _ rfl
      · exact blk_put hb5 3 _ rfl
    have o1 := own_old O1.out hW5.out
    have o2 := own_old O2.out hW5.out
    have o17 : w7.ownsMap (H := Unit) Tryd.prog 9 (numR p) m1 2 numD := by rw [hw7]; exact o1.setCell (own_ne o1 hb5) _
    have o27 : w7.ownsMap (H := Unit) Tryd.prog 9 (plainElem Tryd.prog 3) m2 n (seenD K) := by rw [hw7]; exact o2.setCell (own_ne o2 hb5) _
    have B7 := Aside0.mk (show Below B w w7 from by rw [hw7]; exact (base_mono B1.out S1.out hW5.out).setCell HBp.out.1 _)
    have BK7 := Aside0.mk hb7
    have O17 := Aside0.mk o17
    have O27 := Aside0.mk o27
    have S7 := Aside0.mk (show B ≤ w7.heap.size from Nat.le_trans HHB.out B7.out.size)
    have c6 : w7.cell? ⟨p, 6, none⟩ = some (.map (some m2)) := blk_cell hb7 6
    have hs7 := look_seen w7 m2 n K o27 kb (by omega)
    clear K5 hlk1 c5 z0 z1 z2 q0 q1 q2 hw7 hb5 hb7 o1 o2 o17 o27
    rw [if_pos hin] at hs7
    go_wp2
    go_ret
    exact ⟨rfl, B7.out⟩
  | true =>
    obtain rfl : eqb = false := by simpa using hbe
    clear hbe
    go_enter Tryd.func91, Tryd.ntmps91
    go_wp2_with fail
    refine Calls.mono (HC.out _) ?_
    rintro e w1 ⟨rfl, ⟨nd, hw1⟩⟩
    have c5 : w1.cell? ⟨p, 5, none⟩ = some (.map (some m1)) := by rw [hw1]; exact blk_cell (blk_drewN HBK.out nd) 5
    have O1 := Aside0.mk (show w1.ownsMap (H := Unit) Tryd.prog 9 (numR p) m1 2 numD from by rw [hw1]; exact HO1.out)
    have O2 := Aside0.mk (show w1.ownsMap (H := Unit) Tryd.prog 9 (plainElem Tryd.prog 3) m2 n (seenD K) from by rw [hw1]; exact HO2.out)
    have BK1 := Aside0.mk (show w1.heap[p]? = some (.cells #[.int .i64 lv, .bool re, .bool sh, .bool wi, .int .i64 most, .map (some m1), .map (some m2)] 116 (0, 0)) from by rw [hw1]; exact blk_drewN HBK.out nd)
    have L1 := Aside0.mk (show Laid w1 from by rw [hw1]; exact HLd.out.below (pw_below_drewN (Below.refl _ _) nd))
    have B1 := Aside0.mk (show Below B w w1 from by rw [hw1]; exact pw_below_drewN (Below.refl _ _) nd)
    have S1 := Aside0.mk (show B ≤ w1.heap.size from by rw [hw1]; exact HHB.out)
    have hlk1 := HLK.out w1 O1.out
    clear HO1 HO2 HBK HLd hw1 HLK
    go_wp2_with (first | ((with_reducible refine gate_dst (N := 9) rfl ?_); refine box_event rfl (N := 9) rfl (cs := #[.pointer none, .int .i64 0, .int .i64 0]) (t := 136) (by first | (go_simp; done) | (go_simp; rfl)) ?_; intro gb hg w2 hblk hb3; have BG := Aside0.mk hblk; have HG := Aside0.mk hg; have HB3 := Aside0.mk hb3; clear hg hblk hb3; have z0 : w2.cell? ⟨gb, 0, none⟩ = some (.pointer none) := blk_cell BG.out 0; have z1 : w2.cell? ⟨gb, 1, none⟩ = some (.int .i64 0) := blk_cell BG.out 1; have z2 : w2.cell? ⟨gb, 2, none⟩ = some (.int .i64 0) := blk_cell BG.out 2; have q0 := blk_frozen BG.out 0; have q1 := blk_frozen BG.out 1; have q2 := blk_frozen BG.out 2))
    have hW5 := Aside0.mk (below3 HG.out HB3.out (.pointer q) (.int .i64 dg) (.int .i64 mo))
    generalize (((w2.setCell ⟨gb, 0, none⟩ (.pointer q)).setCell ⟨gb, 1, none⟩ (.int .i64 dg)).setCell ⟨gb, 2, none⟩ (.int .i64 mo)) = W5 at hW5 ⊢
    have hb5 := blk_below BK1.out hW5.out
    have K5 := flag_yes s p W5 _ _ _ _ _ _ _ hb5 i hi hf
    refine Calls.mono K5 ?_
    rintro e w7 ⟨rfl, hw7⟩
    have hb7 : w7.heap[p]? = some (.cells #[.int .i64 lv, .bool (setF i 1 re), .bool (setF i 2 sh), .bool (setF i 3 wi), .int .i64 most, .map (some m1), .map (some m2)] 116 (0, 0)) := by
      rw [hw7]
      rcases hi with rfl | rfl | rfl
      · exact blk_put hb5 1 _ rfl
      · exact blk_put hb5 2 _ rfl
      · exact blk_put hb5 3 _ rfl
    have o1 := own_old O1.out hW5.out
    have o2 := own_old O2.out hW5.out
    have o17 : w7.ownsMap (H := Unit) Tryd.prog 9 (numR p) m1 2 numD := by rw [hw7]; exact o1.setCell (own_ne o1 hb5) _
    have o27 : w7.ownsMap (H := Unit) Tryd.prog 9 (plainElem Tryd.prog 3) m2 n (seenD K) := by rw [hw7]; exact o2.setCell (own_ne o2 hb5) _
    have B7 := Aside0.mk (show Below B w w7 from by rw [hw7]; exact (base_mono B1.out S1.out hW5.out).setCell HBp.out.1 _)
    have BK7 := Aside0.mk hb7
    have O17 := Aside0.mk o17
    have O27 := Aside0.mk o27
    have S7 := Aside0.mk (show B ≤ w7.heap.size from Nat.le_trans HHB.out B7.out.size)
    have c6 : w7.cell? ⟨p, 6, none⟩ = some (.map (some m2)) := blk_cell hb7 6
    have hs7 := look_seen w7 m2 n K o27 kb (by omega)
    clear K5 hlk1 c5 z0 z1 z2 q0 q1 q2 hw7 hb5 hb7 o1 o2 o17 o27
    rw [if_pos hin] at hs7
    go_wp2
    go_ret
    exact ⟨rfl, B7.out⟩
set_option maxHeartbeats 6400000 in
set_option maxRecDepth 100000 in
theorem word_fi (B p : Nat) (s kb vb : ByteArray) (hb_ eqb : Bool) (q : Option Addr) (dg mo : Int) (hs : s.size ≤ 1000) (hc : cutA s 61 = (kb, vb, eqb)) (hk : kb.size ≤ 1000) (w : World) (hL : Laid w) (lv : Int) (re sh wi : Bool) (most : Int) (n : Nat) (K : List (List UInt8))
    (hP : IsP B w p lv re sh wi most n (seenD K)) (hn : n ≤ 1000000) (hB : B ≤ w.heap.size) (hnum : numAt p kb.data.toList = .agg #[.pointer q, .int .i64 dg, .int .i64 mo]) (hhas : numHas kb.data.toList = hb_) (hbe : (hb_ && eqb) = false) (i : Nat) (hi : i = 1 ∨ i = 2 ∨ i = 3) (hf : flagV s = (i : Int)) (hin : ¬ kb.data.toList ∈ K) :
    Calls Tryd.prog 91 #[.pointer (some ⟨p, 0, none⟩), .string s] w fun e w' => e = .returned (.int .i64 0) ∧ Below B w w' ∧ IsP B w' p lv (setF i 1 re) (setF i 2 sh) (setF i 3 wi) most (n + 1) (seenD (kb.data.toList :: K)) := by
  obtain ⟨m1, m2, hBp, hB1, hB2, hm12, hb, ho1, ho2⟩ := hP
  have HC := Aside0.mk (fun W => cut_one s 61 W (by omega))
  have HLd := Aside0.mk hL
  have HO1 := Aside0.mk ho1
  have HO2 := Aside0.mk ho2
  have HBK := Aside0.mk hb
  have HBp := Aside0.mk (show B ≤ p ∧ B ≤ m1 ∧ B ≤ m2 ∧ m1 ≠ m2 from ⟨hBp, hB1, hB2, hm12⟩)
  have HHB := Aside0.mk hB
  have HNN := Aside0.mk hn
  rw [hc] at HC
  have hlk : ∀ W : World, W.ownsMap Tryd.prog 9 (numR p) m1 2 numD → (Instr.lookup 113 (.map (some m1)) (.string kb) true).run Tryd.prog W = .ok (.tuple #[.agg #[.pointer q, .int .i64 dg, .int .i64 mo], .bool hb_]) W := fun W hW => by
    rw [look_num W p m1 hW kb (by omega), hnum, hhas]
  have HLK := Aside0.mk hlk
  have hu136 := Tryd.underlying136
  clear hL ho1 ho2 hb hBp hB1 hB2 hm12 hB hn hlk hc hnum hhas
  cases hb_ with
  | false =>
    go_enter Tryd.func91, Tryd.ntmps91
    go_wp2_with fail
    refine Calls.mono (HC.out _) ?_
    rintro e w1 ⟨rfl, ⟨nd, hw1⟩⟩
    have c5 : w1.cell? ⟨p, 5, none⟩ = some (.map (some m1)) := by rw [hw1]; exact blk_cell (blk_drewN HBK.out nd) 5
    have O1 := Aside0.mk (show w1.ownsMap (H := Unit) Tryd.prog 9 (numR p) m1 2 numD from by rw [hw1]; exact HO1.out)
    have O2 := Aside0.mk (show w1.ownsMap (H := Unit) Tryd.prog 9 (plainElem Tryd.prog 3) m2 n (seenD K) from by rw [hw1]; exact HO2.out)
    have BK1 := Aside0.mk (show w1.heap[p]? = some (.cells #[.int .i64 lv, .bool re, .bool sh, .bool wi, .int .i64 most, .map (some m1), .map (some m2)] 116 (0, 0)) from by rw [hw1]; exact blk_drewN HBK.out nd)
    have L1 := Aside0.mk (show Laid w1 from by rw [hw1]; exact HLd.out.below (pw_below_drewN (Below.refl _ _) nd))
    have B1 := Aside0.mk (show Below B w w1 from by rw [hw1]; exact pw_below_drewN (Below.refl _ _) nd)
    have S1 := Aside0.mk (show B ≤ w1.heap.size from by rw [hw1]; exact HHB.out)
    have hlk1 := HLK.out w1 O1.out
    clear HO1 HO2 HBK HLd hw1 HLK
    go_wp2_with (first | ((with_reducible refine gate_dst (N := 9) rfl ?_); refine box_event rfl (N := 9) rfl (cs := #[.pointer none, .int .i64 0, .int .i64 0]) (t := 136) (by first | (go_simp; done) | (go_simp; rfl)) ?_; intro gb hg w2 hblk hb3; have BG := Aside0.mk hblk; have HG := Aside0.mk hg; have HB3 := Aside0.mk hb3; clear hg hblk hb3; have z0 : w2.cell? ⟨gb, 0, none⟩ = some (.pointer none) := blk_cell BG.out 0; have z1 : w2.cell? ⟨gb, 1, none⟩ = some (.int .i64 0) := blk_cell BG.out 1; have z2 : w2.cell? ⟨gb, 2, none⟩ = some (.int .i64 0) := blk_cell BG.out 2; have q0 := blk_frozen BG.out 0; have q1 := blk_frozen BG.out 1; have q2 := blk_frozen BG.out 2))
    have hW5 := Aside0.mk (below3 HG.out HB3.out (.pointer q) (.int .i64 dg) (.int .i64 mo))
    generalize (((w2.setCell ⟨gb, 0, none⟩ (.pointer q)).setCell ⟨gb, 1, none⟩ (.int .i64 dg)).setCell ⟨gb, 2, none⟩ (.int .i64 mo)) = W5 at hW5 ⊢
    have hb5 := blk_below BK1.out hW5.out
    have K5 := flag_yes s p W5 _ _ _ _ _ _ _ hb5 i hi hf
    refine Calls.mono K5 ?_
    rintro e w7 ⟨rfl, hw7⟩
    have hb7 : w7.heap[p]? = some (.cells #[.int .i64 lv, .bool (setF i 1 re), .bool (setF i 2 sh), .bool (setF i 3 wi), .int .i64 most, .map (some m1), .map (some m2)] 116 (0, 0)) := by
      rw [hw7]
      rcases hi with rfl | rfl | rfl
      · exact blk_put hb5 1 _ rfl
      · exact blk_put hb5 2 _ rfl
      · exact blk_put hb5 3 _ rfl
    have o1 := own_old O1.out hW5.out
    have o2 := own_old O2.out hW5.out
    have o17 : w7.ownsMap (H := Unit) Tryd.prog 9 (numR p) m1 2 numD := by rw [hw7]; exact o1.setCell (own_ne o1 hb5) _
    have o27 : w7.ownsMap (H := Unit) Tryd.prog 9 (plainElem Tryd.prog 3) m2 n (seenD K) := by rw [hw7]; exact o2.setCell (own_ne o2 hb5) _
    have B7 := Aside0.mk (show Below B w w7 from by rw [hw7]; exact (base_mono B1.out S1.out hW5.out).setCell HBp.out.1 _)
    have BK7 := Aside0.mk hb7
    have O17 := Aside0.mk o17
    have O27 := Aside0.mk o27
    have S7 := Aside0.mk (show B ≤ w7.heap.size from Nat.le_trans HHB.out B7.out.size)
    have c6 : w7.cell? ⟨p, 6, none⟩ = some (.map (some m2)) := blk_cell hb7 6
    have hs7 := look_seen w7 m2 n K o27 kb (by omega)
    clear K5 hlk1 c5 z0 z1 z2 q0 q1 q2 hw7 hb5 hb7 o1 o2 o17 o27
    rw [if_neg hin] at hs7
    go_wp2_with (at_mapUpdate; refine wpList_mapUpdate_own _ rfl _ _ _ 114 rfl 9 3 law9 Tryd.underlying114 _ m2 n _ rfl O27.out (by have := HNN.out; unfold maxLen; omega) _ _ (.string kb.data.toList) rfl rfl (key_of kb (by omega)) (.lit (.int .i64 1)) [] (plainElem_int Tryd.underlying3 (by decide)) ?_; intro w8 hown8 hg8; have O8 := Aside0.mk hown8; have G8 := Aside0.mk hg8; clear hown8 hg8)
    go_ret
    refine ⟨rfl, B7.out.trans ⟨G8.out.os, G8.out.tape, G8.out.output, G8.out.size, fun j hj => G8.out.block j (by have := S7.out; omega) (by have := HBp.out.2.2.1; simp; omega)⟩, m1, m2, HBp.out.1, HBp.out.2.1, HBp.out.2.2.1, HBp.out.2.2.2, ?_, ?_, O8.out⟩
    · rw [G8.out.block p (blk_lt BK7.out) (by have := own_ne O27.out BK7.out; simp; exact fun e => this e.symm)]
      exact BK7.out
    · exact O17.out.kept G8.out (by have := HBp.out.2.2.2; simp; exact this)
  | true =>
    obtain rfl : eqb = false := by simpa using hbe
    clear hbe
    go_enter Tryd.func91, Tryd.ntmps91
    go_wp2_with fail
    refine Calls.mono (HC.out _) ?_
    rintro e w1 ⟨rfl, ⟨nd, hw1⟩⟩
    have c5 : w1.cell? ⟨p, 5, none⟩ = some (.map (some m1)) := by rw [hw1]; exact blk_cell (blk_drewN HBK.out nd) 5
    have O1 := Aside0.mk (show w1.ownsMap (H := Unit) Tryd.prog 9 (numR p) m1 2 numD from by rw [hw1]; exact HO1.out)
    have O2 := Aside0.mk (show w1.ownsMap (H := Unit) Tryd.prog 9 (plainElem Tryd.prog 3) m2 n (seenD K) from by rw [hw1]; exact HO2.out)
    have BK1 := Aside0.mk (show w1.heap[p]? = some (.cells #[.int .i64 lv, .bool re, .bool sh, .bool wi, .int .i64 most, .map (some m1), .map (some m2)] 116 (0, 0)) from by rw [hw1]; exact blk_drewN HBK.out nd)
    have L1 := Aside0.mk (show Laid w1 from by rw [hw1]; exact HLd.out.below (pw_below_drewN (Below.refl _ _) nd))
    have B1 := Aside0.mk (show Below B w w1 from by rw [hw1]; exact pw_below_drewN (Below.refl _ _) nd)
    have S1 := Aside0.mk (show B ≤ w1.heap.size from by rw [hw1]; exact HHB.out)
    have hlk1 := HLK.out w1 O1.out
    clear HO1 HO2 HBK HLd hw1 HLK
    go_wp2_with (first | ((with_reducible refine gate_dst (N := 9) rfl ?_); refine box_event rfl (N := 9) rfl (cs := #[.pointer none, .int .i64 0, .int .i64 0]) (t := 136) (by first | (go_simp; done) | (go_simp; rfl)) ?_; intro gb hg w2 hblk hb3; have BG := Aside0.mk hblk; have HG := Aside0.mk hg; have HB3 := Aside0.mk hb3; clear hg hblk hb3; have z0 : w2.cell? ⟨gb, 0, none⟩ = some (.pointer none) := blk_cell BG.out 0; have z1 : w2.cell? ⟨gb, 1, none⟩ = some (.int .i64 0) := blk_cell BG.out 1; have z2 : w2.cell? ⟨gb, 2, none⟩ = some (.int .i64 0) := blk_cell BG.out 2; have q0 := blk_frozen BG.out 0; have q1 := blk_frozen BG.out 1; have q2 := blk_frozen BG.out 2))
    have hW5 := Aside0.mk (below3 HG.out HB3.out (.pointer q) (.int .i64 dg) (.int .i64 mo))
    generalize (((w2.setCell ⟨gb, 0, none⟩ (.pointer q)).setCell ⟨gb, 1, none⟩ (.int .i64 dg)).setCell ⟨gb, 2, none⟩ (.int .i64 mo)) = W5 at hW5 ⊢
    have hb5 := blk_below BK1.out hW5.out
    have K5 := flag_yes s p W5 _ _ _ _ _ _ _ hb5 i hi hf
    refine Calls.mono K5 ?_
    rintro e w7 ⟨rfl, hw7⟩
    have hb7 : w7.heap[p]? = some (.cells #[.int .i64 lv, .bool (setF i 1 re), .bool (setF i 2 sh), .bool (setF i 3 wi), .int .i64 most, .map (some m1), .map (some m2)] 116 (0, 0)) := by
      rw [hw7]
      rcases hi with rfl | rfl | rfl
      · exact blk_put hb5 1 _ rfl
      · exact blk_put hb5 2 _ rfl
      · exact blk_put hb5 3 _ rfl
    have o1 := own_old O1.out hW5.out
    have o2 := own_old O2.out hW5.out
    have o17 : w7.ownsMap (H := Unit) Tryd.prog 9 (numR p) m1 2 numD := by rw [hw7]; exact o1.setCell (own_ne o1 hb5) _
    have o27 : w7.ownsMap (H := Unit) Tryd.prog 9 (plainElem Tryd.prog 3) m2 n (seenD K) := by rw [hw7]; exact o2.setCell (own_ne o2 hb5) _
    have B7 := Aside0.mk (show Below B w w7 from by rw [hw7]; exact (base_mono B1.out S1.out hW5.out).setCell HBp.out.1 _)
    have BK7 := Aside0.mk hb7
    have O17 := Aside0.mk o17
    have O27 := Aside0.mk o27
    have S7 := Aside0.mk (show B ≤ w7.heap.size from Nat.le_trans HHB.out B7.out.size)
    have c6 : w7.cell? ⟨p, 6, none⟩ = some (.map (some m2)) := blk_cell hb7 6
    have hs7 := look_seen w7 m2 n K o27 kb (by omega)
    clear K5 hlk1 c5 z0 z1 z2 q0 q1 q2 hw7 hb5 hb7 o1 o2 o17 o27
    rw [if_neg hin] at hs7
    go_wp2_with (at_mapUpdate; refine wpList_mapUpdate_own _ rfl _ _ _ 114 rfl 9 3 law9 Tryd.underlying114 _ m2 n _ rfl O27.out (by have := HNN.out; unfold maxLen; omega) _ _ (.string kb.data.toList) rfl rfl (key_of kb (by omega)) (.lit (.int .i64 1)) [] (plainElem_int Tryd.underlying3 (by decide)) ?_; intro w8 hown8 hg8; have O8 := Aside0.mk hown8; have G8 := Aside0.mk hg8; clear hown8 hg8)
    go_ret
    refine ⟨rfl, B7.out.trans ⟨G8.out.os, G8.out.tape, G8.out.output, G8.out.size, fun j hj => G8.out.block j (by have := S7.out; omega) (by have := HBp.out.2.2.1; simp; omega)⟩, m1, m2, HBp.out.1, HBp.out.2.1, HBp.out.2.2.1, HBp.out.2.2.2, ?_, ?_, O8.out⟩
    · rw [G8.out.block p (blk_lt BK7.out) (by have := own_ne O27.out BK7.out; simp; exact fun e => this e.symm)]
      exact BK7.out
    · exact O17.out.kept G8.out (by have := HBp.out.2.2.2; simp; exact this)

end Go.Proofs.YtdaofffedfccmaaDoor.XGlob
