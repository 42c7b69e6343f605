/- Option: a parser. It has no conditions. -/
import Derived.Maps.OwnSet
import Derived.Maps.Views
import Derived.Maps.OwnOps
import Derived.Test.YtdaofffedfccmaaDoorXOpt
import Derived.BigRegion
import Derived.RegionTactic
import Derived.ChangeAlike
import Derived.Deep.RegionWith
import Derived.Deep.RegionLaw
import Derived.Laws.Tables
import Derived.Deep.QuietTactic
import Derived.BigQuiet
import Derived.Deep.RegionHeld3
import Derived.Deep.AppendLies
import Derived.Deep.DrawnRows
import Derived.Laws.CopyOwn
import Derived.Deep.MidRow
import Derived.Laws.ResultCell
import Derived.ChangeKeysEq
import Derived.Laws.BitsAllLaws
namespace Go.Proofs.YtdaofffedfccmaaDoor.XGlob
set_option linter.unusedVariables false
set_option linter.unusedSimpArgs false
open Go.RowKit Go.Proofs.YtdaofffedfccmaaDoorW.PrintWords Go.Proofs.YtdaofffedfccmaaDoorW.PrintLast Go.Proofs.YtdaofffedfccmaaDoorW.PrintMore
attribute [local go_sem] max2_int min2_int max_two min_two max_three min_three max_four min_four
open Go.Maps
/-! ### option: a parser. -/
set_option maxHeartbeats 8000000 in
set_option maxRecDepth 100000 in
theorem default_calls (w : World) :
    Calls Tryd.prog 89 #[] w fun e w' => e = .returned (.agg #[.int .i64 1, .bool false, .bool false, .bool false, .int .i64 4194304]) ∧ Below w.heap.size w w' := by
  have hu58 := Tryd.underlying58
  have HB := Aside0.mk (Below.refl w.heap.size w)
  go_enter Tryd.func89, Tryd.ntmps89
  go_wp2_with (first | ((with_reducible refine gate_dst (N := 0) rfl ?_); refine box_event ?hg (N := 0) ?hd (cs := #[.int .i64 0, .bool false, .bool false, .bool false, .int .i64 0]) (t := 58) ?hr ?_; (case hd => rfl); (case hg => rfl); (case hr => first | (go_simp; done) | (go_simp; rfl)); intro gb117 hg w1 hbox hb; have n0_ := Aside0.mk (below_step (by repeat (first | (with_reducible first | exact HB.out | apply below_alloc | apply pw_below_drewN | apply below_drew1) | exact HB.out)) hb); have n1_ := Aside0.mk (hbox); have n2_ := Aside0.mk ((by rw [hg]; exact (below_size (by repeat (first | (with_reducible first | exact HB.out | apply below_alloc | apply pw_below_drewN | apply below_drew1) | exact HB.out))) : w.heap.size ≤ gb117)); have n3_ := Aside0.mk ((by rw [hg]; exact (below_size (by repeat (first | (with_reducible first | exact HB.out | apply below_alloc | apply pw_below_drewN | apply below_drew1) | exact HB.out))) : w.heap.size ≤ gb117)); clear HB; have HB := n0_; have BK117 := n1_; have GW117 := n2_; have GE117 := n3_; clear n0_ n1_ n2_ n3_; clear hb hbox hg; have hcz2_0 : w1.cell? ⟨gb117, 0, none⟩ = some (.int .i64 0) := (blk_cell BK117.out 0).trans rfl; have hcz2_1 : w1.cell? ⟨gb117, 1, none⟩ = some (.bool false) := (blk_cell BK117.out 1).trans rfl; have hcz2_2 : w1.cell? ⟨gb117, 2, none⟩ = some (.bool false) := (blk_cell BK117.out 2).trans rfl; have hcz2_3 : w1.cell? ⟨gb117, 3, none⟩ = some (.bool false) := (blk_cell BK117.out 3).trans rfl; have hcz2_4 : w1.cell? ⟨gb117, 4, none⟩ = some (.int .i64 0) := (blk_cell BK117.out 4).trans rfl; have hfz2_0 := blk_frozen BK117.out 0; have hfz2_1 := blk_frozen BK117.out 1; have hfz2_2 := blk_frozen BK117.out 2; have hfz2_3 := blk_frozen BK117.out 3; have hfz2_4 := blk_frozen BK117.out 4))
  refine bodyPost_ret (results_cell_row rfl _ _ gb117 58 #[.int .i64 1, .bool false, .bool false, .bool false, .int .i64 4194304] (0, 0) _ rfl (by (with_reducible repeat (first | refine blk_drewN ?_ _ | refine blk_drew ?_ | refine blk_alloc ?_ _)); refine blk_put (cs := #[.int .i64 1, .bool false, .bool false, .bool false, .int .i64 0]) ?_ 4 _ rfl; (with_reducible repeat (first | refine blk_drewN ?_ _ | refine blk_drew ?_ | refine blk_alloc ?_ _)); refine blk_put (cs := #[.int .i64 1, .bool false, .bool false, .bool false, .int .i64 0]) ?_ 3 _ rfl; (with_reducible repeat (first | refine blk_drewN ?_ _ | refine blk_drew ?_ | refine blk_alloc ?_ _)); refine blk_put (cs := #[.int .i64 1, .bool false, .bool false, .bool false, .int .i64 0]) ?_ 2 _ rfl; (with_reducible repeat (first | refine blk_drewN ?_ _ | refine blk_drew ?_ | refine blk_alloc ?_ _)); refine blk_put (cs := #[.int .i64 1, .bool false, .bool false, .bool false, .int .i64 0]) ?_ 1 _ rfl; (with_reducible repeat (first | refine blk_drewN ?_ _ | refine blk_drew ?_ | refine blk_alloc ?_ _)); refine blk_put (cs := #[.int .i64 0, .bool false, .bool false, .bool false, .int .i64 0]) ?_ 0 _ rfl; (with_reducible repeat (first | refine blk_drewN ?_ _ | refine blk_drew ?_ | refine blk_alloc ?_ _)); exact BK117.out) Tryd.underlying58 rfl (by kernel_rfl)) rfl ?_
  exact ⟨by first | rfl | (simp [errW_none, errW_some] <;> rfl) | (simp [*, errW_none, errW_some] <;> rfl), by repeat (first | (with_reducible first | exact HB.out | apply below_alloc | apply pw_below_drewN | apply below_drew1 | refine below_set ?_ GE117.out) | exact HB.out)⟩

theorem law9 : Keyed Tryd.prog 9 := string_keyed Tryd.underlying9
/-- A store of an entry, as a step of a region that draws its order. -/
theorem step_insert {H : Type} {P : Program} {ops : Array Oper} {o : Oper} {a : Act} {w : World} {K : Act → World → Prop} {Q : Exit → Act → World → Prop} {E : Prop} (hgd : o.guard = none) (m x v : Operand) (t : TypeId) (ho : o.op = .insert t m x v)
    (k e : TypeId) (KK : Keyed P k) (ht : P.underlying t = some (.map k e)) (R : Value → Option (DataW H × List MemPlace)) (b n : Nat) (D : DataW H)
    (hm : a.eval m = .map (some b)) (hown : w.ownsMap P k R b n D) (hn : n < maxLen) (key val : Value) (kl : Lit) (hx : a.eval x = key) (hv : a.eval v = val) (hkey : keyOf P k key = some kl)
    (d : DataW H) (ps : List MemPlace) (hval : R val = some (d, ps))
    (hK : ∀ w', w'.ownsMap P k R b (n + 1) (D.put kl d) → w.grownBy w' (some b) → K (a.put o.dst undef) w') :
    if Region.wanted o (yielded ops a.tmps) = true then Oper.wp P o a w K Q else E := by
  have hw : Region.wanted o (yielded ops a.tmps) = true := by simp [Region.wanted, hgd]
  rw [if_pos hw]
  obtain ⟨w', hrun, r1, r2⟩ := hown.update KK ht hn hkey hval
  unfold Oper.wp
  simp [execOp, ho, hm, hx, hv, hrun, Result.andThen]
  exact hK w' r1 r2
def numA (p : Nat) : Value := .agg #[.pointer (some ⟨p, 0, none⟩), .int .i64 1, .int .i64 3]
def numB (p : Nat) : Value := .agg #[.pointer (some ⟨p, 4, none⟩), .int .i64 7, .int .i64 4194304]
def numZ : Value := .agg #[.pointer none, .int .i64 0, .int .i64 0]

open Classical in
noncomputable def numR (p : Nat) (v : Value) : Option (DataW Unit × List MemPlace) := if v = numA p then some (.lit (.int .i64 1), []) else if v = numB p then some (.lit (.int .i64 2), []) else if v = numZ then some (.lit (.int .i64 0), []) else none
def lvlK : Lit := .string [108, 101, 118, 101, 108]
def mostK : Lit := .string [109, 111, 115, 116]
def numD : DataW Unit := ((DataW.map []).put lvlK (.lit (.int .i64 1))).put mostK (.lit (.int .i64 2))
theorem numA_R (p : Nat) : numR p (numA p) = some (.lit (.int .i64 1), []) := by unfold numR; rw [if_pos rfl]
theorem numB_ne (p : Nat) : ¬ numB p = numA p := by intro h; injection h with h; injection h with h; injection h with h1 h2; injection h1 with h1; injection h1 with h1; injection h1 with _ h1; cases h1
theorem numB_R (p : Nat) : numR p (numB p) = some (.lit (.int .i64 2), []) := by unfold numR; rw [if_neg (numB_ne p), if_pos rfl]
theorem key_of (s : ByteArray) (hs : s.size ≤ 1000000) : keyOf Tryd.prog 9 (.string s) = some (.string s.data.toList) := WideMaps.keyOf_string_mk Tryd.underlying9 (by unfold maxLen; omega)
theorem kLvl : keyOf Tryd.prog 9 (.string ⟨#[108, 101, 118, 101, 108]⟩) = some lvlK := key_of ⟨#[108, 101, 118, 101, 108]⟩ (by decide)
theorem kMost : keyOf Tryd.prog 9 (.string ⟨#[109, 111, 115, 116]⟩) = some mostK := key_of ⟨#[109, 111, 115, 116]⟩ (by decide)
theorem numD_turned : ((DataW.map []).put mostK (.lit (.int .i64 2))).put lvlK (.lit (.int .i64 1)) = (numD : DataW Unit) := by rfl
/-- A parser at block p: its option, its numbers, what was seen. -/
def IsP (B : Nat) (W : World) (p : Nat) (lv : Int) (re sh wi : Bool) (mo : Int) (n : Nat) (D : DataW Unit) : Prop :=
  ∃ m1 m2, B ≤ p ∧ B ≤ m1 ∧ B ≤ m2 ∧ m1 ≠ m2 ∧ W.heap[p]? = some (.cells #[.int .i64 lv, .bool re, .bool sh, .bool wi, .int .i64 mo, .map (some m1), .map (some m2)] 116 (0, 0)) ∧ W.ownsMap Tryd.prog 9 (numR p) m1 2 numD ∧ W.ownsMap Tryd.prog 9 (plainElem Tryd.prog 3) m2 n D
set_option maxHeartbeats 3200000 in
set_option maxRecDepth 100000 in
theorem newParser_calls (w : World) : Calls Tryd.prog 90 #[] w fun e w' => ∃ p : Nat, e = .returned (.pointer (some ⟨p, 0, none⟩)) ∧ IsP w.heap.size w' p 1 false false false 4194304 0 (.map []) ∧ Below w.heap.size w w' := by
  have hmm := @run_makeMap Tryd.prog
  have hu58 := Tryd.underlying58
  have hu116 := Tryd.underlying116
  have hu136 := Tryd.underlying136
  go_enter Tryd.func90, Tryd.ntmps90
  go_wp2_with fail
  refine Calls.mono (default_calls _) ?_
  rintro e w1 ⟨rfl, b1⟩
  have B1 := Aside0.mk b1
  clear b1
  go_wp2_with (first | ((with_reducible refine gate_dst (N := 5) rfl ?_); refine box_event rfl (N := 5) rfl (cs := #[.int .i64 1, .bool false, .bool false, .bool false, .int .i64 4194304, .map none, .map (some w1.heap.size)]) (t := 116) (by first | (go_simp; done) | (go_simp; rfl)) ?_; intro p hp w2 hblk hb3; have BK := Aside0.mk hblk; have HP := Aside0.mk hp; have HB := Aside0.mk hb3; clear hp hblk hb3))
  have hX : p = w1.heap.size + 1 := by rw [HP.out]; simp
  have S2 : Aside0 (w2.ownsMap (H := Unit) Tryd.prog 9 (plainElem Tryd.prog 3) w1.heap.size 0 (.map [])) := ⟨by
    have h0 := World.ownsMap_made (H := Unit) w1 Tryd.prog 9 (plainElem Tryd.prog 3)
    obtain ⟨es, ck, hb, F, h1, h2⟩ := h0
    refine ⟨es, ck, ?_, F, h1, h2⟩
    rw [HB.out.block _ (by simp)]
    exact hb⟩
  have hp2 : p < w2.heap.size := blk_lt BK.out
  have HPL := Aside0.mk hp2
  have HPX := Aside0.mk hX
  have HBW := Aside0.mk (below_step (below_step B1.out (below_alloc (Below.refl w1.heap.size w1) (.map #[] 0))) HB.out)
  have hne : p ≠ w2.heap.size := by omega
  obtain ⟨w3, hrun3, hown3, hg3⟩ := ((World.ownsMap_made (H := Unit) w2 Tryd.prog 9 (numR p)).drew).update law9 Tryd.underlying113 (by unfold maxLen; omega) kLvl (numA_R p)
  obtain ⟨w4, hrun4, hown4, hg4⟩ := hown3.update law9 Tryd.underlying113 (by unfold maxLen; omega) kMost (numB_R p)
  obtain ⟨w5, hrun5, hown5, hg5⟩ := ((World.ownsMap_made (H := Unit) w2 Tryd.prog 9 (numR p)).drew).update law9 Tryd.underlying113 (by unfold maxLen; omega) kMost (numB_R p)
  obtain ⟨w6, hrun6, hown6, hg6⟩ := hown5.update law9 Tryd.underlying113 (by unfold maxLen; omega) kLvl (numA_R p)
  rw [numD_turned] at hown6
  unfold numA at hrun3 hrun6
  unfold numB at hrun4 hrun5
  have hgA := hg3.trans hg4
  have hgB := hg5.trans hg6
  have key : ∀ W : World, W.ownsMap (H := Unit) Tryd.prog 9 (numR p) w2.heap.size 2 numD → ((w2.alloc (.map #[] 0)).drew).grownBy W (some w2.heap.size) →
      Aside0 (W.heap[p]? = some (.cells #[.int .i64 1, .bool false, .bool false, .bool false, .int .i64 4194304, .map none, .map (some w1.heap.size)] 116 (0, 0))) ∧ Aside0 (IsP w.heap.size (W.setCell ⟨p, 5, none⟩ (.map (some w2.heap.size))) p 1 false false false 4194304 0 (.map []) ∧ Below w.heap.size w (W.setCell ⟨p, 5, none⟩ (.map (some w2.heap.size)))) := by
    intro W hW hg
    have hb : W.heap[p]? = some (.cells #[.int .i64 1, .bool false, .bool false, .bool false, .int .i64 4194304, .map none, .map (some w1.heap.size)] 116 (0, 0)) := by
      rw [hg.block p (by show p < (w2.alloc (.map #[] 0)).heap.size; simp; omega) (by simp; exact hne)]
      exact blk_drew (blk_alloc BK.out _)
    have h2 := S2.out
    have hs1 := B1.out.size
    have hm1 : w1.heap.size < w2.heap.size := by omega
    have h2W : W.ownsMap (H := Unit) Tryd.prog 9 (plainElem Tryd.prog 3) w1.heap.size 0 (.map []) := ((h2.alloc (.map #[] 0)).drew).kept hg (by simp; omega)
    have hbw : Below w.heap.size w W := (below_drew1 (below_alloc HBW.out _)).trans ⟨hg.os, hg.tape, hg.output, hg.size, fun j hj => hg.block j (by have := HBW.out.size; show j < (w2.alloc (.map #[] 0)).heap.size; simp; omega) (by simp; have := HBW.out.size; omega)⟩
    refine ⟨⟨hb⟩, ⟨⟨w2.heap.size, w1.heap.size, by omega, by omega, by omega, by omega, blk_put hb 5 _ rfl, hW.setCell (fun e => hne e.symm) _, h2W.setCell (by show w1.heap.size ≠ p; omega) _⟩, below_set hbw (by show w.heap.size ≤ p; omega)⟩⟩
  obtain ⟨kA1, kA2⟩ := key w4 hown4 hgA
  obtain ⟨kB1, kB2⟩ := key w6 hown6 hgB
  have c5 : w4.cell? ⟨p, 5, none⟩ = some (.map none) := blk_cell kA1.out 5
  have f5 := blk_frozen kA1.out 5
  have c6 : w6.cell? ⟨p, 5, none⟩ = some (.map none) := blk_cell kB1.out 5
  have f6 := blk_frozen kB1.out 5
  clear key hown3 hown4 hown5 hown6 hg3 hg4 hg5 hg6 hgA hgB hne hp2 hX kA1 kB1
  go_region
  all_goals
    go_wp2
    go_ret
    first | exact ⟨p, rfl, kA2.out⟩ | exact ⟨p, rfl, kB2.out⟩

end Go.Proofs.YtdaofffedfccmaaDoor.XGlob
