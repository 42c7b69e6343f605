/- Option: Words, the walk. It has no conditions. -/
import Derived.Lib.ItoaLen
import Derived.Test.YtdaofffedfccmaaDoorXOptS
import Derived.BigRegion
import Derived.RegionTactic
import Derived.ChangeAlike
import Derived.Deep.RegionWith
import Derived.Deep.RegionLaw
import Derived.Laws.Tables
import Derived.Deep.QuietTactic
import Derived.BigQuiet
import Derived.Deep.RegionHeld3
import Derived.Deep.AppendLies
import Derived.Deep.DrawnRows
import Derived.Laws.CopyOwn
import Derived.Deep.MidRow
import Derived.Laws.ResultCell
import Derived.ChangeKeysEq
import Derived.Laws.BitsAllLaws
namespace Go.Proofs.YtdaofffedfccmaaDoor.XGlob
set_option linter.unusedVariables false
set_option linter.unusedSimpArgs false
open Go.RowKit Go.Proofs.YtdaofffedfccmaaDoorW.PrintWords Go.Proofs.YtdaofffedfccmaaDoorW.PrintLast Go.Proofs.YtdaofffedfccmaaDoorW.PrintMore
attribute [local go_sem] max2_int min2_int max_two min_two max_three min_three max_four min_four
/-! ### emit_May: function 95 -/
def emit_May.f (a0_0 : Int) (a0_1 : Bool) (a0_2 : Bool) (a0_3 : Bool) (a0_4 : Int) : Option (Bool) := if a0_0 ≥ 0 then (if a0_0 ≤ 3 then (if a0_4 ≥ 0 then (some (decide (a0_4 ≤ 4194304))) else (some false)) else (some false)) else (some false)
set_option maxHeartbeats 8000000 in
set_option maxRecDepth 100000 in
theorem emit_May.calls (a0_0 : Int) (a0_1 : Bool) (a0_2 : Bool) (a0_3 : Bool) (a0_4 : Int) (r : Bool) (w : World) (h : emit_May.f a0_0 a0_1 a0_2 a0_3 a0_4 = some r) :
    Calls Tryd.prog 95 #[.agg #[.int .i64 a0_0, .bool a0_1, .bool a0_2, .bool a0_3, .int .i64 a0_4]] w fun e w' => e = .returned (.bool r) ∧ Below w.heap.size w w' := by
  have hu58 := Tryd.underlying58
  have HB := Aside0.mk (Below.refl w.heap.size w)
  have H : (if a0_0 ≥ 0 then (if a0_0 ≤ 3 then (if a0_4 ≥ 0 then (some (decide (a0_4 ≤ 4194304))) else (some false)) else (some false)) else (some false)) = some r := h
  clear h
  by_cases c2 : a0_0 ≥ 0
  · rw [if_pos c2] at H
    have c2b0 : decide (0 ≤ a0_0) = true := decide_eq_true c2
    clear c2
    by_cases c3 : a0_0 ≤ 3
    · rw [if_pos c3] at H
      have c3b0 : decide (a0_0 ≤ 3) = true := decide_eq_true c3
      clear c3
      by_cases c4 : a0_4 ≥ 0
      · rw [if_pos c4] at H
        have c4b0 : decide (0 ≤ a0_4) = true := decide_eq_true c4
        clear c4
        obtain rfl := Option.some.inj H
        simp only [Option.some.injEq, Prod.mk.injEq] at H
        obtain ⟨rfl⟩ := H
        go_enter Tryd.func95, Tryd.ntmps95
        go_wp2_with (first | ((with_reducible refine gate_dst (N := 1) rfl ?_); refine box_event ?hg (N := 1) ?hd (cs := #[.int .i64 a0_0, .bool a0_1, .bool a0_2, .bool a0_3, .int .i64 a0_4]) (t := 58) ?hr ?_; (case hd => rfl); (case hg => rfl); (case hr => first | (go_simp; done) | (go_simp; rfl)); intro gb116 hg w5 hbox hb; have n0_ := Aside0.mk (below_step (by repeat (first | (with_reducible first | exact HB.out | apply below_alloc | apply pw_below_drewN | apply below_drew1) | exact HB.out)) hb); have n1_ := Aside0.mk (hbox); have n2_ := Aside0.mk ((by rw [hg]; exact (below_size (by repeat (first | (with_reducible first | exact HB.out | apply below_alloc | apply pw_below_drewN | apply below_drew1) | exact HB.out))) : w.heap.size ≤ gb116)); have n3_ := Aside0.mk ((by rw [hg]; exact (below_size (by repeat (first | (with_reducible first | exact HB.out | apply below_alloc | apply pw_below_drewN | apply below_drew1) | exact HB.out))) : w.heap.size ≤ gb116)); clear HB; have HB := n0_; have BK116 := n1_; have GW116 := n2_; have GE116 := n3_; clear n0_ n1_ n2_ n3_; clear hb hbox hg; have hcz6_0 : w5.cell? ⟨gb116, 0, none⟩ = some (.int .i64 a0_0) := (blk_cell BK116.out 0).trans rfl; have hcz6_1 : w5.cell? ⟨gb116, 1, none⟩ = some (.bool a0_1) := (blk_cell BK116.out 1).trans rfl; have hcz6_2 : w5.cell? ⟨gb116, 2, none⟩ = some (.bool a0_2) := (blk_cell BK116.out 2).trans rfl; have hcz6_3 : w5.cell? ⟨gb116, 3, none⟩ = some (.bool a0_3) := (blk_cell BK116.out 3).trans rfl; have hcz6_4 : w5.cell? ⟨gb116, 4, none⟩ = some (.int .i64 a0_4) := (blk_cell BK116.out 4).trans rfl; have hfz6_0 := blk_frozen BK116.out 0; have hfz6_1 := blk_frozen BK116.out 1; have hfz6_2 := blk_frozen BK116.out 2; have hfz6_3 := blk_frozen BK116.out 3; have hfz6_4 := blk_frozen BK116.out 4))
        go_ret
        exact ⟨by first | rfl | (simp [errW_none, errW_some] <;> rfl) | (simp [*, errW_none, errW_some] <;> rfl), by repeat (first | (with_reducible first | exact HB.out | apply below_alloc | apply pw_below_drewN | apply below_drew1 | refine below_set ?_ GE116.out) | exact HB.out)⟩
      · rw [if_neg c4] at H
        have c4b0 : decide (0 ≤ a0_4) = false := decide_eq_false c4
        clear c4
        obtain rfl := Option.some.inj H
        simp only [Option.some.injEq, Prod.mk.injEq] at H
        obtain ⟨rfl⟩ := H
        go_enter Tryd.func95, Tryd.ntmps95
        go_wp2_with (first | ((with_reducible refine gate_dst (N := 1) rfl ?_); refine box_event ?hg (N := 1) ?hd (cs := #[.int .i64 a0_0, .bool a0_1, .bool a0_2, .bool a0_3, .int .i64 a0_4]) (t := 58) ?hr ?_; (case hd => rfl); (case hg => rfl); (case hr => first | (go_simp; done) | (go_simp; rfl)); intro gb116 hg w7 hbox hb; have n0_ := Aside0.mk (below_step (by repeat (first | (with_reducible first | exact HB.out | apply below_alloc | apply pw_below_drewN | apply below_drew1) | exact HB.out)) hb); have n1_ := Aside0.mk (hbox); have n2_ := Aside0.mk ((by rw [hg]; exact (below_size (by repeat (first | (with_reducible first | exact HB.out | apply below_alloc | apply pw_below_drewN | apply below_drew1) | exact HB.out))) : w.heap.size ≤ gb116)); have n3_ := Aside0.mk ((by rw [hg]; exact (below_size (by repeat (first | (with_reducible first | exact HB.out | apply below_alloc | apply pw_below_drewN | apply below_drew1) | exact HB.out))) : w.heap.size ≤ gb116)); clear HB; have HB := n0_; have BK116 := n1_; have GW116 := n2_; have GE116 := n3_; clear n0_ n1_ n2_ n3_; clear hb hbox hg; have hcz8_0 : w7.cell? ⟨gb116, 0, none⟩ = some (.int .i64 a0_0) := (blk_cell BK116.out 0).trans rfl; have hcz8_1 : w7.cell? ⟨gb116, 1, none⟩ = some (.bool a0_1) := (blk_cell BK116.out 1).trans rfl; have hcz8_2 : w7.cell? ⟨gb116, 2, none⟩ = some (.bool a0_2) := (blk_cell BK116.out 2).trans rfl; have hcz8_3 : w7.cell? ⟨gb116, 3, none⟩ = some (.bool a0_3) := (blk_cell BK116.out 3).trans rfl; have hcz8_4 : w7.cell? ⟨gb116, 4, none⟩ = some (.int .i64 a0_4) := (blk_cell BK116.out 4).trans rfl; have hfz8_0 := blk_frozen BK116.out 0; have hfz8_1 := blk_frozen BK116.out 1; have hfz8_2 := blk_frozen BK116.out 2; have hfz8_3 := blk_frozen BK116.out 3; have hfz8_4 := blk_frozen BK116.out 4))
        go_ret
        exact ⟨by first | rfl | (simp [errW_none, errW_some] <;> rfl) | (simp [*, errW_none, errW_some] <;> rfl), by repeat (first | (with_reducible first | exact HB.out | apply below_alloc | apply pw_below_drewN | apply below_drew1 | refine below_set ?_ GE116.out) | exact HB.out)⟩
    · rw [if_neg c3] at H
      have c3b0 : decide (a0_0 ≤ 3) = false := decide_eq_false c3
      clear c3
      obtain rfl := Option.some.inj H
      simp only [Option.some.injEq, Prod.mk.injEq] at H
      obtain ⟨rfl⟩ := H
      go_enter Tryd.func95, Tryd.ntmps95
      go_wp2_with (first | ((with_reducible refine gate_dst (N := 1) rfl ?_); refine box_event ?hg (N := 1) ?hd (cs := #[.int .i64 a0_0, .bool a0_1, .bool a0_2, .bool a0_3, .int .i64 a0_4]) (t := 58) ?hr ?_; (case hd => rfl); (case hg => rfl); (case hr => first | (go_simp; done) | (go_simp; rfl)); intro gb116 hg w9 hbox hb; have n0_ := Aside0.mk (below_step (by repeat (first | (with_reducible first | exact HB.out | apply below_alloc | apply pw_below_drewN | apply below_drew1) | exact HB.out)) hb); have n1_ := Aside0.mk (hbox); have n2_ := Aside0.mk ((by rw [hg]; exact (below_size (by repeat (first | (with_reducible first | exact HB.out | apply below_alloc | apply pw_below_drewN | apply below_drew1) | exact HB.out))) : w.heap.size ≤ gb116)); have n3_ := Aside0.mk ((by rw [hg]; exact (below_size (by repeat (first | (with_reducible first | exact HB.out | apply below_alloc | apply pw_below_drewN | apply below_drew1) | exact HB.out))) : w.heap.size ≤ gb116)); clear HB; have HB := n0_; have BK116 := n1_; have GW116 := n2_; have GE116 := n3_; clear n0_ n1_ n2_ n3_; clear hb hbox hg; have hcz10_0 : w9.cell? ⟨gb116, 0, none⟩ = some (.int .i64 a0_0) := (blk_cell BK116.out 0).trans rfl; have hcz10_1 : w9.cell? ⟨gb116, 1, none⟩ = some (.bool a0_1) := (blk_cell BK116.out 1).trans rfl; have hcz10_2 : w9.cell? ⟨gb116, 2, none⟩ = some (.bool a0_2) := (blk_cell BK116.out 2).trans rfl; have hcz10_3 : w9.cell? ⟨gb116, 3, none⟩ = some (.bool a0_3) := (blk_cell BK116.out 3).trans rfl; have hcz10_4 : w9.cell? ⟨gb116, 4, none⟩ = some (.int .i64 a0_4) := (blk_cell BK116.out 4).trans rfl; have hfz10_0 := blk_frozen BK116.out 0; have hfz10_1 := blk_frozen BK116.out 1; have hfz10_2 := blk_frozen BK116.out 2; have hfz10_3 := blk_frozen BK116.out 3; have hfz10_4 := blk_frozen BK116.out 4))
      go_ret
      exact ⟨by first | rfl | (simp [errW_none, errW_some] <;> rfl) | (simp [*, errW_none, errW_some] <;> rfl), by repeat (first | (with_reducible first | exact HB.out | apply below_alloc | apply pw_below_drewN | apply below_drew1 | refine below_set ?_ GE116.out) | exact HB.out)⟩
  · rw [if_neg c2] at H
    have c2b0 : decide (0 ≤ a0_0) = false := decide_eq_false c2
    clear c2
    obtain rfl := Option.some.inj H
    simp only [Option.some.injEq, Prod.mk.injEq] at H
    obtain ⟨rfl⟩ := H
    go_enter Tryd.func95, Tryd.ntmps95
    go_wp2_with (first | ((with_reducible refine gate_dst (N := 1) rfl ?_); refine box_event ?hg (N := 1) ?hd (cs := #[.int .i64 a0_0, .bool a0_1, .bool a0_2, .bool a0_3, .int .i64 a0_4]) (t := 58) ?hr ?_; (case hd => rfl); (case hg => rfl); (case hr => first | (go_simp; done) | (go_simp; rfl)); intro gb116 hg w11 hbox hb; have n0_ := Aside0.mk (below_step (by repeat (first | (with_reducible first | exact HB.out | apply below_alloc | apply pw_below_drewN | apply below_drew1) | exact HB.out)) hb); have n1_ := Aside0.mk (hbox); have n2_ := Aside0.mk ((by rw [hg]; exact (below_size (by repeat (first | (with_reducible first | exact HB.out | apply below_alloc | apply pw_below_drewN | apply below_drew1) | exact HB.out))) : w.heap.size ≤ gb116)); have n3_ := Aside0.mk ((by rw [hg]; exact (below_size (by repeat (first | (with_reducible first | exact HB.out | apply below_alloc | apply pw_below_drewN | apply below_drew1) | exact HB.out))) : w.heap.size ≤ gb116)); clear HB; have HB := n0_; have BK116 := n1_; have GW116 := n2_; have GE116 := n3_; clear n0_ n1_ n2_ n3_; clear hb hbox hg; have hcz12_0 : w11.cell? ⟨gb116, 0, none⟩ = some (.int .i64 a0_0) := (blk_cell BK116.out 0).trans rfl; have hcz12_1 : w11.cell? ⟨gb116, 1, none⟩ = some (.bool a0_1) := (blk_cell BK116.out 1).trans rfl; have hcz12_2 : w11.cell? ⟨gb116, 2, none⟩ = some (.bool a0_2) := (blk_cell BK116.out 2).trans rfl; have hcz12_3 : w11.cell? ⟨gb116, 3, none⟩ = some (.bool a0_3) := (blk_cell BK116.out 3).trans rfl; have hcz12_4 : w11.cell? ⟨gb116, 4, none⟩ = some (.int .i64 a0_4) := (blk_cell BK116.out 4).trans rfl; have hfz12_0 := blk_frozen BK116.out 0; have hfz12_1 := blk_frozen BK116.out 1; have hfz12_2 := blk_frozen BK116.out 2; have hfz12_3 := blk_frozen BK116.out 3; have hfz12_4 := blk_frozen BK116.out 4))
    go_ret
    exact ⟨by first | rfl | (simp [errW_none, errW_some] <;> rfl) | (simp [*, errW_none, errW_some] <;> rfl), by repeat (first | (with_reducible first | exact HB.out | apply below_alloc | apply pw_below_drewN | apply below_drew1 | refine below_set ?_ GE116.out) | exact HB.out)⟩

open Go.Maps
theorem strSz {a : ByteArray} (h : a.size ≤ 100) : 6 + a.size ≤ 9223372036854775807 ∧ 5 + a.size ≤ 9223372036854775807 := by omega
/-- The words of an option that may be. -/
def wordsL (lv : Int) (re sh wi : Bool) (mo : Int) : List ByteArray := addW wi ⟨#[119, 105, 100, 101]⟩ (addW sh ⟨#[115, 104, 97, 114, 101]⟩ (addW re ⟨#[114, 101, 117, 115, 101]⟩ (addW (mo != 4194304) (⟨#[109, 111, 115, 116, 61]⟩ ++ ⟨(Lib.itoa mo).toArray⟩) (addW (lv != 1) (⟨#[108, 101, 118, 101, 108, 61]⟩ ++ ⟨(Lib.itoa lv).toArray⟩) []))))
theorem addW_len (is : Bool) (s : ByteArray) (xs : List ByteArray) : (addW is s xs).length ≤ xs.length + 1 := by
  cases is with
  | true => rw [addW_t, List.length_append]; exact Nat.le_refl _
  | false => rw [addW_f]; exact Nat.le_succ _
theorem OwnS.below {B ob : Nat} {xs : List ByteArray} {w W : World} (h : OwnS B w ob xs) (hb : Below w.heap.size w W) : OwnS B W ob xs := by
  obtain ⟨h1, v, h2, h3, h4⟩ := h
  refine ⟨h1, v, blk_below h2 hb, ?_, h4⟩
  exact own_move h3 (fun k hk => hb.block k (by
    rcases h3.2 with ⟨rfl, _⟩ | ⟨g, cap, cur, rfl, hg, hh, r⟩
    · simp [Value.ownBlock] at hk
    · have : g = k := by simpa [Value.ownBlock] using hk
      subst this
      exact blk_lt hh))
theorem own_none {B : Nat} {ob : Nat} {W : World} (h : W.heap[ob]? = some (.cells #[.slice none 0 0] 56 (0, 0))) (hB : B ≤ ob) : OwnS B W ob [] :=
  ⟨hB, .slice none 0 0, h, ⟨by simp, .inl ⟨rfl, rfl⟩⟩, by simp [Value.ownBlock]⟩
/-- What holds between the closure's calls. -/
structure WF (w : World) (gb db ob B : Nat) (lv : Int) (re sh wi : Bool) (mo : Int) (l : List ByteArray) (W : World) : Prop where
  g : W.heap[gb]? = some (.cells #[.int .i64 lv, .bool re, .bool sh, .bool wi, .int .i64 mo] 58 (0, 0))
  d : W.heap[db]? = some (.cells #[.int .i64 1, .bool false, .bool false, .bool false, .int .i64 4194304] 58 (0, 0))
  o : OwnS B W ob l
  b : Below w.heap.size w W
  s : B ≤ W.heap.size
  n : w.heap.size ≤ B
theorem WF.below {w : World} {gb db ob B : Nat} {lv : Int} {re sh wi : Bool} {mo : Int} {l : List ByteArray} {W W2 : World} (h : WF w gb db ob B lv re sh wi mo l W) (hb : Below W.heap.size W W2) : WF w gb db ob B lv re sh wi mo l W2 :=
  ⟨blk_below h.g hb, blk_below h.d hb, h.o.below hb, below_step h.b hb, Nat.le_trans h.s (below_size hb), h.n⟩
theorem WF.drew {w : World} {gb db ob B : Nat} {lv : Int} {re sh wi : Bool} {mo : Int} {l : List ByteArray} {W : World} (h : WF w gb db ob B lv re sh wi mo l W) : WF w gb db ob B lv re sh wi mo l W.drew :=
  ⟨h.g, h.d, h.o, h.b.drew, h.s, h.n⟩
theorem WF.shut {w : World} {gb db ob B : Nat} {lv : Int} {re sh wi : Bool} {mo : Int} {l l2 : List ByteArray} {W W2 : World} (h : WF w gb db ob B lv re sh wi mo l W) (h1 : OwnS B W2 ob l2) (h2 : Below B W W2) (h3 : ∀ (k : Nat) (cs : Array Value), W.heap[k]? = some (.cells cs 58 (0, 0)) → W2.heap[k]? = some (.cells cs 58 (0, 0))) : WF w gb db ob B lv re sh wi mo l2 W2 :=
  ⟨h3 _ _ h.g, h3 _ _ h.d, h1, h.b.trans (h2.mono h.n), Nat.le_trans h.s h2.size, h.n⟩
theorem WF.start {w w4 w5 : World} {gb db ob B : Nat} {lv : Int} {re sh wi : Bool} {mo : Int} (hblk : w5.heap[db]? = some (.cells #[.int .i64 1, .bool false, .bool false, .bool false, .int .i64 4194304] 58 (0, 0))) (hb5 : Below w4.heap.size w4 w5) (b4 : Below w.heap.size w w4) (g4 : w4.heap[gb]? = some (.cells #[.int .i64 lv, .bool re, .bool sh, .bool wi, .int .i64 mo] 58 (0, 0))) (o4 : OwnS B w4 ob []) (s4 : B ≤ w4.heap.size) (hn : w.heap.size ≤ B) : WF w gb db ob B lv re sh wi mo [] w5 :=
  ⟨blk_below g4 hb5, hblk, o4.below hb5, below_step b4 hb5, Nat.le_trans s4 (below_size hb5), hn⟩
set_option maxHeartbeats 6400000 in
set_option maxRecDepth 100000 in
theorem words_walk (lv : Int) (re sh wi : Bool) (mo : Int) (w : World) (hL : Laid w) (hm : emit_May.f lv re sh wi mo = some true) (h1 : 0 ≤ lv ∧ lv ≤ 3) (h2 : 0 ≤ mo ∧ mo ≤ 4194304) (hz1 : (⟨(Lib.itoa lv).toArray⟩ : ByteArray).size ≤ 100) (hz2 : (⟨(Lib.itoa mo).toArray⟩ : ByteArray).size ≤ 100) :
    Calls Tryd.prog 47 #[.agg #[.int .i64 lv, .bool re, .bool sh, .bool wi, .int .i64 mo]] w fun e w' => ∃ v0_ : Value, e = .returned (.tuple #[v0_, .int .i64 0]) ∧ Kd.R Kd.string 9 w' w.heap.size (fun _ => True) v0_ (wordsL lv re sh wi mo) ∧ Below w.heap.size w w' := by
  have hu58 := Tryd.underlying58
  have HLd := Aside0.mk hL
  have HM := Aside0.mk (fun W => emit_May.calls lv re sh wi mo true W hm)
  have HI1 := Aside0.mk (fun (W : World) (h : Laid W) => itoa_calls lv (by omega) (by omega) W h)
  have HI2 := Aside0.mk (fun (W : World) (h : Laid W) => itoa_calls mo (by omega) (by omega) W h)
  obtain ⟨a, ha⟩ : ∃ a : ByteArray, (⟨(Lib.itoa lv).toArray⟩ : ByteArray) = a := ⟨_, rfl⟩
  obtain ⟨b, hb⟩ : ∃ a : ByteArray, (⟨(Lib.itoa mo).toArray⟩ : ByteArray) = a := ⟨_, rfl⟩
  have HW : Aside0 (wordsL lv re sh wi mo = addW wi ⟨#[119, 105, 100, 101]⟩ (addW sh ⟨#[115, 104, 97, 114, 101]⟩ (addW re ⟨#[114, 101, 117, 115, 101]⟩ (addW (mo != 4194304) (⟨#[109, 111, 115, 116, 61]⟩ ++ b) (addW (lv != 1) (⟨#[108, 101, 118, 101, 108, 61]⟩ ++ a) []))))) := ⟨by rw [← ha, ← hb]; rfl⟩
  rw [ha] at hz1 HI1
  rw [hb] at hz2 HI2
  have s1 := (strSz hz1).1
  have s2 := (strSz hz2).2
  clear hL hm h1 h2 hz1 hz2 ha hb
  go_enter Tryd.func47, Tryd.ntmps47
  go_wp2_with (first | ((with_reducible refine gate_dst (N := 1) rfl ?_); refine box_event rfl (N := 1) rfl (cs := #[.int .i64 lv, .bool re, .bool sh, .bool wi, .int .i64 mo]) (t := 58) (by first | (go_simp; done) | (go_simp; rfl)) ?_; intro gb hg w1 hblk hb3; have BG := Aside0.mk hblk; have HG := Aside0.mk hg; have HB0 := Aside0.mk hb3; clear hg hblk hb3; have z0 : w1.cell? ⟨gb, 0, none⟩ = some (.int .i64 lv) := blk_cell BG.out 0; have z1 : w1.cell? ⟨gb, 1, none⟩ = some (.bool re) := blk_cell BG.out 1; have z2 : w1.cell? ⟨gb, 2, none⟩ = some (.bool sh) := blk_cell BG.out 2; have z3 : w1.cell? ⟨gb, 3, none⟩ = some (.bool wi) := blk_cell BG.out 3; have z4 : w1.cell? ⟨gb, 4, none⟩ = some (.int .i64 mo) := blk_cell BG.out 4))
  refine Calls.mono (HM.out _) ?_
  rintro e w2 ⟨rfl, b2⟩
  have B2 := Aside0.mk (below_step HB0.out b2)
  have G2 := Aside0.mk (blk_below BG.out b2)
  clear b2 BG HB0 z0 z1 z2 z3 z4
  go_wp2_with (first | ((with_reducible refine gate_dst (N := 4) rfl ?_); refine box_event rfl (N := 4) rfl (cs := #[.slice none 0 0]) (t := 56) (by first | (go_simp; done) | (go_simp; rfl)) ?_; intro ob ho w3 hblk hb3; have BO := Aside0.mk hblk; have HO := Aside0.mk ho; have HB3 := Aside0.mk hb3; clear ho hblk hb3))
  refine Calls.mono (default_calls _) ?_
  rintro e w4 ⟨rfl, b4⟩
  have N4 := Aside0.mk (below_size B2.out)
  have B4 := Aside0.mk (below_step (below_step B2.out HB3.out) b4)
  have G4 := Aside0.mk (blk_below (blk_below G2.out HB3.out) b4)
  have O4 := Aside0.mk (OwnS.below (own_none (B := w2.heap.size) BO.out (by rw [HO.out]; exact Nat.le_refl _)) b4)
  have S4 := Aside0.mk (Nat.le_trans (below_size HB3.out) (below_size b4))
  clear b4 G2 BO HB3 B2
  go_wp2_with fail
  have F0 : WF w gb w4.heap.size ob w2.heap.size lv re sh wi mo [] (w4.alloc (.cells #[.int .i64 1, .bool false, .bool false, .bool false, .int .i64 4194304] 58 (0, 0))) := WF.start (blk_new _ _) (below_alloc (Below.refl _ _) _) B4.out G4.out O4.out S4.out N4.out
  clear B4 G4 O4 S4 N4 HM HO HG
  revert F0
  generalize w4.alloc (.cells #[.int .i64 1, .bool false, .bool false, .bool false, .int .i64 4194304] 58 (0, 0)) = w5
  generalize w4.heap.size = db
  generalize w2.heap.size = B
  intro F0
  clear w1 w2 w3 w4
  have F5 := Aside0.mk F0
  have n1 := F0.n
  have HLA : Aside0 (∀ (B : Nat) (l : List ByteArray) (W : World), WF w gb db ob B lv re sh wi mo l W → Laid W) := ⟨fun _ _ _ h => HLd.out.below h.b⟩
  have zz0 := blk_cell F0.g 0
  have zz1 := blk_cell F0.d 0
  clear F0
  rename_i Q1 K6 h6
  refine (fun (hC : ∀ W', WF w gb db ob B lv re sh wi mo (addW (lv != 1) (⟨#[108, 101, 118, 101, 108, 61]⟩ ++ a) []) W' → K6 ⟨#[(.agg #[.int .i64 lv, .bool re, .bool sh, .bool wi, .int .i64 mo] : Value), .pointer (some ⟨gb, 0, none⟩), .slice none 0 0, .int .i64 0, .pointer (some ⟨ob, 0, none⟩), .func (.func 96) #[] #[.pointer (some ⟨ob, 0, none⟩)], .pointer (some ⟨db, 0, none⟩), .agg #[.int .i64 lv, .bool re, .bool sh, .bool wi, .int .i64 mo], .bool true, .bool false, .func (.func 96) #[] #[.pointer (some ⟨ob, 0, none⟩)], .agg #[.int .i64 1, .bool false, .bool false, .bool false, .int .i64 4194304], .func (.func 96) #[] #[.pointer (some ⟨ob, 0, none⟩)], .pointer (some ⟨gb, 0, none⟩), .int .i64 lv, .pointer (some ⟨db, 0, none⟩), .int .i64 1, .bool (lv != 1), .pointer (some ⟨gb, 0, none⟩), .int .i64 lv, .string a, .string (⟨#[108, 101, 118, 101, 108, 61]⟩ ++ a), .tuple #[], undef, undef, undef, undef, undef, undef, undef, undef, undef, undef, undef, undef, undef, undef, undef, undef, undef, undef, undef, undef, undef, undef, undef, undef], []⟩ W') => ?main) ?cont
  case main =>
    go_region_with (first
      | (go_at_call 97; refine Calls.mono (HI1.out _ ?_) ?_; exact HLA.out B [] _ (WF.drew F5.out); rintro e w6 ⟨rfl, hb⟩; have F6 := Aside0.mk (WF.below (WF.drew F5.out) hb); clear hb; have y0 := blk_cell F6.out.g 0; have y1 := blk_cell F6.out.d 0)
      | (go_at_call 96; refine Calls.mono (words1_calls B ob [] _ _ _ F6.out.o (by simp) F6.out.s) ?_; rintro e w7 ⟨rfl, h1, h2, h3⟩; have F7 := Aside0.mk (WF.shut F6.out h1 h2 h3); clear h1 h2 h3))
    all_goals exact hC _ F7.out
  case cont =>
    intro w8 F8o
    have F8 := Aside0.mk F8o
    clear F5 zz0 zz1 HLA
    have HLA : Aside0 (∀ (W : World), WF w gb db ob B lv re sh wi mo (addW (lv != 1) (⟨#[108, 101, 118, 101, 108, 61]⟩ ++ a) []) W → Laid W) := ⟨fun _ h => HLd.out.below h.b⟩
    have LL : Aside0 ((addW (lv != 1) (⟨#[108, 101, 118, 101, 108, 61]⟩ ++ a) []).length ≤ 1000) := ⟨Nat.le_trans (addW_len _ _ _) (by simp)⟩
    have zz0 := blk_cell F8o.g 4
    have zz1 := blk_cell F8o.d 4
    clear F8o
    refine h6 _ _ ?_
    clear h6
    go_wp2_with fail
    rename_i K7 h7
    refine (fun (hC : ∀ W', WF w gb db ob B lv re sh wi mo (addW (mo != 4194304) (⟨#[109, 111, 115, 116, 61]⟩ ++ b) (addW (lv != 1) (⟨#[108, 101, 118, 101, 108, 61]⟩ ++ a) [])) W' → K7 ⟨#[(.agg #[.int .i64 lv, .bool re, .bool sh, .bool wi, .int .i64 mo] : Value), .pointer (some ⟨gb, 0, none⟩), .slice none 0 0, .int .i64 0, .pointer (some ⟨ob, 0, none⟩), .func (.func 96) #[] #[.pointer (some ⟨ob, 0, none⟩)], .pointer (some ⟨db, 0, none⟩), .agg #[.int .i64 lv, .bool re, .bool sh, .bool wi, .int .i64 mo], .bool true, .bool false, .func (.func 96) #[] #[.pointer (some ⟨ob, 0, none⟩)], .agg #[.int .i64 1, .bool false, .bool false, .bool false, .int .i64 4194304], .func (.func 96) #[] #[.pointer (some ⟨ob, 0, none⟩)], .pointer (some ⟨gb, 0, none⟩), .int .i64 lv, .pointer (some ⟨db, 0, none⟩), .int .i64 1, .bool (lv != 1), .pointer (some ⟨gb, 0, none⟩), .int .i64 lv, .string a, .string (⟨#[108, 101, 118, 101, 108, 61]⟩ ++ a), .tuple #[], .func (.func 96) #[] #[.pointer (some ⟨ob, 0, none⟩)], .pointer (some ⟨gb, 4, none⟩), .int .i64 mo, .pointer (some ⟨db, 4, none⟩), .int .i64 4194304, .bool (mo != 4194304), .pointer (some ⟨gb, 4, none⟩), .int .i64 mo, .string b, .string (⟨#[109, 111, 115, 116, 61]⟩ ++ b), .tuple #[], undef, undef, undef, undef, undef, undef, undef, undef, undef, undef, undef, undef, undef], []⟩ W') => ?main) ?cont
    case main =>
      go_region_with (first
        | (go_at_call 97; refine Calls.mono (HI2.out _ ?_) ?_; exact HLA.out _ (WF.drew F8.out); rintro e w9 ⟨rfl, hb⟩; have F9 := Aside0.mk (WF.below (WF.drew F8.out) hb); clear hb; have y0 := blk_cell F9.out.g 4; have y1 := blk_cell F9.out.d 4)
        | (go_at_call 96; refine Calls.mono (words1_calls B ob _ _ _ _ F9.out.o LL.out F9.out.s) ?_; rintro e w10 ⟨rfl, h1, h2, h3⟩; have F10 := Aside0.mk (WF.shut F9.out h1 h2 h3); clear h1 h2 h3))
      all_goals exact hC _ F10.out
    case cont =>
      intro w11 F11o
      have F11 := Aside0.mk F11o
      clear F8 zz0 zz1 HLA LL HI1 HI2
      have LL : Aside0 ((addW (mo != 4194304) (⟨#[109, 111, 115, 116, 61]⟩ ++ b) (addW (lv != 1) (⟨#[108, 101, 118, 101, 108, 61]⟩ ++ a) [])).length ≤ 998) := ⟨Nat.le_trans (addW_len _ _ _) (Nat.succ_le_succ (Nat.le_trans (addW_len _ _ _) (by simp)))⟩
      have zz0 := blk_cell F11o.g 1
      clear F11o
      refine h7 _ _ ?_
      clear h7
      go_wp2_with fail
      refine Calls.mono (words1_calls B ob _ _ _ _ F11.out.o (Nat.le_trans LL.out (by decide)) F11.out.s) ?_
      rintro e w12 ⟨rfl, h1, h2, h3⟩
      have F12 := Aside0.mk (WF.shut F11.out h1 h2 h3)
      have LM := Aside0.mk (Nat.le_trans (addW_len re ⟨#[114, 101, 117, 115, 101]⟩ _) (Nat.succ_le_succ LL.out))
      clear h1 h2 h3 F11 LL zz0
      have zz0 := blk_cell F12.out.g 2
      go_wp2_with fail
      refine Calls.mono (words1_calls B ob _ _ _ _ F12.out.o (Nat.le_trans LM.out (by decide)) F12.out.s) ?_
      rintro e w13 ⟨rfl, h1, h2, h3⟩
      have F13 := Aside0.mk (WF.shut F12.out h1 h2 h3)
      have LN := Aside0.mk (Nat.le_trans (addW_len sh ⟨#[115, 104, 97, 114, 101]⟩ _) (Nat.succ_le_succ LM.out))
      clear h1 h2 h3 F12 LM zz0
      have zz0 := blk_cell F13.out.g 3
      go_wp2_with fail
      refine Calls.mono (words1_calls B ob _ _ _ _ F13.out.o LN.out F13.out.s) ?_
      rintro e w14 ⟨rfl, h1, h2, h3⟩
      have F14 := Aside0.mk (WF.shut F13.out h1 h2 h3)
      clear h1 h2 h3 F13 zz0
      obtain ⟨h1, v, h2, h3, h4⟩ := F14.out.o
      have V2 := Aside0.mk h3
      have zz0 := blk_cell h2 0
      clear h1 h2 h3 h4
      go_wp2_with fail
      go_ret2
      refine ⟨v, rfl, ?_, F14.out.b⟩
      rw [HW.out]
      exact Kd.R_of_own (own_less V2.out F14.out.n) (fun _ _ => trivial)

set_option maxHeartbeats 6400000 in
set_option maxRecDepth 100000 in
theorem words_no (lv : Int) (re sh wi : Bool) (mo : Int) (w : World) (hm : emit_May.f lv re sh wi mo = some false) :
    Calls Tryd.prog 47 #[.agg #[.int .i64 lv, .bool re, .bool sh, .bool wi, .int .i64 mo]] w fun e w' => ∃ v0_ : Value, e = .returned (.tuple #[v0_, .int .i64 1]) ∧ Kd.R Kd.string 9 w' w.heap.size (fun _ => True) v0_ ([] : List ByteArray) ∧ Below w.heap.size w w' := by
  have hu58 := Tryd.underlying58
  have HM := Aside0.mk (fun W => emit_May.calls lv re sh wi mo false W hm)
  clear hm
  go_enter Tryd.func47, Tryd.ntmps47
  go_wp2_with (first | ((with_reducible refine gate_dst (N := 1) rfl ?_); refine box_event rfl (N := 1) rfl (cs := #[.int .i64 lv, .bool re, .bool sh, .bool wi, .int .i64 mo]) (t := 58) (by first | (go_simp; done) | (go_simp; rfl)) ?_; intro gb hg w1 hblk hb3; have BG := Aside0.mk hblk; have HG := Aside0.mk hg; have HB0 := Aside0.mk hb3; clear hg hblk hb3; have z0 : w1.cell? ⟨gb, 0, none⟩ = some (.int .i64 lv) := blk_cell BG.out 0; have z1 : w1.cell? ⟨gb, 1, none⟩ = some (.bool re) := blk_cell BG.out 1; have z2 : w1.cell? ⟨gb, 2, none⟩ = some (.bool sh) := blk_cell BG.out 2; have z3 : w1.cell? ⟨gb, 3, none⟩ = some (.bool wi) := blk_cell BG.out 3; have z4 : w1.cell? ⟨gb, 4, none⟩ = some (.int .i64 mo) := blk_cell BG.out 4))
  refine Calls.mono (HM.out _) ?_
  rintro e w2 ⟨rfl, b2⟩
  have B2 := Aside0.mk (below_step HB0.out b2)
  clear b2 BG HB0 z0 z1 z2 z3 z4
  go_wp2_with fail
  go_ret2
  exact ⟨_, rfl, Kd.R_of_own (xs := []) ⟨by simp [encs], .inl ⟨rfl, rfl⟩⟩ (fun _ _ => trivial), B2.out⟩
/-- What Words answers. -/
def wordsF (lv : Int) (re sh wi : Bool) (mo : Int) : Option (List ByteArray × Int) := (emit_May.f lv re sh wi mo).map fun m => if m = true then (wordsL lv re sh wi mo, 0) else ([], 1)
theorem itoaSz (z : Int) (h0 : 0 ≤ z) (h1 : z ≤ 4194304) : (⟨(Lib.itoa z).toArray⟩ : ByteArray).size ≤ 100 := by
  have h := Lib.itoa_length_le z (by omega) (by omega)
  show (Lib.itoa z).toArray.size ≤ 100
  rw [List.size_toArray]
  omega
theorem may_yes {lv : Int} {re sh wi : Bool} {mo : Int} (h : emit_May.f lv re sh wi mo = some true) : (0 ≤ lv ∧ lv ≤ 3) ∧ (0 ≤ mo ∧ mo ≤ 4194304) := by
  unfold emit_May.f at h
  split at h
  · split at h
    · split at h
      · simp at h; omega
      · simp at h
    · simp at h
  · simp at h
theorem words_calls (lv : Int) (re sh wi : Bool) (mo : Int) (r1 : List ByteArray) (r2 : Int) (w : World) (h : wordsF lv re sh wi mo = some (r1, r2)) (hL : Laid w) :
    Calls Tryd.prog 47 #[.agg #[.int .i64 lv, .bool re, .bool sh, .bool wi, .int .i64 mo]] w fun e w' => ∃ v0_ : Value, e = .returned (.tuple #[v0_, .int .i64 r2]) ∧ Kd.R Kd.string 9 w' w.heap.size (fun _ => True) v0_ r1 ∧ Below w.heap.size w w' := by
  unfold wordsF at h
  rcases hm : emit_May.f lv re sh wi mo with _ | m
  · rw [hm] at h; cases h
  · rw [hm] at h
    cases m with
    | true =>
      obtain ⟨h1, h2⟩ := may_yes hm
      simp at h
      obtain ⟨rfl, rfl⟩ := h
      exact words_walk lv re sh wi mo w hL hm h1 h2 (itoaSz lv h1.1 (by omega)) (itoaSz mo h2.1 h2.2)
    | false =>
      simp at h
      obtain ⟨rfl, rfl⟩ := h
      exact words_no lv re sh wi mo w hm

end Go.Proofs.YtdaofffedfccmaaDoor.XGlob
