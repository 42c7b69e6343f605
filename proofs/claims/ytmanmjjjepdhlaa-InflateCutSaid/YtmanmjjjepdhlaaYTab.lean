/- The tables of codes: their functions one by one. It has no conditions. -/
import Derived.Test.YtmanmjjjepdhlaaXInflateAnyx
import Derived.BigRegion
import Derived.RegionTactic
import Derived.ChangeAlike
import Derived.Deep.RegionWith
import Derived.Deep.RegionLaw
import Derived.Laws.Tables
import Derived.Deep.QuietTactic
import Derived.BigQuiet
import Derived.Deep.RegionHeld3
import Derived.Deep.AppendLies
import Derived.Deep.DrawnRows
import Derived.Laws.CopyOwn
import Derived.Deep.MidRow
import Derived.Laws.ResultCell
import Derived.ChangeKeysEq
import Derived.Laws.BitsAllLaws
namespace Go.Proofs.Ytmanmjjjepdhlaa.XPrefix
set_option linter.unusedVariables false
set_option linter.unusedSimpArgs false
open Go.RowKit Go.Proofs.YtmanmjjjepdhlaaW.PrintWords Go.Proofs.YtmanmjjjepdhlaaW.PrintLast Go.Proofs.YtmanmjjjepdhlaaW.PrintMore
attribute [local go_sem] max2_int min2_int max_two min_two max_three min_three max_four min_four

/-- A row of numbers. -/
def rowOf (n : Nat) (f : Nat → Int) : Array Value := ((List.range n).map fun i => Value.int .i64 (f i)).toArray
theorem rowOf_get (n : Nat) (f : Nat → Int) (i : Nat) (h : i < n) : (rowOf n f)[i]? = some (.int .i64 (f i)) := by
  unfold rowOf
  rw [List.getElem?_toArray, List.getElem?_map, List.getElem?_range h]
  rfl
def upd (f : Nat → Int) (i : Nat) (x : Int) : Nat → Int := fun j => if j = i then x else f j
theorem rowOf_set (n : Nat) (f : Nat → Int) (i : Nat) (x : Int) : (rowOf n f).setIfInBounds i (.int .i64 x) = rowOf n (upd f i x) := by
  apply Array.ext'
  apply List.ext_getElem
  · simp [rowOf]
  · intro j h1 h2
    simp [rowOf] at h1 h2
    simp [rowOf, upd, List.getElem_set]
    by_cases h : i = j
    · subst h; simp
    · rw [if_neg h, if_neg (fun e => h e.symm)]
theorem rowOf_congr (n : Nat) (f g : Nat → Int) (h : ∀ i, i < n → f i = g i) : rowOf n f = rowOf n g := by
  unfold rowOf
  congr 1
  apply List.map_congr_left
  intro i hi
  rw [h i (by simpa using hi)]
theorem rowOf_size (n : Nat) (f : Nat → Int) : (rowOf n f).size = n := by simp [rowOf]
theorem rowOf_one (n : Nat) (f : Nat → Int) : (rowOf n f).all (·.oneCell') = true := by
  simp [rowOf, Value.oneCell']
theorem results_cell_row_tmp {P : Program} {fn : Func} {p u : Tmp} {ty : TypeId} (h : fn.results = #[.cell p ty, .tmp u]) (tmps : Array Value) (w : World) (g : Nat) (t : TypeId) (cs : Array Value) (fr : Nat × Nat) (d : TypeDesc)
    (hp : tmps.getD p undef = .pointer (some ⟨g, 0, none⟩)) (hg : w.heap[g]? = some (.cells cs t fr))
    (hu : P.underlying ty = some d) (hd : (match d with | .struct _ | .array _ _ => true | _ => false) = true) (hi : (P.info? ty).map (·.size) = some cs.size) (v : Value) (hv : tmps.getD u undef = v) :
    (results fn tmps).run P w = .ok (.tuple #[.agg cs, v]) w := by
  rw [results_cell_tmp h, hp, hv]
  simp [asAddr, run_loadVar_row w g t ty cs fr d hg hu hd hi, Result.andThen]

/-- How often a number comes among the first k. -/
def cnt (l : List Int) : Nat → Nat → Int
  | 0, _ => 0
  | k + 1, j => cnt l k j + if rd l (k : Int) = (j : Int) then 1 else 0
theorem cnt_range (l : List Int) : ∀ (k j : Nat), 0 ≤ cnt l k j ∧ cnt l k j ≤ k
  | 0, _ => by simp [cnt]
  | k + 1, j => by
    have := cnt_range l k j
    rw [cnt]
    split <;> omega
theorem cnt_step (l : List Int) (k : Nat) (a : Int) (h0 : 0 ≤ a) (ha : rd l (k : Int) = a) : upd (cnt l k) a.toNat (cnt l k a.toNat + 1) = cnt l (k + 1) := by
  funext j
  unfold upd
  rw [cnt, ha]
  by_cases h : j = a.toNat
  · subst h
    rw [if_pos rfl, if_pos (by omega)]
  · rw [if_neg h, if_neg (by omega), Int.add_zero]
/-- Lengths that may be. -/
def OkL (l : List Int) : Prop := l.length ≤ 288 ∧ ∀ i : Nat, i < l.length → 0 ≤ rd l (i : Int) ∧ rd l (i : Int) ≤ 15

/-- What counts hands back: how often each comes, or that they may not be. -/
def CRes (l : List Int) (f : Nat → Int) (b : Bool) : Prop := (b = true ∧ OkL l ∧ f = cnt l l.length) ∨ (b = false ∧ ¬ OkL l)
def CPost (l : List Int) (w : World) (e : Ending) (w' : World) : Prop := (∃ f b, e = .returned (.tuple #[.agg (rowOf 16 f), .bool b]) ∧ CRes l f b) ∧ Below w.heap.size w w'

set_option maxHeartbeats 800000 in
set_option maxRecDepth 100000 in
theorem counts_calls (A0 : Option Addr) (c0 : Nat) (l : List Int) (w : World) (hr0 : Kd.C (Kd.int .i64) w A0 l.length l) :
    Calls Try.prog 129 #[.slice A0 l.length c0] w fun e w' => CPost l w e w' := by
  have HR0 := Aside0.mk hr0
  clear hr0
  by_cases h288 : 288 < l.length
  · have d0 : decide (288 < l.length) = true := decide_eq_true h288
    have d1 : decide (288 < (l.length : Int)) = true := decide_eq_true (by omega)
    have HN := Aside0.mk (show ¬ OkL l from fun h => absurd h.1 (by omega))
    go_enter Try.func129, Try.ntmps129
    go_wp2_with (first | ((with_reducible refine gate_dst (N := 2) rfl ?_); refine box_event rfl (N := 2) rfl (cs := rowOf 16 (fun _ => 0)) (t := 204) (by kernel_rfl) ?_; intro g2 hg w1 hblk hb; have G2 := Aside0.mk (Nat.le_of_eq hg.symm); have BK2 := Aside0.mk hblk; have HB := Aside0.mk hb; clear hg hblk hb) | ((with_reducible refine gate_dst (N := 4) rfl ?_); refine box_event rfl (N := 4) rfl (cs := rowOf 16 (fun _ => 0)) (t := 204) (by kernel_rfl) ?_; intro g hg w2 hblk hb; have GE := Aside0.mk (show w.heap.size ≤ g by have := below_size HB.out; omega); have GN := Aside0.mk (show g2 ≠ g by have := blk_lt BK2.out; omega); have BK := Aside0.mk hblk; have BK2' := Aside0.mk (blk_below BK2.out hb); have HB2 := Aside0.mk (below_step HB.out hb); clear hg hblk hb) | ((with_reducible refine gate_dst (N := 10) rfl ?_); refine wpList_load_row rfl 204 _ rfl g rfl 204 (rowOf 16 (fun _ => 0)) (0, 0) _ BK.out Try.underlying204 rfl (by kernel_rfl) ?_) | (refine wpList_store_row rfl 204 _ _ rfl g2 (rowOf 16 (fun _ => 0)) rfl rfl 204 (rowOf 16 (fun _ => 0)) BK2'.out (by kernel_rfl) rfl (rowOf_one 16 _) ?_))
    exact bodyPost_ret (results_cell_row_tmp (p := 2) (u := 3) rfl _ _ g2 204 (rowOf 16 (fun _ => 0)) (0, 0) _ rfl (setRow_heap _ g2 _ _ 204 (0, 0) BK2'.out) Try.underlying204 rfl (by kernel_rfl) _ rfl) rfl ⟨⟨_, false, rfl, .inr ⟨rfl, HN.out⟩⟩, Go.below_setRow HB2.out G2.out _⟩
  · have d0 : decide (288 < l.length) = false := decide_eq_false h288
    have d1 : decide (288 < (l.length : Int)) = false := decide_eq_false (by omega)
    have HL := Aside0.mk h288
    have hL2 : l.length ≤ 288 := by omega
    go_enter Try.func129, Try.ntmps129
    go_wp2_with (first | ((with_reducible refine gate_dst (N := 2) rfl ?_); refine box_event rfl (N := 2) rfl (cs := rowOf 16 (fun _ => 0)) (t := 204) (by kernel_rfl) ?_; intro g2 hg w1 hblk hb; have G2 := Aside0.mk (Nat.le_of_eq hg.symm); have BK2 := Aside0.mk hblk; have HB := Aside0.mk hb; clear hg hblk hb) | ((with_reducible refine gate_dst (N := 4) rfl ?_); refine box_event rfl (N := 4) rfl (cs := rowOf 16 (fun _ => 0)) (t := 204) (by kernel_rfl) ?_; intro g hg w2 hblk hb; have GE := Aside0.mk (show w.heap.size ≤ g by have := below_size HB.out; omega); have GN := Aside0.mk (show g2 ≠ g by have := blk_lt BK2.out; omega); have BK := Aside0.mk hblk; have BK2' := Aside0.mk (blk_below BK2.out hb); have HB2 := Aside0.mk (below_step HB.out hb); clear hg hblk hb))
    clear HB BK2 d0 d1 h288
    go_loopw [6, 13] (fun v6 v13 wr => ∃ k : Nat, k ≤ l.length ∧ v13 = .int .i64 (k : Int) ∧ Aside0 (wr.heap[g2]? = some (.cells (rowOf 16 (fun _ => 0)) 204 (0, 0))) ∧ Aside0 (wr.heap[g]? = some (.cells (rowOf 16 (cnt l k)) 204 (0, 0))) ∧ Aside0 (Below w.heap.size w wr) ∧ Aside0 (∀ i : Nat, i < k → 0 ≤ rd l (i : Int) ∧ rd l (i : Int) ≤ 15)) (fun _ v13 _ => l.length - (intOf v13).toNat)
    case atStart => exact ⟨0, by omega, rfl, BK2', ⟨by exact BK.out⟩, HB2, ⟨fun i h => absurd h (by omega)⟩⟩
    case round =>
      clear BK2' BK HB2
      obtain ⟨k, hk, rfl, BK2, BK, HB, HO⟩ := hrel
      by_cases hlt : k < l.length
      · have c0 : decide ((k : Int) < (l.length : Int)) = true := decide_eq_true (by omega)
        have p1 : 0 ≤ (k : Int) := by omega
        have q1 : (k : Int) < (l.length : Int) := by omega
        obtain ⟨ad, e1, hx0⟩ := Kd.at_int HR0.out (k : Int) p1 q1
        cases e1
        rw [Int.toNat_natCast] at hx0
        replace hx0 := (HB.out.cell (World.block_lt_of_cell? w _ hx0)).trans hx0
        obtain ⟨a, ha⟩ : ∃ a, rd l (k : Int) = a := ⟨_, rfl⟩
        rw [ha] at hx0
        have HA := Aside0.mk ha
        clear ha
        by_cases hneg : a < 0
        · have d0 : decide (a < 0) = true := decide_eq_true hneg
          have HN := Aside0.mk (show ¬ OkL l from fun h => absurd (h.2 k hlt).1 (by rw [HA.out]; omega))
          go_wp2_with (first | ((with_reducible refine gate_dst (N := 23) rfl ?_); refine wpList_load_row rfl 204 _ rfl g rfl 204 (rowOf 16 (cnt l k)) (0, 0) _ BK.out Try.underlying204 rfl (by rw [rowOf_size]; kernel_rfl) ?_) | (refine wpList_store_row rfl 204 _ _ rfl g2 (rowOf 16 (cnt l k)) rfl rfl 204 (rowOf 16 (fun _ => 0)) BK2.out (by rw [rowOf_size]; kernel_rfl) (by rw [rowOf_size, rowOf_size]) (rowOf_one 16 _) ?_))
          exact bodyPost_ret (results_cell_row_tmp (p := 2) (u := 3) rfl _ _ g2 204 (rowOf 16 (cnt l k)) (0, 0) _ rfl (setRow_heap _ g2 _ _ 204 (0, 0) BK2.out) Try.underlying204 rfl (by rw [rowOf_size]; kernel_rfl) _ rfl) rfl ⟨⟨_, false, rfl, .inr ⟨rfl, HN.out⟩⟩, Go.below_setRow HB.out G2.out _⟩
        · have d0 : decide (a < 0) = false := decide_eq_false hneg
          by_cases h15 : 15 < a
          · have d2 : decide (15 < a) = true := decide_eq_true h15
            have HN := Aside0.mk (show ¬ OkL l from fun h => absurd (h.2 k hlt).2 (by rw [HA.out]; omega))
            go_wp2_with (first | ((with_reducible refine gate_dst (N := 23) rfl ?_); refine wpList_load_row rfl 204 _ rfl g rfl 204 (rowOf 16 (cnt l k)) (0, 0) _ BK.out Try.underlying204 rfl (by rw [rowOf_size]; kernel_rfl) ?_) | (refine wpList_store_row rfl 204 _ _ rfl g2 (rowOf 16 (cnt l k)) rfl rfl 204 (rowOf 16 (fun _ => 0)) BK2.out (by rw [rowOf_size]; kernel_rfl) (by rw [rowOf_size, rowOf_size]) (rowOf_one 16 _) ?_))
            exact bodyPost_ret (results_cell_row_tmp (p := 2) (u := 3) rfl _ _ g2 204 (rowOf 16 (cnt l k)) (0, 0) _ rfl (setRow_heap _ g2 _ _ 204 (0, 0) BK2.out) Try.underlying204 rfl (by rw [rowOf_size]; kernel_rfl) _ rfl) rfl ⟨⟨_, false, rfl, .inr ⟨rfl, HN.out⟩⟩, Go.below_setRow HB.out G2.out _⟩
          · have d2 : decide (15 < a) = false := decide_eq_false h15
            have p2 : 0 ≤ a := by omega
            have q2 : a < 16 := by omega
            have hxr := cnt_range l k a.toNat
            have HH := Aside0.mk ((rowOf_set 16 (cnt l k) a.toNat (cnt l k a.toNat + 1)).trans (congrArg (rowOf 16) (cnt_step l k a p2 HA.out)))
            obtain ⟨x, hx⟩ : ∃ x, cnt l k a.toNat = x := ⟨_, rfl⟩
            have zc : wr.cell? ⟨g, a.toNat, none⟩ = some (.int .i64 x) := by rw [← hx]; exact (blk_cell BK.out a.toNat).trans (rowOf_get 16 _ _ (by omega))
            have yc := blk_frozen BK.out a.toNat
            rw [hx] at HH hxr
            have s1 := Aside0.mk (show wrap64 (x + 1) = x + 1 by have := HL.out; unfold wrap64; omega)
            clear hx hxr
            go_wp2
            go_roundw
            case rel => exact ⟨k + 1, by omega, by go_num, ⟨by refine blk_far ?_ (by exact GN.out) _; exact BK2.out⟩, ⟨by refine blk_put (cs := rowOf 16 (cnt l k)) ?_ a.toNat _ (by rw [s1.out]; exact HH.out); exact BK.out⟩, ⟨below_set HB.out GE.out⟩, ⟨fun i hi => by
              by_cases e : i = k
              · subst e; rw [HA.out]; exact ⟨by omega, by omega⟩
              · exact HO.out i (by omega)⟩⟩
            case measure => simp [intOf]; omega
      · have hk2 : k = l.length := by omega
        subst hk2
        have c0 : decide ((l.length : Int) < (l.length : Int)) = false := decide_eq_false (by omega)
        have HN := Aside0.mk (show OkL l from ⟨by have := HL.out; omega, HO.out⟩)
        go_wp2_with (first | ((with_reducible refine gate_dst (N := 30) rfl ?_); refine wpList_load_row rfl 204 _ rfl g rfl 204 (rowOf 16 (cnt l l.length)) (0, 0) _ BK.out Try.underlying204 rfl (by rw [rowOf_size]; kernel_rfl) ?_) | (refine wpList_store_row rfl 204 _ _ rfl g2 (rowOf 16 (cnt l l.length)) rfl rfl 204 (rowOf 16 (fun _ => 0)) BK2.out (by rw [rowOf_size]; kernel_rfl) (by rw [rowOf_size, rowOf_size]) (rowOf_one 16 _) ?_))
        exact bodyPost_ret (results_cell_row_tmp (p := 2) (u := 3) rfl _ _ g2 204 (rowOf 16 (cnt l l.length)) (0, 0) _ rfl (setRow_heap _ g2 _ _ 204 (0, 0) BK2.out) Try.underlying204 rfl (by rw [rowOf_size]; kernel_rfl) _ rfl) rfl ⟨⟨_, true, rfl, .inl ⟨rfl, HN.out, rfl⟩⟩, Go.below_setRow HB.out G2.out _⟩

/-- What is left of the room of n bits, less what the codes take. -/
def lf (c : Nat → Int) : Nat → Int
  | 0 => 1
  | n + 1 => 2 * lf c n - c (n + 1)
theorem lf_le (c : Nat → Int) (hc : ∀ j, 0 ≤ c j) : ∀ n, lf c n ≤ 2 ^ n
  | 0 => by simp [lf]
  | n + 1 => by
    have := lf_le c hc n
    have := hc (n + 1)
    rw [lf, Int.pow_succ]
    omega
theorem pow_le_15 (n : Nat) (h : n ≤ 16) : (2 : Int) ^ n ≤ 65536 := by
  have : n = 0 ∨ n = 1 ∨ n = 2 ∨ n = 3 ∨ n = 4 ∨ n = 5 ∨ n = 6 ∨ n = 7 ∨ n = 8 ∨ n = 9 ∨ n = 10 ∨ n = 11 ∨ n = 12 ∨ n = 13 ∨ n = 14 ∨ n = 15 ∨ n = 16 := by omega
  rcases this with rfl | rfl | rfl | rfl | rfl | rfl | rfl | rfl | rfl | rfl | rfl | rfl | rfl | rfl | rfl | rfl | rfl <;> decide
/-- What Check says. -/
def KRes (l : List Int) (k e : Int) : Prop :=
  (¬ OkL l ∧ k = 0 ∧ e = 1) ∨
  (OkL l ∧ (∃ j, j ≤ 15 ∧ lf (cnt l l.length) j < 0) ∧ k = 0 ∧ e = 10) ∨
  (OkL l ∧ (∀ j, j ≤ 15 → 0 ≤ lf (cnt l l.length) j) ∧
    ((l.length - cnt l l.length 0 = 0 ∧ k = 2 ∧ e = 0) ∨
     (l.length - cnt l l.length 0 ≠ 0 ∧ ¬ (l.length - cnt l l.length 0 ≠ 1) ∧ cnt l l.length 1 = 1 ∧ k = 1 ∧ e = 0) ∨
     (l.length - cnt l l.length 0 ≠ 0 ∧ (l.length - cnt l l.length 0 ≠ 1 ∨ cnt l l.length 1 ≠ 1) ∧ 0 < lf (cnt l l.length) 15 ∧ k = 0 ∧ e = 10) ∨
     (l.length - cnt l l.length 0 ≠ 0 ∧ (l.length - cnt l l.length 0 ≠ 1 ∨ cnt l l.length 1 ≠ 1) ∧ lf (cnt l l.length) 15 = 0 ∧ k = 0 ∧ e = 0)))
def KPost (l : List Int) (w : World) (e : Ending) (w' : World) : Prop := ∃ k er, e = .returned (.tuple #[.int .i64 k, .int .i64 er]) ∧ KRes l k er ∧ Below w.heap.size w w'

set_option maxHeartbeats 800000 in
set_option maxRecDepth 100000 in
theorem check_calls (A0 : Option Addr) (c0 : Nat) (l : List Int) (w : World) (hr0 : Kd.C (Kd.int .i64) w A0 l.length l) :
    Calls Try.prog 128 #[.slice A0 l.length c0] w fun e w' => KPost l w e w' := by
  have HR0 := Aside0.mk hr0
  clear hr0
  go_enter Try.func128, Try.ntmps128
  go_wp2_with fail
  refine (counts_calls A0 c0 l _ HR0.out).mono ?_
  rintro e w' ⟨⟨f, b, rfl, hC⟩, hB⟩
  have HB0 := Aside0.mk hB
  clear hB
  rcases hC with ⟨rfl, ok, rfl⟩ | ⟨rfl, nok⟩
  · have OK := Aside0.mk ok
    clear ok
    obtain ⟨c, hc⟩ : ∃ c, cnt l l.length = c := ⟨_, rfl⟩
    have CR := Aside0.mk (fun j => hc ▸ cnt_range l l.length j)
    rw [hc]
    have HC := Aside0.mk hc
    clear hc
    go_wp2_with (first | ((with_reducible refine gate_dst (N := 4) rfl ?_); refine box_event rfl (N := 4) rfl (cs := rowOf 16 (fun _ => 0)) (t := 204) (by kernel_rfl) ?_; intro g hg w2 hblk hb; have GE := Aside0.mk (show w.heap.size ≤ g by have := below_size HB0.out; omega); have BK := Aside0.mk hblk; have HB2 := Aside0.mk (below_step HB0.out hb); clear hg hblk hb) | (refine wpList_store_row rfl 204 _ _ rfl g (rowOf 16 c) rfl rfl 204 (rowOf 16 (fun _ => 0)) BK.out (by rw [rowOf_size]; kernel_rfl) (by rw [rowOf_size, rowOf_size]) (rowOf_one 16 _) ?_; have BK2 := Aside0.mk (setRow_heap w2 g _ (rowOf 16 c) 204 (0, 0) BK.out); have HB3 := Aside0.mk (below_setRow HB2.out GE.out (rowOf 16 c))))
    clear HB2 BK HB0
    go_loopw [6, 7] (fun v6 v7 wr => ∃ k : Nat, k ≤ 15 ∧ v7 = .int .i64 ((k : Int) + 1) ∧ v6 = .int .i64 (lf c k) ∧ Aside0 (wr.heap[g]? = some (.cells (rowOf 16 c) 204 (0, 0))) ∧ Aside0 (Below w.heap.size w wr) ∧ Aside0 (∀ j, j ≤ k → 0 ≤ lf c j)) (fun _ v7 _ => 17 - (intOf v7).toNat)
    case atStart => exact ⟨0, by omega, rfl, rfl, BK2, HB3, ⟨fun j h => by rw [show j = 0 from by omega]; simp [lf]⟩⟩
    case round =>
      clear BK2 HB3
      obtain ⟨k, hk, rfl, rfl, BK2, HB3, HP⟩ := hrel
      have l0 := HP.out k (Nat.le_refl _)
      have l1 := Int.le_trans (lf_le c (fun j => (CR.out j).1) k) (pow_le_15 k (by omega))
      by_cases hlt : k < 15
      · have d0 : decide ((k : Int) + 1 ≤ 15) = true := decide_eq_true (by omega)
        have p1 : 0 ≤ (k : Int) + 1 := by omega
        have q1 : (k : Int) + 1 < 16 := by omega
        have zc : wr.cell? ⟨g, k + 1, none⟩ = some (.int .i64 (c (k + 1))) := (blk_cell BK2.out (k + 1)).trans (rowOf_get 16 _ _ (by omega))
        have hcr := (CR.out (k + 1))
        have hl288 := OK.out.1
        obtain ⟨x, hx⟩ : ∃ x, c (k + 1) = x := ⟨_, rfl⟩
        obtain ⟨y, hy⟩ : ∃ y, lf c k = y := ⟨_, rfl⟩
        have HL := Aside0.mk (show lf c (k + 1) = 2 * y - x by rw [lf, hx, hy])
        rw [hx] at zc hcr
        rw [hy] at l0 l1
        rw [hy]
        clear hx hy
        have s1 : wrap64 (2 * y) = 2 * y := by unfold wrap64; omega
        have s2 : wrap64 (2 * y - x) = 2 * y - x := by unfold wrap64; omega
        by_cases hneg : 2 * y - x < 0
        · have d1 : decide (2 * y - x < 0) = true := decide_eq_true hneg
          have HN := Aside0.mk (show KRes l 0 10 from .inr (.inl ⟨OK.out, ⟨k + 1, by omega, by rw [HC.out, HL.out]; exact hneg⟩, rfl, rfl⟩))
          go_wp2
          go_ret2
          exact ⟨_, _, rfl, HN.out, HB3.out⟩
        · have d1 : decide (2 * y - x < 0) = false := decide_eq_false hneg
          go_wp2
          go_roundw
          case rel => exact ⟨k + 1, by omega, by go_num, by rw [HL.out], BK2, HB3, ⟨fun j hj => by
            by_cases e : j = k + 1
            · rw [e, HL.out]; omega
            · exact HP.out j (by omega)⟩⟩
          case measure => simp [intOf]; omega
      · have hk15 : k = 15 := by omega
        subst hk15
        have d0 : decide (((15 : Nat) : Int) + 1 ≤ 15) = false := by decide
        have zc0 : wr.cell? ⟨g, 0, none⟩ = some (.int .i64 (c 0)) := (blk_cell BK2.out 0).trans (rowOf_get 16 _ _ (by omega))
        have zc1 : wr.cell? ⟨g, 1, none⟩ = some (.int .i64 (c 1)) := (blk_cell BK2.out 1).trans (rowOf_get 16 _ _ (by omega))
        have hc0 := CR.out 0
        have hl288 := OK.out.1
        obtain ⟨x0, hx0⟩ : ∃ x, c 0 = x := ⟨_, rfl⟩
        obtain ⟨x1, hx1⟩ : ∃ x, c 1 = x := ⟨_, rfl⟩
        obtain ⟨y, hy⟩ : ∃ y, lf c 15 = y := ⟨_, rfl⟩
        rw [hy] at l0 l1
        rw [hy]
        rw [hx0] at zc0 hc0
        rw [hx1] at zc1
        have HZ := Aside0.mk (show (l.length : Int) - cnt l l.length 0 = (l.length : Int) - x0 by rw [HC.out, hx0])
        have HX := Aside0.mk (show cnt l l.length 1 = x1 by rw [HC.out]; exact hx1)
        have HY := Aside0.mk (show lf (cnt l l.length) 15 = y by rw [HC.out]; exact hy)
        have HPP := Aside0.mk (show ∀ j, j ≤ 15 → 0 ≤ lf (cnt l l.length) j by rw [HC.out]; exact HP.out)
        clear hx0 hx1 hy HP
        by_cases hz0 : (l.length : Int) - x0 = 0
        · have HN := Aside0.mk (show KRes l 2 0 from .inr (.inr ⟨OK.out, HPP.out, .inl ⟨by rw [HZ.out]; exact hz0, rfl, rfl⟩⟩))
          have e1 : ((l.length : Int) - x0 == 0) = true := beq_iff_eq.mpr hz0
          go_wp2
          go_ret2
          exact ⟨_, _, rfl, HN.out, HB3.out⟩
        · have e1 : ((l.length : Int) - x0 == 0) = false := beq_eq_false_iff_ne.mpr hz0
          by_cases hz1 : (l.length : Int) - x0 = 1
          · have e3 : ((l.length : Int) - x0 == 1) = true := beq_iff_eq.mpr hz1
            by_cases hx11 : x1 = 1
            · have e4 : (x1 == 1) = true := beq_iff_eq.mpr hx11
              have HN := Aside0.mk (show KRes l 1 0 from .inr (.inr ⟨OK.out, HPP.out, .inr (.inl ⟨by rw [HZ.out]; exact hz0, by rw [HZ.out]; exact fun h => h hz1, by rw [HX.out]; exact hx11, rfl, rfl⟩)⟩))
              go_wp2
              go_ret2
              exact ⟨_, _, rfl, HN.out, HB3.out⟩
            · have e4 : (x1 == 1) = false := beq_eq_false_iff_ne.mpr hx11
              by_cases hy0 : 0 < y
              · have e5 : decide (0 < y) = true := decide_eq_true hy0
                have HN := Aside0.mk (show KRes l 0 10 from .inr (.inr ⟨OK.out, HPP.out, .inr (.inr (.inl ⟨by rw [HZ.out]; exact hz0, .inr (by rw [HX.out]; exact hx11), by rw [HY.out]; exact hy0, rfl, rfl⟩))⟩))
                go_wp2
                go_ret2
                exact ⟨_, _, rfl, HN.out, HB3.out⟩
              · have e5 : decide (0 < y) = false := decide_eq_false hy0
                have HN := Aside0.mk (show KRes l 0 0 from .inr (.inr ⟨OK.out, HPP.out, .inr (.inr (.inr ⟨by rw [HZ.out]; exact hz0, .inr (by rw [HX.out]; exact hx11), by rw [HY.out]; omega, rfl, rfl⟩))⟩))
                go_wp2
                go_ret2
                exact ⟨_, _, rfl, HN.out, HB3.out⟩
          · have e3 : ((l.length : Int) - x0 == 1) = false := beq_eq_false_iff_ne.mpr hz1
            by_cases hy0 : 0 < y
            · have e5 : decide (0 < y) = true := decide_eq_true hy0
              have HN := Aside0.mk (show KRes l 0 10 from .inr (.inr ⟨OK.out, HPP.out, .inr (.inr (.inl ⟨by rw [HZ.out]; exact hz0, .inl (by rw [HZ.out]; exact hz1), by rw [HY.out]; exact hy0, rfl, rfl⟩))⟩))
              go_wp2
              go_ret2
              exact ⟨_, _, rfl, HN.out, HB3.out⟩
            · have e5 : decide (0 < y) = false := decide_eq_false hy0
              have HN := Aside0.mk (show KRes l 0 0 from .inr (.inr ⟨OK.out, HPP.out, .inr (.inr (.inr ⟨by rw [HZ.out]; exact hz0, .inl (by rw [HZ.out]; exact hz1), by rw [HY.out]; omega, rfl, rfl⟩))⟩))
              go_wp2
              go_ret2
              exact ⟨_, _, rfl, HN.out, HB3.out⟩
  · have HN := Aside0.mk (show KRes l 0 1 from .inl ⟨nok, rfl, rfl⟩)
    clear nok
    go_wp2_with (first | ((with_reducible refine gate_dst (N := 4) rfl ?_); refine box_event rfl (N := 4) rfl (cs := rowOf 16 (fun _ => 0)) (t := 204) (by kernel_rfl) ?_; intro g hg w2 hblk hb; have GE := Aside0.mk (show w.heap.size ≤ g by have := below_size HB0.out; omega); have BK := Aside0.mk hblk; have HB2 := Aside0.mk (below_step HB0.out hb); clear hg hblk hb) | (refine wpList_store_row rfl 204 _ _ rfl g (rowOf 16 f) rfl rfl 204 (rowOf 16 (fun _ => 0)) BK.out (by rw [rowOf_size]; kernel_rfl) (by rw [rowOf_size, rowOf_size]) (rowOf_one 16 _) ?_; have HB3 := Aside0.mk (below_setRow HB2.out GE.out (rowOf 16 f))))
    go_ret2
    exact ⟨_, _, rfl, HN.out, HB3.out⟩

theorem R_far_ty {W : World} {base : Nat} {v : Value} {xs : List Int} (h : Kd.R (Kd.int .i64) 3 W base (fun _ => True) v xs) {g t : Nat} {cells : Array Value} (hb : W.heap[g]? = some (.cells cells t (0, 0))) (ht : 3 ≠ t) (j : Nat) (u : Value) :
    Kd.R (Kd.int .i64) 3 (W.setCell ⟨g, j, none⟩ u) base (fun _ => True) v xs :=
  Kd.R_mono (Kd.R_far (Kd.R_far1 h rfl (Kd.R_ne h hb ht)) (p := ⟨g, j, none⟩) (fun k hk => hk.2) u) (fun _ _ => trivial)
/-- n numbers. -/
def listOf (n : Nat) (f : Nat → Int) : List Int := (List.range n).map f
theorem listOf_len (n : Nat) (f : Nat → Int) : (listOf n f).length = n := by simp [listOf]
theorem listOf_set (n : Nat) (f : Nat → Int) (i : Nat) (x : Int) : (listOf n f).set i x = listOf n (upd f i x) := by
  apply List.ext_getElem
  · simp [listOf]
  · intro j h1 h2
    simp [listOf] at h1 h2
    simp [listOf, upd, List.getElem_set]
    by_cases h : i = j
    · subst h; simp
    · rw [if_neg h, if_neg (fun e => h e.symm)]
theorem listOf_congr (n : Nat) (f g : Nat → Int) (h : ∀ i, i < n → f i = g i) : listOf n f = listOf n g := by
  unfold listOf
  apply List.map_congr_left
  intro i hi
  rw [h i (by simpa using hi)]
theorem listOf_zero (n : Nat) : List.replicate n (0 : Int) = listOf n (fun _ => 0) := by
  apply List.ext_getElem
  · simp [listOf]
  · intro i h1 h2
    simp [listOf]
theorem rd_listOf (n : Nat) (f : Nat → Int) (i : Nat) (h : i < n) : rd (listOf n f) (i : Int) = f i := by
  unfold rd
  rw [Int.toNat_natCast, List.getD_eq_getElem?_getD, listOf, List.getElem?_map, List.getElem?_range h]
  rfl

/-- The first number of each length. -/
def nx (c : Nat → Int) : Nat → Int
  | 0 => 0
  | 1 => 0
  | n + 2 => 2 * (nx c (n + 1) + c (n + 1))
theorem nx_range (c : Nat → Int) (hc : ∀ j, 0 ≤ c j ∧ c j ≤ 288) : ∀ n, 0 ≤ nx c n ∧ nx c n ≤ 576 * (2 ^ n - 1)
  | 0 => by simp [nx]
  | 1 => by simp [nx]
  | n + 2 => by
    have := nx_range c hc (n + 1)
    have := hc (n + 1)
    rw [nx, Int.pow_succ]
    omega
theorem nx_le (c : Nat → Int) (hc : ∀ j, 0 ≤ c j ∧ c j ≤ 288) (n : Nat) (h : n ≤ 16) : 0 ≤ nx c n ∧ nx c n ≤ 40000000 := by
  have := nx_range c hc n
  have := pow_le_15 n h
  omega
/-- The code of the i-th symbol. -/
def cod (l : List Int) (i : Nat) : Int := if 0 < rd l (i : Int) then nx (cnt l l.length) (rd l (i : Int)).toNat + cnt l i (rd l (i : Int)).toNat else 0
def outAt (l : List Int) (i : Nat) : List Int := listOf l.length (fun j => if j < i then cod l j else 0)
def codL (l : List Int) : List Int := listOf l.length (cod l)
/-- The next number of each length, behind i symbols. -/
def nxt (l : List Int) (i : Nat) (j : Nat) : Int := nx (cnt l l.length) j + if j = 0 then 0 else cnt l i j
theorem nxt_hit (l : List Int) (i : Nat) (a : Int) (h0 : 0 < a) (ha : rd l (i : Int) = a) : upd (nxt l i) a.toNat (nxt l i a.toNat + 1) = nxt l (i + 1) := by
  funext j
  unfold upd nxt
  rw [cnt, ha]
  by_cases h : j = a.toNat
  · subst h
    rw [if_pos rfl, if_neg (by omega), if_neg (by omega), if_pos (by omega)]
    omega
  · rw [if_neg h, if_neg (show ¬ a = (j : Int) by omega), Int.add_zero]
theorem nxt_miss (l : List Int) (i : Nat) (ha : rd l (i : Int) = 0) : nxt l (i + 1) = nxt l i := by
  funext j
  unfold nxt
  rw [cnt, ha]
  by_cases h : j = 0
  · rw [if_pos h, if_pos h]
  · rw [if_neg h, if_neg h, if_neg (show ¬ (0 : Int) = (j : Int) by omega), Int.add_zero]
theorem out_hit (l : List Int) (i : Nat) (a : Int) (h0 : 0 < a) (ha : rd l (i : Int) = a) : (outAt l i).set i (nxt l i a.toNat) = outAt l (i + 1) := by
  unfold outAt
  rw [listOf_set]
  refine listOf_congr _ _ _ (fun j hj => ?_)
  show (if j = i then nxt l i a.toNat else if j < i then cod l j else 0) = if j < i + 1 then cod l j else 0
  by_cases h : j = i
  · subst h
    rw [if_pos rfl, if_pos (by omega), cod, ha, if_pos h0, nxt, if_neg (by omega)]
  · rw [if_neg h]
    by_cases h2 : j < i
    · rw [if_pos h2, if_pos (by omega)]
    · rw [if_neg h2, if_neg (by omega)]
theorem out_miss (l : List Int) (i : Nat) (ha : rd l (i : Int) = 0) : outAt l (i + 1) = outAt l i := by
  refine listOf_congr _ _ _ (fun j hj => ?_)
  by_cases h : j = i
  · subst h
    rw [if_pos (by omega), if_neg (by omega), cod, ha, if_neg (by omega)]
  · by_cases h2 : j < i
    · rw [if_pos h2, if_pos (by omega)]
    · rw [if_neg h2, if_neg (by omega)]
theorem out_end (l : List Int) : outAt l l.length = codL l := listOf_congr _ _ _ (fun j hj => by rw [if_pos hj])
def gAt (c : Nat → Int) (k : Nat) (j : Nat) : Int := if j ≤ k + 1 then nx c j else 0
theorem gAt_zero (c : Nat → Int) : rowOf 17 (fun _ => 0) = rowOf 17 (gAt c 0) := rowOf_congr _ _ _ (fun i hi => by
  unfold gAt
  by_cases h : i ≤ 0 + 1
  · rw [if_pos h]
    have : i = 0 ∨ i = 1 := by omega
    rcases this with rfl | rfl <;> rfl
  · rw [if_neg h])
theorem gAt_step (c : Nat → Int) (k : Nat) : upd (gAt c k) (k + 2) (2 * (nx c (k + 1) + c (k + 1))) = gAt c (k + 1) := by
  funext j
  unfold upd gAt
  by_cases h : j = k + 2
  · subst h
    rw [if_pos rfl, if_pos (by omega), nx]
  · rw [if_neg h]
    by_cases h2 : j ≤ k + 1
    · rw [if_pos h2, if_pos (by omega)]
    · rw [if_neg h2, if_neg (by omega)]
theorem gAt_end (l : List Int) : rowOf 17 (gAt (cnt l l.length) 15) = rowOf 17 (nxt l 0) := rowOf_congr _ _ _ (fun i hi => by
  unfold gAt nxt
  rw [if_pos (by omega)]
  simp [cnt])
def CodPost (l : List Int) (w : World) (e : Ending) (w' : World) : Prop := ∃ v, e = .returned v ∧ Kd.R (Kd.int .i64) 3 w' w.heap.size (fun _ => True) v (codL l) ∧ Below w.heap.size w w'

set_option maxHeartbeats 800000 in
set_option maxRecDepth 100000 in
theorem codes_calls (A0 : Option Addr) (c0 : Nat) (l : List Int) (w : World) (hr0 : Kd.C (Kd.int .i64) w A0 l.length l) (ok : OkL l) :
    Calls Try.prog 130 #[.slice A0 l.length c0] w fun e w' => CodPost l w e w' := by
  have HR0 := Aside0.mk hr0
  have OK := Aside0.mk ok
  clear hr0 ok
  have hl288 := OK.out.1
  go_enter Try.func130, Try.ntmps130
  go_wp2_with fail
  refine (counts_calls A0 c0 l _ HR0.out).mono ?_
  rintro e w' ⟨⟨f, b, rfl, hC⟩, hB⟩
  have HB0 := Aside0.mk hB
  clear hB
  rcases hC with ⟨rfl, ok, rfl⟩ | ⟨rfl, nok⟩
  case inr => exact absurd OK.out nok
  clear ok
  obtain ⟨c, hc⟩ : ∃ c, cnt l l.length = c := ⟨_, rfl⟩
  have CR := Aside0.mk (fun j => (show 0 ≤ c j ∧ c j ≤ 288 from by have := hc ▸ cnt_range l l.length j; omega))
  rw [hc]
  have HC := Aside0.mk hc
  clear hc
  go_wp2_with (first | ((with_reducible refine gate_dst (N := 3) rfl ?_); refine box_event rfl (N := 3) rfl (cs := rowOf 16 (fun _ => 0)) (t := 204) (by kernel_rfl) ?_; intro g3 hg w2 hblk hb; have GE := Aside0.mk (show w.heap.size ≤ g3 by have := below_size HB0.out; omega); have BK := Aside0.mk hblk; have HB2 := Aside0.mk (below_step HB0.out hb); clear hg hblk hb) | ((with_reducible refine gate_dst (N := 5) rfl ?_); refine box_event rfl (N := 5) rfl (cs := rowOf 17 (fun _ => 0)) (t := 219) (by kernel_rfl) ?_; intro g5 hg w3 hblk hb; have GE5 := Aside0.mk (show w.heap.size ≤ g5 by have := below_size HB3.out; omega); have BK5 := Aside0.mk hblk; have BK3 := Aside0.mk (blk_below BK2.out hb); have HB4 := Aside0.mk (below_step HB3.out hb); have zc := (blk_cell BK3.out 0).trans (rowOf_get 16 c 0 (by omega)); have yc := blk_frozen BK3.out 0; clear hg hblk hb) | (refine wpList_store_row rfl 204 _ _ rfl g3 (rowOf 16 c) rfl rfl 204 (rowOf 16 (fun _ => 0)) BK.out (by rw [rowOf_size]; kernel_rfl) (by rw [rowOf_size, rowOf_size]) (rowOf_one 16 _) ?_; have BK2 := Aside0.mk (setRow_heap w2 g3 _ (rowOf 16 c) 204 (0, 0) BK.out); have HB3 := Aside0.mk (below_setRow HB2.out GE.out (rowOf 16 c))))
  clear zc yc HB0 HB2 HB3 BK2 BK
  have N35 := Aside0.mk (blk_ne BK3.out BK5.out (by decide))
  have HU := Aside0.mk (rowOf_set 16 c 0 0)
  go_loopw [6] (fun v6 wr => ∃ k : Nat, k ≤ 15 ∧ v6 = .int .i64 ((k : Int) + 1) ∧ Aside0 (wr.heap[g3]? = some (.cells (rowOf 16 (upd c 0 0)) 204 (0, 0))) ∧ Aside0 (wr.heap[g5]? = some (.cells (rowOf 17 (gAt c k)) 219 (0, 0))) ∧ Aside0 (Below w.heap.size w wr)) (fun v6 _ => 17 - (intOf v6).toNat)
  case atStart => exact ⟨0, by omega, rfl, ⟨by refine blk_put (cs := rowOf 16 c) ?_ 0 _ HU.out; exact BK3.out⟩, ⟨by refine blk_far ?_ (by exact fun e => N35.out e.symm) _; rw [← gAt_zero]; exact BK5.out⟩, ⟨below_set HB4.out GE.out⟩⟩
  case round =>
    clear BK3 BK5 HB4
    obtain ⟨k, hk, rfl, BK3, BK5, HB⟩ := hrel
    by_cases hlt : k < 15
    · have d0 : decide ((k : Int) + 1 ≤ 15) = true := decide_eq_true (by omega)
      have p1 : 0 ≤ (k : Int) + 1 := by omega
      have q1 : (k : Int) + 1 < 16 := by omega
      have q2 : (k : Int) + 1 < 17 := by omega
      have p3 : 0 ≤ (k : Int) + 2 := by omega
      have q3 : (k : Int) + 2 < 17 := by omega
      have zc : wr.cell? ⟨g3, k + 1, none⟩ = some (.int .i64 (c (k + 1))) := (blk_cell BK3.out (k + 1)).trans (rowOf_get 16 _ _ (by omega))
      have zn : wr.cell? ⟨g5, k + 1, none⟩ = some (.int .i64 (nx c (k + 1))) := (blk_cell BK5.out (k + 1)).trans ((rowOf_get 17 _ _ (by omega)).trans (by rw [gAt, if_pos (by omega)]))
      have zn2 : wr.cell? ⟨g5, k + 2, none⟩ = some (.int .i64 (gAt c k (k + 2))) := (blk_cell BK5.out (k + 2)).trans (rowOf_get 17 _ _ (by omega))
      have y2 := blk_frozen BK5.out (k + 2)
      have r1 := CR.out (k + 1)
      have r2 := nx_le c CR.out (k + 1) (by omega)
      have HG := Aside0.mk ((rowOf_set 17 (gAt c k) (k + 2) (2 * (nx c (k + 1) + c (k + 1)))).trans (congrArg (rowOf 17) (gAt_step c k)))
      obtain ⟨x, hx⟩ : ∃ x, c (k + 1) = x := ⟨_, rfl⟩
      obtain ⟨y, hy⟩ : ∃ y, nx c (k + 1) = y := ⟨_, rfl⟩
      rw [hx] at zc r1 HG
      rw [hy] at zn r2 HG
      clear hx hy
      go_wp2
      go_region
      all_goals
        go_wp2
        go_roundw
        case rel => exact ⟨k + 1, by omega, by go_num, ⟨by refine blk_drew ?_; refine blk_far ?_ (by exact N35.out) _; exact BK3.out⟩, ⟨by refine blk_drew ?_; refine blk_put (cs := rowOf 17 (gAt c k)) ?_ (k + 2) _ (by rw [Int.mul_comm]; exact HG.out); exact BK5.out⟩, ⟨by apply below_drew1; exact below_set HB.out GE5.out⟩⟩
        case measure => simp [intOf]; omega
    · have hk15 : k = 15 := by omega
      subst hk15
      have d0 : decide (((15 : Nat) : Int) + 1 ≤ 15) = false := by decide
      have hl0 : 0 ≤ (l.length : Int) := by omega
      have hl1 : (l.length : Int).toNat * 8 ≤ 281474976710656 := by omega
      have HE : Aside0 (rowOf 17 (gAt c 15) = rowOf 17 (nxt l 0)) := ⟨by rw [← HC.out]; exact gAt_end l⟩
      have HZ : Aside0 (List.replicate (l.length : Int).toNat (0 : Int) = outAt l 0) := ⟨by rw [Int.toNat_natCast, listOf_zero]; exact listOf_congr _ _ _ (fun j hj => by rw [if_neg (by omega)])⟩
      go_wp2_with (first | ((with_reducible refine gate_dst (N := 33) rfl ?_); refine Kd.R_make (Kd.int .i64) _ 3 rfl (N := 33) rfl 22 _ _ rfl (l.length : Int) rfl rfl Try.underlying22 (.int .i64 0) 8 XInflateAny.info3 rfl (by decide) (by omega) 0 (ok := fun _ => True) (okp := fun _ => True) rfl (fun _ hk => hk) trivial hl0 hl1 (Below.refl _ _) (Nat.le_refl _) ?_; intro v7 w4 ho5 hb hg_ hnew_; rw [HZ.out] at ho5; have HO := Aside0.mk (Kd.R_lower ho5 (below_size HB.out)); have HB5 := Aside0.mk (below_step HB.out hb); have BK6 := Aside0.mk (blk_below BK5.out hb); clear hb ho5 hg_ hnew_))
      clear HB BK5 BK3
      go_loopw [8, 9, 36] (fun v8 v9 v36 wr => ∃ i : Nat, i ≤ l.length ∧ v36 = .int .i64 (i : Int) ∧ Aside0 (wr.heap[g5]? = some (.cells (rowOf 17 (nxt l i)) 219 (0, 0))) ∧ Aside0 (Kd.R (Kd.int .i64) 3 wr w.heap.size (fun _ => True) v7 (outAt l i)) ∧ Aside0 (Below w.heap.size w wr)) (fun _ _ v36 _ => l.length - (intOf v36).toNat)
      case atStart => exact ⟨0, by omega, rfl, ⟨by rw [← HE.out]; exact BK6.out⟩, HO, HB5⟩
      case round =>
        clear BK6 HO HB5 HE HZ
        obtain ⟨i, hi, rfl, BK5, HO, HB⟩ := hrel
        by_cases hlt : i < l.length
        · have c0 : decide ((i : Int) < (l.length : Int)) = true := decide_eq_true (by omega)
          have p1 : 0 ≤ (i : Int) := by omega
          have q1 : (i : Int) < (l.length : Int) := by omega
          obtain ⟨ad, e1, hx0⟩ := Kd.at_int HR0.out (i : Int) p1 q1
          cases e1
          rw [Int.toNat_natCast] at hx0
          replace hx0 := (HB.out.cell (World.block_lt_of_cell? w _ hx0)).trans hx0
          obtain ⟨h0, h15⟩ := OK.out.2 i hlt
          obtain ⟨a, ha⟩ : ∃ a, rd l (i : Int) = a := ⟨_, rfl⟩
          rw [ha] at hx0 h0 h15
          have HA := Aside0.mk ha
          clear ha
          by_cases hpos : 0 < a
          · have d1 : decide (0 < a) = true := decide_eq_true hpos
            have q2 : a < 17 := by omega
            have zn : wr.cell? ⟨g5, a.toNat, none⟩ = some (.int .i64 (nxt l i a.toNat)) := (blk_cell BK5.out a.toNat).trans (rowOf_get 17 _ _ (by omega))
            have yn := blk_frozen BK5.out a.toNat
            have HH := Aside0.mk ((rowOf_set 17 (nxt l i) a.toNat (nxt l i a.toNat + 1)).trans (congrArg (rowOf 17) (nxt_hit l i a hpos HA.out)))
            have HT := Aside0.mk (out_hit l i a hpos HA.out)
            have hr1 := nx_le (cnt l l.length) (fun j => by rw [HC.out]; exact CR.out j) a.toNat (by omega)
            have hr2 := cnt_range l i a.toNat
            have hr3 : nxt l i a.toNat = nx (cnt l l.length) a.toNat + cnt l i a.toNat := by rw [nxt, if_neg (by omega)]
            have hr4 : 0 ≤ nxt l i a.toNat ∧ nxt l i a.toNat ≤ 41000000 := by omega
            obtain ⟨x, hx⟩ : ∃ x, nxt l i a.toNat = x := ⟨_, rfl⟩
            rw [hx] at zn hr4 HH HT
            clear hr1 hr2 hr3 hx
            have hlen := listOf_len l.length (fun j => if j < i then cod l j else 0)
            obtain ⟨g7, c7, e7, gb7, gl7, cl7, hg7⟩ := Kd.R_form HO.out (by rw [outAt, hlen]; omega)
            have hle : (outAt l i).length = l.length := hlen
            rw [hle] at e7
            clear hlen hle
            subst e7
            have GB7 := Aside0.mk gb7
            have N57 := Aside0.mk (blk_ne hg7 BK5.out (by decide))
            clear gb7 gl7 hg7
            obtain ⟨hx7, hf7⟩ := Kd.R_celln 0 HO.out (i : Int) p1 q1
            have HP := Kd.R_putg HO.out (i : Int) x
            rw [Int.toNat_natCast, HT.out] at HP
            rw [Int.toNat_natCast] at hx7 hf7
            have HP1 := Aside0.mk HP
            have zn2 : (wr.setCell ⟨g7, i, none⟩ (.int .i64 x)).cell? ⟨g5, a.toNat, none⟩ = some (.int .i64 x) := (blk_cell (blk_far BK5.out (p := ⟨g7, i, none⟩) (fun e => N57.out e.symm) _) a.toNat).trans ((blk_cell BK5.out a.toNat).symm.trans zn)
            clear HP
            have BK5b := Aside0.mk (blk_far BK5.out (p := ⟨g7, i, none⟩) (fun e => N57.out e.symm) (.int .i64 x))
            go_wp2
            go_roundw
            case rel => exact ⟨i + 1, by omega, by go_num, ⟨by refine blk_put (cs := rowOf 17 (nxt l i)) ?_ a.toNat _ HH.out; exact BK5b.out⟩, ⟨by refine R_far_ty ?_ BK5b.out (by decide) _ _; exact HP1.out.1⟩, ⟨below_set (below_set HB.out GB7.out) GE5.out⟩⟩
            case measure => simp [intOf]; omega
          · have h0 : a = 0 := by omega
            subst h0
            have d1 : decide ((0 : Int) < 0) = false := by decide
            have HM := Aside0.mk (nxt_miss l i HA.out)
            have HT := Aside0.mk (out_miss l i HA.out)
            go_wp2
            go_roundw
            case rel => exact ⟨i + 1, by omega, by go_num, ⟨by rw [HM.out]; exact BK5.out⟩, ⟨by rw [HT.out]; exact HO.out⟩, HB⟩
            case measure => simp [intOf]; omega
        · have hk2 : i = l.length := by omega
          subst hk2
          have c0 : decide ((l.length : Int) < (l.length : Int)) = false := decide_eq_false (by omega)
          go_wp2
          go_ret
          exact ⟨_, rfl, by rw [← out_end]; exact HO.out, HB.out⟩

/-- What Codes hands back. -/
theorem KRes.okl {l : List Int} {k : Int} (h : KRes l k 0) : OkL l := by
  rcases h with ⟨_, _, h⟩ | ⟨h, _⟩ | ⟨h, _⟩
  · exact absurd h (by decide)
  · exact h
  · exact h


/-- A table's cells. -/
def tabOf (k : Int) (cv : Value) (f c : Nat → Int) (sv : Value) : Array Value := #[.int .i64 k, cv, .int .i64 (f 0), .int .i64 (f 1), .int .i64 (f 2), .int .i64 (f 3), .int .i64 (f 4), .int .i64 (f 5), .int .i64 (f 6), .int .i64 (f 7), .int .i64 (f 8), .int .i64 (f 9), .int .i64 (f 10), .int .i64 (f 11), .int .i64 (f 12), .int .i64 (f 13), .int .i64 (f 14), .int .i64 (f 15), .int .i64 (c 0), .int .i64 (c 1), .int .i64 (c 2), .int .i64 (c 3), .int .i64 (c 4), .int .i64 (c 5), .int .i64 (c 6), .int .i64 (c 7), .int .i64 (c 8), .int .i64 (c 9), .int .i64 (c 10), .int .i64 (c 11), .int .i64 (c 12), .int .i64 (c 13), .int .i64 (c 14), .int .i64 (c 15), sv]
theorem lt16 {P : Nat → Prop} (h : P 0 ∧ P 1 ∧ P 2 ∧ P 3 ∧ P 4 ∧ P 5 ∧ P 6 ∧ P 7 ∧ P 8 ∧ P 9 ∧ P 10 ∧ P 11 ∧ P 12 ∧ P 13 ∧ P 14 ∧ P 15) (i : Nat) (hi : i < 16) : P i := by
  obtain ⟨h0, h1, h2, h3, h4, h5, h6, h7, h8, h9, h10, h11, h12, h13, h14, h15⟩ := h
  have : i = 0 ∨ i = 1 ∨ i = 2 ∨ i = 3 ∨ i = 4 ∨ i = 5 ∨ i = 6 ∨ i = 7 ∨ i = 8 ∨ i = 9 ∨ i = 10 ∨ i = 11 ∨ i = 12 ∨ i = 13 ∨ i = 14 ∨ i = 15 := by omega
  rcases this with rfl | rfl | rfl | rfl | rfl | rfl | rfl | rfl | rfl | rfl | rfl | rfl | rfl | rfl | rfl | rfl <;> assumption
theorem tab_getF (k : Int) (cv : Value) (f c : Nat → Int) (sv : Value) (i : Nat) (hi : i < 16) : (tabOf k cv f c sv)[2 + i]? = some (.int .i64 (f i)) := lt16 (P := fun i => (tabOf k cv f c sv)[2 + i]? = some (.int .i64 (f i))) ⟨rfl, rfl, rfl, rfl, rfl, rfl, rfl, rfl, rfl, rfl, rfl, rfl, rfl, rfl, rfl, rfl⟩ i hi
theorem tab_getC (k : Int) (cv : Value) (f c : Nat → Int) (sv : Value) (i : Nat) (hi : i < 16) : (tabOf k cv f c sv)[18 + i]? = some (.int .i64 (c i)) := lt16 (P := fun i => (tabOf k cv f c sv)[18 + i]? = some (.int .i64 (c i))) ⟨rfl, rfl, rfl, rfl, rfl, rfl, rfl, rfl, rfl, rfl, rfl, rfl, rfl, rfl, rfl, rfl⟩ i hi
theorem tab_setF (k : Int) (cv : Value) (f c : Nat → Int) (sv : Value) (x : Int) (i : Nat) (hi : i < 16) : (tabOf k cv f c sv).setIfInBounds (2 + i) (.int .i64 x) = tabOf k cv (upd f i x) c sv := lt16 (P := fun i => (tabOf k cv f c sv).setIfInBounds (2 + i) (.int .i64 x) = tabOf k cv (upd f i x) c sv) ⟨rfl, rfl, rfl, rfl, rfl, rfl, rfl, rfl, rfl, rfl, rfl, rfl, rfl, rfl, rfl, rfl⟩ i hi
theorem tab_setC (k : Int) (cv : Value) (f c : Nat → Int) (sv : Value) (x : Int) (i : Nat) (hi : i < 16) : (tabOf k cv f c sv).setIfInBounds (18 + i) (.int .i64 x) = tabOf k cv f (upd c i x) sv := lt16 (P := fun i => (tabOf k cv f c sv).setIfInBounds (18 + i) (.int .i64 x) = tabOf k cv f (upd c i x) sv) ⟨rfl, rfl, rfl, rfl, rfl, rfl, rfl, rfl, rfl, rfl, rfl, rfl, rfl, rfl, rfl, rfl⟩ i hi
theorem tab_setS (k : Int) (cv : Value) (f c : Nat → Int) (sv sv' : Value) : (tabOf k cv f c sv).setIfInBounds 34 sv' = tabOf k cv f c sv' := rfl
def putAll (cs : Array Value) : Nat → List Value → Array Value
  | _, [] => cs
  | o, v :: vs => putAll (cs.setIfInBounds o v) (o + 1) vs
theorem blk_setCells {g : Nat} {t : TypeId} : ∀ (vs : List Value) (o : Nat) (W : World) (cs : Array Value), W.heap[g]? = some (.cells cs t (0, 0)) → (W.setCells g o vs).heap[g]? = some (.cells (putAll cs o vs) t (0, 0))
  | [], _, _, _, h => h
  | v :: vs, o, W, cs, h => blk_setCells vs (o + 1) _ _ (blk_set h o v)
theorem blk_setCells_far {g k : Nat} (hk : k ≠ g) : ∀ (vs : List Value) (o : Nat) (W : World), (W.setCells g o vs).heap[k]? = W.heap[k]?
  | [], _, _ => rfl
  | v :: vs, o, W => (blk_setCells_far hk vs (o + 1) _).trans (Below.heap_setCell W ⟨g, o, none⟩ v k hk)
theorem below_setCells {g : Nat} {w : World} (hg : w.heap.size ≤ g) : ∀ (vs : List Value) (o : Nat) (W : World), Below w.heap.size w W → Below w.heap.size w (W.setCells g o vs)
  | [], _, _, h => h
  | v :: vs, o, W, h => below_setCells hg vs (o + 1) _ (below_set h hg)
theorem tab_congrC (k : Int) (cv : Value) (f c c' : Nat → Int) (sv : Value) (h : ∀ i, i < 16 → c i = c' i) : tabOf k cv f c sv = tabOf k cv f c' sv := by
  unfold tabOf
  rw [h 0 (by omega), h 1 (by omega), h 2 (by omega), h 3 (by omega), h 4 (by omega), h 5 (by omega), h 6 (by omega), h 7 (by omega), h 8 (by omega), h 9 (by omega), h 10 (by omega), h 11 (by omega), h 12 (by omega), h 13 (by omega), h 14 (by omega), h 15 (by omega)]
theorem tab_congrF (k : Int) (cv : Value) (f f' c : Nat → Int) (sv : Value) (h : ∀ i, i < 16 → f i = f' i) : tabOf k cv f c sv = tabOf k cv f' c sv := by
  unfold tabOf
  rw [h 0 (by omega), h 1 (by omega), h 2 (by omega), h 3 (by omega), h 4 (by omega), h 5 (by omega), h 6 (by omega), h 7 (by omega), h 8 (by omega), h 9 (by omega), h 10 (by omega), h 11 (by omega), h 12 (by omega), h 13 (by omega), h 14 (by omega), h 15 (by omega)]
theorem putC (k : Int) (cv : Value) (f c : Nat → Int) (sv : Value) : ∀ (d i : Nat) (c0 : Nat → Int), i + d = 16 → (∀ j, j < i → c0 j = c j) → putAll (tabOf k cv f c0 sv) (18 + i) ((List.range' i d).map fun i => Value.int .i64 (c i)) = tabOf k cv f c sv
  | 0, i, c0, h, hc => by
    rw [List.range'_zero, List.map_nil, putAll]
    exact tab_congrC _ _ _ _ _ _ (fun j hj => hc j (by omega))
  | d + 1, i, c0, h, hc => by
    rw [List.range'_succ, List.map_cons, putAll, tab_setC _ _ _ _ _ _ _ (by omega)]
    exact putC k cv f c sv d (i + 1) (upd c0 i (c i)) (by omega) (fun j hj => by
      unfold upd
      by_cases e : j = i
      · rw [if_pos e, e]
      · rw [if_neg e]; exact hc j (by omega))
theorem tab_putC (k : Int) (cv : Value) (f c0 c : Nat → Int) (sv : Value) : putAll (tabOf k cv f c0 sv) 18 (rowOf 16 c).toList = tabOf k cv f c sv := by
  have := putC k cv f c sv 16 0 c0 rfl (fun j h => absurd h (by omega))
  rw [← List.range_eq_range'] at this
  exact this

/-- The codes' cells. -/
def codeRow (n : Nat) (F G : Nat → Int) : Array Value := ((List.range (n * 2)).map fun i => if i % 2 = 0 then Value.int .u32 (F (i / 2)) else .int .i64 (G (i / 2))).toArray
theorem codeRow_get0 (n : Nat) (F G : Nat → Int) (i : Nat) (h : i < n) : (codeRow n F G)[i * 2]? = some (.int .u32 (F i)) := by
  unfold codeRow
  rw [List.getElem?_toArray, List.getElem?_map, List.getElem?_range (by omega)]
  rw [Option.map_some, if_pos (by omega), show i * 2 / 2 = i from by omega]
theorem codeRow_get1 (n : Nat) (F G : Nat → Int) (i : Nat) (h : i < n) : (codeRow n F G)[i * 2 + 1]? = some (.int .i64 (G i)) := by
  unfold codeRow
  rw [List.getElem?_toArray, List.getElem?_map, List.getElem?_range (by omega)]
  rw [Option.map_some, if_neg (by omega), show (i * 2 + 1) / 2 = i from by omega]
theorem codeRow_set (n : Nat) (F G : Nat → Int) (i : Nat) (x y : Int) : ((codeRow n F G).setIfInBounds (i * 2) (.int .u32 x)).setIfInBounds (i * 2 + 1) (.int .i64 y) = codeRow n (upd F i x) (upd G i y) := by
  apply Array.ext'
  apply List.ext_getElem
  · simp [codeRow]
  · intro j h1 h2
    simp [codeRow] at h1 h2
    simp [codeRow, upd, List.getElem_set]
    by_cases hp : j % 2 = 0
    · by_cases h : j = i * 2
      · subst h
        rw [if_neg (by omega), if_pos rfl, if_pos (by omega), if_pos (by omega)]
      · rw [if_neg (by omega), if_neg (fun e => h e.symm), if_pos hp, if_pos hp, if_neg (by omega)]
    · by_cases h : j = i * 2 + 1
      · subst h
        rw [if_pos rfl, if_neg hp, if_pos (by omega)]
      · rw [if_neg (fun e => h e.symm), if_neg (by omega), if_neg hp, if_neg hp, if_neg (by omega)]
theorem codeRow_made (m : Nat) : madeCells #[Value.int .u32 0, Value.int .i64 0] (m * 2) = codeRow m (fun _ => 0) (fun _ => 0) := by
  apply Array.ext
  · simp [codeRow, madeCells]
  · intro i h1 h2
    simp [codeRow, madeCells]
    by_cases hp : i % 2 = 0
    · rw [if_pos hp, hp]; rfl
    · rw [if_neg hp, show i % 2 = 1 from by omega]; rfl

/-- The symbols of length n among the first i. -/
def symRow (l : List Int) (n : Nat) : Nat → List Int
  | 0 => []
  | i + 1 => symRow l n i ++ (if rd l (i : Int) = (n : Int) then [(i : Int)] else [])
/-- The symbols of lengths 1 to n, in order. -/
def symUp (l : List Int) : Nat → List Int
  | 0 => []
  | n + 1 => symUp l n ++ symRow l (n + 1) l.length
theorem symRow_len (l : List Int) (n : Nat) : ∀ i, (symRow l n i).length ≤ i
  | 0 => by simp [symRow]
  | i + 1 => by
    have := symRow_len l n i
    rw [symRow, List.length_append]
    split <;> simp <;> omega
theorem symUp_len (l : List Int) : ∀ n, (symUp l n).length ≤ n * l.length
  | 0 => by simp [symUp]
  | n + 1 => by
    have := symUp_len l n
    have := symRow_len l (n + 1) l.length
    rw [symUp, List.length_append, Nat.succ_mul]
    omega
def fAt (c : Nat → Int) (k j : Nat) : Int := if j ≤ k then nx c j else 0
theorem fAt_step (c : Nat → Int) (k : Nat) (hk : 1 ≤ k) : upd (fAt c k) (k + 1) (2 * (nx c k + c k)) = fAt c (k + 1) := by
  funext j
  unfold upd fAt
  obtain ⟨m, rfl⟩ : ∃ m, k = m + 1 := ⟨k - 1, by omega⟩
  by_cases h : j = m + 1 + 1
  · subst h
    rw [if_pos rfl, if_pos (by omega), nx]
  · rw [if_neg h]
    by_cases h2 : j ≤ m + 1
    · rw [if_pos h2, if_pos (by omega)]
    · rw [if_neg h2, if_neg (by omega)]
theorem fAt_one (c : Nat → Int) : fAt c 1 = fAt c 0 := by
  funext j
  unfold fAt
  by_cases h : j ≤ 0
  · rw [if_pos h, if_pos (by omega)]
  · rw [if_neg h]
    by_cases h2 : j = 1
    · subst h2; rfl
    · rw [if_neg (by omega)]
theorem fAt_zero (c : Nat → Int) : fAt c 0 = fun _ => 0 := by
  funext j
  unfold fAt
  by_cases h : j ≤ 0
  · rw [if_pos h, show j = 0 from by omega]; rfl
  · rw [if_neg h]
/-- The bits of the i-th symbol, the first one lowest. -/
def vOf (l : List Int) (R : Nat → Int) (i : Nat) (j : Nat) : Int := if j < i then R j else 0
def nOf (l : List Int) (i : Nat) (j : Nat) : Int := if j < i then rd l (j : Int) else 0

theorem info180 : (Try.prog.info? 180).map (fun i => (i.zero, i.size, i.bytes)) = some (some (.agg #[.int .u32 0, .int .i64 0]), 2, 16) := by kernel_rfl
theorem make180 (m : Nat) (hm : m ≤ 288) : ∀ W : World, (Instr.makeSlice 203 (.int .i64 (m : Int)) (.int .i64 (m : Int))).run Try.prog W = .ok (.slice (some ⟨W.heap.size, 0, none⟩) m m) (W.alloc (.cells (codeRow m (fun _ => 0) (fun _ => 0)) 180)) := by
  intro W
  obtain ⟨i0, hi, hz⟩ := Option.map_eq_some_iff.1 info180
  simp only [Prod.mk.injEq] at hz
  obtain ⟨h1, h2, h3⟩ := hz
  have h := run_make (P := Try.prog) W 203 180 i0 _ Try.underlying203 hi h1 .i64 .i64 (m : Int) (m : Int) (by omega) (by omega) (by rw [h3]; omega) (by omega)
  rw [Int.toNat_natCast, h2] at h
  rw [← codeRow_made]
  exact h

theorem cod_range (l : List Int) (i : Nat) (ok : OkL l) (hi : i < l.length) : 0 ≤ cod l i ∧ cod l i ≤ 41000000 := by
  have h1 := ok.1
  have h2 := ok.2 i hi
  unfold cod
  split
  · have a := nx_le (cnt l l.length) (fun j => by have := cnt_range l l.length j; omega) (rd l (i : Int)).toNat (by omega)
    have b := cnt_range l i (rd l (i : Int)).toNat
    omega
  · omega
theorem rev_some (x : Int) : ∃ r, XInflateAny.bits_Reverse32.f x = some r := ⟨_, rfl⟩
def rv (x : Int) : Int := (XInflateAny.bits_Reverse32.f x).getD 0
/-- A symbol's bits, the first one lowest. -/
def bitsV (l : List Int) (j : Nat) : Int := if rd l (j : Int) = 0 then 0 else rv (cod l j) / 2 ^ (32 - rd l (j : Int)).toNat

theorem row_hit (l : List Int) (i : Nat) (a r : Int) (ha : rd l (i : Int) = a) (h0 : a ≠ 0) (hr : XInflateAny.bits_Reverse32.f (cod l i) = some r) :
    codeRow l.length (upd (vOf l (bitsV l) i) i (r / 2 ^ (32 - a).toNat)) (upd (nOf l i) i a) = codeRow l.length (vOf l (bitsV l) (i + 1)) (nOf l (i + 1)) := by
  have h1 : upd (vOf l (bitsV l) i) i (r / 2 ^ (32 - a).toNat) = vOf l (bitsV l) (i + 1) := by
    funext j
    unfold upd vOf
    by_cases h : j = i
    · subst h
      rw [if_pos rfl, if_pos (by omega), bitsV, ha, if_neg h0, rv, hr]
      rfl
    · rw [if_neg h]
      by_cases h2 : j < i
      · rw [if_pos h2, if_pos (by omega)]
      · rw [if_neg h2, if_neg (by omega)]
  have h2 : upd (nOf l i) i a = nOf l (i + 1) := by
    funext j
    unfold upd nOf
    by_cases h : j = i
    · subst h
      rw [if_pos rfl, if_pos (by omega), ha]
    · rw [if_neg h]
      by_cases h2 : j < i
      · rw [if_pos h2, if_pos (by omega)]
      · rw [if_neg h2, if_neg (by omega)]
  rw [h1, h2]
theorem row_miss (l : List Int) (i : Nat) (r : Int) (ha : rd l (i : Int) = 0) :
    codeRow l.length (upd (upd (vOf l (bitsV l) i) i (r / 2 ^ ((32 : Int) - 0).toNat)) i 0) (upd (upd (nOf l i) i 0) i 0) = codeRow l.length (vOf l (bitsV l) (i + 1)) (nOf l (i + 1)) := by
  have h1 : upd (upd (vOf l (bitsV l) i) i (r / 2 ^ ((32 : Int) - 0).toNat)) i 0 = vOf l (bitsV l) (i + 1) := by
    funext j
    unfold upd vOf
    by_cases h : j = i
    · subst h
      rw [if_pos rfl, if_pos (by omega), bitsV, ha, if_pos rfl]
    · rw [if_neg h, if_neg h]
      by_cases h2 : j < i
      · rw [if_pos h2, if_pos (by omega)]
      · rw [if_neg h2, if_neg (by omega)]
  have h2 : upd (upd (nOf l i) i 0) i 0 = nOf l (i + 1) := by
    funext j
    unfold upd nOf
    by_cases h : j = i
    · subst h
      rw [if_pos rfl, if_pos (by omega), ha]
    · rw [if_neg h, if_neg h]
      by_cases h2 : j < i
      · rw [if_pos h2, if_pos (by omega)]
      · rw [if_neg h2, if_neg (by omega)]
  rw [h1, h2]
/-- A table of lengths l and kind k at block g. -/
def IsT (base : Nat) (W : World) (g : Nat) (l : List Int) (k : Int) : Prop := ∃ (gc : Nat) (A : Option Addr) (cc : Nat),
  W.heap[g]? = some (.cells (tabOf k (.slice (some ⟨gc, 0, none⟩) l.length l.length) (fAt (cnt l l.length) 15) (upd (cnt l l.length) 0 0) (.slice A (symUp l 15).length cc)) 206 (0, 0)) ∧
  W.heap[gc]? = some (.cells (codeRow l.length (vOf l (bitsV l) l.length) (nOf l l.length)) 180 (0, 0)) ∧
  Kd.R (Kd.int .i64) 3 W base (fun _ => True) (.slice A (symUp l 15).length cc) (symUp l 15) ∧ base ≤ g ∧ base ≤ gc
/-- What New hands back. -/
def NewPost (l : List Int) (w : World) (e : Ending) (w' : World) : Prop := ∃ k er, KRes l k er ∧ Below w.heap.size w w' ∧
  ((er ≠ 0 ∧ e = .returned (.tuple #[.pointer none, .int .i64 er])) ∨ (er = 0 ∧ ∃ g, e = .returned (.tuple #[.pointer (some ⟨g, 0, none⟩), .int .i64 0]) ∧ IsT w.heap.size w' g l k))

set_option maxHeartbeats 1600000 in
set_option maxRecDepth 100000 in
theorem new_calls (A0 : Option Addr) (c0 : Nat) (l : List Int) (w : World) (hr0 : Kd.C (Kd.int .i64) w A0 l.length l) :
    Calls Try.prog 104 #[.slice A0 l.length c0] w fun e w' => NewPost l w e w' := by
  have HR0 := Aside0.mk hr0
  clear hr0
  go_enter Try.func104, Try.ntmps104
  go_wp2_with fail
  refine (check_calls A0 c0 l _ HR0.out).mono ?_
  rintro e w1 ⟨kd, er, rfl, hK, hB⟩
  have HB := Aside0.mk hB
  have HK := Aside0.mk hK
  clear hB hK
  by_cases h0 : er = 0
  · subst h0
    have HR1 := Aside0.mk (Kd.C_below HR0.out HB.out)
    have OK := Aside0.mk HK.out.okl
    have hl288 := OK.out.1
    have hmk := make180 l.length hl288
    go_wp2_with (first | ((with_reducible refine gate_dst (N := 26) rfl ?_); refine box_event ?hg (N := 26) ?hd (cs := tabOf kd (.slice (some ⟨w1.heap.size, 0, none⟩) l.length l.length) (fun _ => 0) (fun _ => 0) (.slice none 0 0)) (t := 206) ?hr ?_; (case hd => rfl); (case hg => rfl); (case hr => first | (go_simp; done) | (go_simp; rfl)); intro g hg w2 hbox hb; have BK := Aside0.mk hbox; have HB2 := Aside0.mk (below_step (below_alloc HB.out _) hb); have CK := Aside0.mk (blk_below (heap_alloc_new w1 (.cells (codeRow l.length (fun _ => 0) (fun _ => 0)) 180)) hb); have GE := Aside0.mk (show w.heap.size ≤ g by have := below_size HB.out; simp at hg; omega); have GC := Aside0.mk (below_size HB.out); clear hg hbox hb))
    generalize w1.heap.size = gc at BK CK GC ⊢
    have HR2 := Aside0.mk (Kd.C_below HR0.out HB2.out)
    refine (counts_calls A0 c0 l _ HR2.out).mono ?_
    rintro e w3 ⟨⟨f, b, rfl, hC⟩, hB⟩
    rcases hC with ⟨rfl, ok, rfl⟩ | ⟨rfl, nok⟩
    case inr => exact absurd OK.out nok
    clear ok
    obtain ⟨c, hc⟩ : ∃ c, cnt l l.length = c := ⟨_, rfl⟩
    have CR := Aside0.mk (fun j => (show 0 ≤ c j ∧ c j ≤ 288 from by have := hc ▸ cnt_range l l.length j; omega))
    rw [hc]
    have HC := Aside0.mk hc
    have BK3 := Aside0.mk (blk_below BK.out hB)
    have CK3 := Aside0.mk (blk_below CK.out hB)
    have HB3 := Aside0.mk (below_step HB2.out hB)
    clear hc hB BK CK HB2 hmk HB HR1 HR2
    have HTH := Aside0.mk (show w3.there g 18 16 from fun j hj => ⟨by rw [show w3.cell? ⟨g, 18 + j, none⟩ = some (.int .i64 0) from (blk_cell BK3.out (18 + j)).trans (tab_getC _ _ _ _ _ j hj)]; rfl, blk_frozen BK3.out (18 + j)⟩)
    go_wp2_with (refine wpList_store_mid rfl 204 _ _ rfl g 18 (rowOf 16 c) rfl rfl (by rw [rowOf_size]; exact HTH.out) (by rw [rowOf_size]; kernel_rfl) (rowOf_one 16 _) ?_; have BK4 := Aside0.mk (blk_setCells (rowOf 16 c).toList 18 w3 _ BK3.out); rw [tab_putC] at BK4; have CK4 := Aside0.mk ((blk_setCells_far (fun e => (blk_ne CK3.out BK3.out (by decide)) e) (rowOf 16 c).toList 18 w3).trans CK3.out); have HB4 := Aside0.mk (below_setCells GE.out (rowOf 16 c).toList 18 w3 HB3.out); generalize w3.setCells g 18 (rowOf 16 c).toList = w4 at BK4 CK4 HB4 ⊢; have zc : w4.cell? ⟨g, 18, none⟩ = some (.int .i64 (c 0)) := (blk_cell BK4.out 18).trans (tab_getC _ _ _ _ _ 0 (by omega)); have yc := blk_frozen BK4.out 18)
    clear zc yc HTH BK3 CK3 HB3
    have NC := Aside0.mk (blk_ne CK4.out BK4.out (by decide))
    obtain ⟨cv, hcv⟩ : ∃ cv, Value.slice (some ⟨gc, 0, none⟩) l.length l.length = cv := ⟨_, rfl⟩
    rw [hcv] at BK4
    have HCV := Aside0.mk hcv
    clear hcv
    go_loopw [7] (fun v7 wr => ∃ (k : Nat) (A : Option Addr) (cc : Nat), k ≤ 15 ∧ v7 = .int .i64 ((k : Int) + 1) ∧ Aside0 (wr.heap[g]? = some (.cells (tabOf kd cv (fAt c k) (upd c 0 0) (.slice A (symUp l k).length cc)) 206 (0, 0))) ∧ Aside0 (wr.heap[gc]? = some (.cells (codeRow l.length (fun _ => 0) (fun _ => 0)) 180 (0, 0))) ∧ Aside0 (Kd.R (Kd.int .i64) 3 wr w.heap.size (fun _ => True) (.slice A (symUp l k).length cc) (symUp l k)) ∧ Aside0 (Below w.heap.size w wr)) (fun v7 _ => 17 - (intOf v7).toNat)
    case atStart => exact ⟨0, none, 0, by omega, rfl, ⟨by rw [fAt_zero]; refine blk_put (cs := tabOf kd cv (fun _ => 0) c (.slice none 0 0)) ?_ 18 _ (tab_setC _ _ _ _ _ 0 0 (by omega)); exact BK4.out⟩, ⟨by refine blk_far ?_ (by exact NC.out) _; exact CK4.out⟩, ⟨Kd.R_nil _ _ _ _ _⟩, ⟨below_set HB4.out GE.out⟩⟩
    case round =>
      clear BK4 CK4 HB4
      obtain ⟨k, A, cc, hk, rfl, BK, CK, HO, HB⟩ := hrel
      by_cases hlt : k < 15
      · have d0 : decide ((k : Int) + 1 ≤ 15) = true := decide_eq_true (by omega)
        go_wp2
        go_loopw [45] (fun v45 wr => ∃ (i : Nat) (A : Option Addr) (cc : Nat), i ≤ l.length ∧ v45 = .int .i64 (i : Int) ∧ Aside0 (wr.heap[g]? = some (.cells (tabOf kd cv (fAt c k) (upd c 0 0) (.slice A (symUp l k ++ symRow l (k + 1) i).length cc)) 206 (0, 0))) ∧ Aside0 (wr.heap[gc]? = some (.cells (codeRow l.length (fun _ => 0) (fun _ => 0)) 180 (0, 0))) ∧ Aside0 (Kd.R (Kd.int .i64) 3 wr w.heap.size (fun _ => True) (.slice A (symUp l k ++ symRow l (k + 1) i).length cc) (symUp l k ++ symRow l (k + 1) i)) ∧ Aside0 (Below w.heap.size w wr)) (fun v45 _ => l.length - (intOf v45).toNat)
        case atStart => exact ⟨0, A, cc, by omega, rfl, ⟨by rw [symRow, List.append_nil]; exact BK.out⟩, CK, ⟨by rw [symRow, List.append_nil]; exact HO.out⟩, HB⟩
        case round =>
          clear BK CK HO HB
          obtain ⟨i, A, cc, hi, rfl, BK, CK, HO, HB⟩ := hrel
          by_cases hlt2 : i < l.length
          · have d1 : decide ((i : Int) < (l.length : Int)) = true := decide_eq_true (by omega)
            have p1 : 0 ≤ (i : Int) := by omega
            have q1 : (i : Int) < (l.length : Int) := by omega
            obtain ⟨ad, e1, hx0⟩ := Kd.at_int HR0.out (i : Int) p1 q1
            cases e1
            rw [Int.toNat_natCast] at hx0
            replace hx0 := (HB.out.cell (World.block_lt_of_cell? w _ hx0)).trans hx0
            obtain ⟨a, ha⟩ : ∃ a, rd l (i : Int) = a := ⟨_, rfl⟩
            rw [ha] at hx0
            have HA := Aside0.mk ha
            clear ha
            by_cases hit : a = (k : Int) + 1
            · have e2 : (a == (k : Int) + 1) = true := beq_iff_eq.mpr hit
              have HS := Aside0.mk (show symUp l k ++ symRow l (k + 1) (i + 1) = (symUp l k ++ symRow l (k + 1) i) ++ [(i : Int)] by rw [symRow, HA.out, if_pos (by omega), List.append_assoc])
              obtain ⟨xs, hxs⟩ : ∃ xs, symUp l k ++ symRow l (k + 1) i = xs := ⟨_, rfl⟩
              have HXL := Aside0.mk (show xs.length ≤ 15 * 288 + 288 by
                rw [← hxs, List.length_append]
                have h1 := symUp_len l k
                have h2 := symRow_len l (k + 1) i
                have h3 : k * l.length ≤ 15 * 288 := Nat.mul_le_mul (by omega) hl288
                omega)
              rw [hxs] at BK HO HS
              clear hxs
              have zs : wr.cell? ⟨g, 34, none⟩ = some (.slice A xs.length cc) := (blk_cell BK.out 34).trans rfl
              have ys := blk_frozen BK.out 34
              go_wp2_with (first | ((with_reducible refine gate_builtin (b := .append) (xs := #[.tmp 57, .tmp 59]) rfl ?_); at_builtin; refine Kd.R_append (Kd.int .i64) (w0 := w) w.heap.size rfl (.tmp 57) (.tmp 59) 22 3 (.int .i64 0) 8 rfl Try.underlying22 XInflateAny.info3 rfl (by decide) (by omega) (.slice A xs.length cc) xs (i : Int) [.int .i64 (i : Int)] (fun _ => True) (fun _ => False) rfl rfl ?aP (fun _ hk => hk.elim) ?aF ?aO ?aB ?aS ?aL ?_; (case aP => exact rfl); (case aB => exact HB.out); (case aF => exact (fun _ _ => trivial)); (case aO => exact HO.out); (case aS => exact below_size HB.out); (case aL => have := HXL.out; omega); intro v1 w7 ho hb hg hat; obtain ⟨A1, cc1, rfl⟩ := Kd.R_slice ho; have BK7 := Aside0.mk ((hg.block g (blk_lt BK.out) (Kd.R_ne HO.out BK.out (by decide))).trans BK.out); have CK7 := Aside0.mk ((hg.block gc (blk_lt CK.out) (Kd.R_ne HO.out CK.out (by decide))).trans CK.out); have HO7 := Aside0.mk ho; have HB7 := Aside0.mk hb; clear ho hb hg hat; have zs7 : w7.cell? ⟨g, 34, none⟩ = some (.slice A xs.length cc) := (blk_cell BK7.out 34).trans rfl; have ys7 := blk_frozen BK7.out 34))
              go_roundw
              case rel => exact ⟨i + 1, A1, cc1, by omega, by go_num, ⟨by rw [HS.out, List.length_append, List.length_singleton]; refine blk_put (cs := tabOf kd cv (fAt c k) (upd c 0 0) (.slice A xs.length cc)) ?_ 34 _ (tab_setS _ _ _ _ _ _); exact BK7.out⟩, ⟨by refine blk_far ?_ (by exact NC.out) _; exact CK7.out⟩, ⟨by have h7 := HO7.out; rw [List.length_append, List.length_singleton] at h7; rw [HS.out, List.length_append, List.length_singleton]; refine R_far_ty ?_ BK7.out (by decide) _ _; exact h7⟩, ⟨below_set HB7.out GE.out⟩⟩
              case measure => simp [intOf]; omega
            · have e2 : (a == (k : Int) + 1) = false := beq_eq_false_iff_ne.mpr hit
              have HS := Aside0.mk (show symUp l k ++ symRow l (k + 1) (i + 1) = (symUp l k ++ symRow l (k + 1) i) by rw [symRow, HA.out, if_neg (by omega), List.append_nil])
              go_wp2
              go_roundw
              case rel => exact ⟨i + 1, A, cc, by omega, by go_num, ⟨by rw [HS.out]; exact BK.out⟩, CK, ⟨by rw [HS.out]; exact HO.out⟩, HB⟩
              case measure => simp [intOf]; omega
          · have hk2 : i = l.length := by omega
            subst hk2
            have d1 : decide ((l.length : Int) < (l.length : Int)) = false := decide_eq_false (by omega)
            have HS := Aside0.mk (show symUp l (k + 1) = symUp l k ++ symRow l (k + 1) l.length from rfl)
            by_cases hk0 : k = 0
            · subst hk0
              have d2 : decide ((1 : Int) < ((0 : Nat) : Int) + 1) = false := by decide
              go_wp2
              go_roundw
              case rel => exact ⟨1, A, cc, by omega, by go_num, ⟨by rw [HS.out, fAt_one]; exact BK.out⟩, CK, ⟨by rw [HS.out]; exact HO.out⟩, HB⟩
              case measure => first | (simp [intOf]; done) | (simp [intOf]; omega)
            · have d2 : decide ((1 : Int) < (k : Int) + 1) = true := decide_eq_true (by omega)
              have p1 : 0 ≤ (k : Int) := by omega
              have q1 : (k : Int) < 16 := by omega
              have p2 : 0 ≤ (k : Int) + 1 := by omega
              have q2 : (k : Int) + 1 < 16 := by omega
              have zf : wr.cell? ⟨g, 2 + k, none⟩ = some (.int .i64 (nx c k)) := (blk_cell BK.out (2 + k)).trans ((tab_getF _ _ _ _ _ k (by omega)).trans (by rw [fAt, if_pos (by omega)]))
              have zc : wr.cell? ⟨g, 18 + k, none⟩ = some (.int .i64 (c k)) := (blk_cell BK.out (18 + k)).trans ((tab_getC _ _ _ _ _ k (by omega)).trans (by rw [upd, if_neg hk0]))
              have zs : wr.cell? ⟨g, 2 + (k + 1), none⟩ = some (.int .i64 (fAt c k (k + 1))) := (blk_cell BK.out (2 + (k + 1))).trans (tab_getF _ _ _ _ _ (k + 1) (by omega))
              have ys := blk_frozen BK.out (2 + (k + 1))
              have r1 := CR.out k
              have r2 := nx_le c CR.out k (by omega)
              have HG := Aside0.mk ((tab_setF kd cv (fAt c k) (upd c 0 0) (.slice A (symUp l k ++ symRow l (k + 1) l.length).length cc) (2 * (nx c k + c k)) (k + 1) (by omega)).trans (by rw [fAt_step c k (by omega)]))
              obtain ⟨x, hx⟩ : ∃ x, c k = x := ⟨_, rfl⟩
              obtain ⟨y, hy⟩ : ∃ y, nx c k = y := ⟨_, rfl⟩
              rw [hx] at zc r1 HG
              rw [hy] at zf r2 HG
              clear hx hy
              go_wp2
              go_region
              all_goals
                go_wp2
                go_roundw
                case rel => exact ⟨k + 1, A, cc, by omega, by go_num, ⟨by refine blk_drew ?_; rw [HS.out]; refine blk_put (cs := tabOf kd cv (fAt c k) (upd c 0 0) (.slice A (symUp l k ++ symRow l (k + 1) l.length).length cc)) ?_ (2 + (k + 1)) _ (by rw [Int.mul_comm]; exact HG.out); exact BK.out⟩, ⟨by refine blk_drew ?_; refine blk_far ?_ (by exact NC.out) _; exact CK.out⟩, ⟨by rw [HS.out]; apply Kd.R_drew; refine R_far_ty ?_ BK.out (by decide) _ _; exact HO.out⟩, ⟨by apply below_drew1; exact below_set HB.out GE.out⟩⟩
                case measure => simp [intOf]; omega
      · have hk15 : k = 15 := by omega
        subst hk15
        have d0 : decide (((15 : Nat) : Int) + 1 ≤ 15) = false := by decide
        have HR4 := Aside0.mk (Kd.C_below HR0.out HB.out)
        go_wp2_with fail
        refine (codes_calls A0 c0 l _ HR4.out OK.out).mono ?_
        rintro e w5 ⟨vo, rfl, hR, hB⟩
        obtain ⟨Ao, co, rfl⟩ := Kd.R_slice hR
        obtain ⟨eo, _, _⟩ := Kd.R_reads' hR
        rw [codL, listOf_len] at hR
        have HRo := Aside0.mk (Kd.R_lower hR (below_size HB.out))
        have BK5 := Aside0.mk (blk_below BK.out hB)
        have CK5 := Aside0.mk (blk_below CK.out hB)
        have HO5 := Aside0.mk (Kd.R_below HO.out hB)
        have HB5 := Aside0.mk (below_step HB.out hB)
        rw [codL, listOf_len]
        clear hR hB BK CK HO HB HR4 eo
        go_wp2_with fail
        go_loopw [90] (fun v90 wr => ∃ (i : Nat), i ≤ l.length ∧ v90 = .int .i64 (i : Int) ∧ Aside0 (wr.heap[g]? = some (.cells (tabOf kd cv (fAt c 15) (upd c 0 0) (.slice A (symUp l 15).length cc)) 206 (0, 0))) ∧ Aside0 (wr.heap[gc]? = some (.cells (codeRow l.length (vOf l (bitsV l) i) (nOf l i)) 180 (0, 0))) ∧ Aside0 (Kd.R (Kd.int .i64) 3 wr w.heap.size (fun _ => True) (.slice A (symUp l 15).length cc) (symUp l 15)) ∧ Aside0 (Kd.R (Kd.int .i64) 3 wr w.heap.size (fun _ => True) (.slice Ao l.length co) (listOf l.length (cod l))) ∧ Aside0 (Below w.heap.size w wr)) (fun v90 _ => l.length - (intOf v90).toNat)
        case atStart => exact ⟨0, by omega, rfl, BK5, CK5, HO5, HRo, HB5⟩
        case round =>
          clear BK5 CK5 HO5 HRo HB5
          obtain ⟨i, hi, rfl, BK, CK, HO, HRo, HB⟩ := hrel
          by_cases hlt2 : i < l.length
          · have d1 : decide ((i : Int) < (l.length : Int)) = true := decide_eq_true (by omega)
            have p1 : 0 ≤ (i : Int) := by omega
            have q1 : (i : Int) < (l.length : Int) := by omega
            obtain ⟨ad, e1, hx0⟩ := Kd.at_int HR0.out (i : Int) p1 q1
            cases e1
            rw [Int.toNat_natCast] at hx0
            replace hx0 := (HB.out.cell (World.block_lt_of_cell? w _ hx0)).trans hx0
            obtain ⟨ga, ca, ea, _, _, _, _⟩ := Kd.R_form HRo.out (by rw [listOf_len]; omega)
            rw [listOf_len] at ea
            cases ea
            obtain ⟨hxo, _⟩ := Kd.R_celln 0 HRo.out (i : Int) p1 q1
            rw [Int.toNat_natCast] at hxo
            replace hxo : wr.cell? ⟨ga, i, none⟩ = some (.int .i64 (cod l i)) := hxo.trans (by rw [← rd_listOf l.length (cod l) i hlt2]; rfl)
            obtain ⟨h0, h15⟩ := OK.out.2 i hlt2
            obtain ⟨a, ha⟩ : ∃ a, rd l (i : Int) = a := ⟨_, rfl⟩
            rw [ha] at hx0 h0 h15
            have HA := Aside0.mk ha
            have hcb := cod_range l i OK.out hlt2
            obtain ⟨x, hx⟩ : ∃ x, cod l i = x := ⟨_, rfl⟩
            rw [hx] at hxo hcb
            have HX := Aside0.mk hx
            obtain ⟨r, hr⟩ := rev_some x
            have HRV := Aside0.mk hr
            have zs : wr.cell? ⟨g, 1, none⟩ = some (.slice (some ⟨gc, 0, none⟩) l.length l.length) := (blk_cell BK.out 1).trans (by rw [HCV.out]; rfl)
            have zg0 : wr.cell? ⟨gc, i * 2, none⟩ = some (.int .u32 (vOf l (bitsV l) i i)) := (blk_cell CK.out (i * 2)).trans (codeRow_get0 _ _ _ _ hlt2)
            have zg1 : wr.cell? ⟨gc, i * 2 + 1, none⟩ = some (.int .i64 (nOf l i i)) := (blk_cell CK.out (i * 2 + 1)).trans (codeRow_get1 _ _ _ _ hlt2)
            have y0 := blk_frozen CK.out (i * 2)
            have y1 := blk_frozen CK.out (i * 2 + 1)
            have s1 : IntKind.u32.wrap x = x := by rw [IntKind.wrap_u32]; omega
            have s2 : ¬ (32 - a) < 0 := by omega
            have s3 : ¬ 32 < a := by omega
            have s4 : 0 ≤ 32 - a := by omega
            have s5 : IntKind.i64.wrap (32 - a) = 32 - a := by rw [i64_w]; unfold wrap64; omega
            clear ha hx hr
            go_wp2_with fail
            go_region_law ((go_simp; go_at_call 131; refine (XInflateAny.bits_Reverse32.calls x r _ HRV.out).mono ?_; rintro e w6 ⟨rfl, ⟨m, rfl⟩⟩))
            all_goals
              have n1 := Aside0.mk (blk_drewN BK.out (1 + m))
              have n2 := Aside0.mk (blk_drewN CK.out (1 + m))
              have n3 := Aside0.mk (Kd.R_drewN HO.out (1 + m))
              have n4 := Aside0.mk (Kd.R_drewN HRo.out (1 + m))
              have n5 := Aside0.mk (pw_below_drewN HB.out (1 + m))
              clear BK CK HO HRo HB
              have n6 := Aside0.mk (blk_set n2.out (i * 2) (.int .u32 (r / 2 ^ (32 - a).toNat)))
              have BK := Aside0.mk (show (((wr.drewN (1 + m)).setCell ⟨gc, i * 2, none⟩ (.int .u32 (r / 2 ^ (32 - a).toNat))).setCell ⟨gc, i * 2 + 1, none⟩ (.int .i64 a)).heap[g]? = some (.cells (tabOf kd cv (fAt c 15) (upd c 0 0) (.slice A (symUp l 15).length cc)) 206 (0, 0)) from by refine blk_far ?_ (by exact fun e => NC.out e.symm) _; refine blk_far ?_ (by exact fun e => NC.out e.symm) _; exact n1.out)
              have CK := Aside0.mk (show (((wr.drewN (1 + m)).setCell ⟨gc, i * 2, none⟩ (.int .u32 (r / 2 ^ (32 - a).toNat))).setCell ⟨gc, i * 2 + 1, none⟩ (.int .i64 a)).heap[gc]? = some (.cells (codeRow l.length (upd (vOf l (bitsV l) i) i (r / 2 ^ (32 - a).toNat)) (upd (nOf l i) i a)) 180 (0, 0)) from by rw [← codeRow_set]; exact blk_set n6.out _ _)
              have HO := Aside0.mk (show Kd.R (Kd.int .i64) 3 (((wr.drewN (1 + m)).setCell ⟨gc, i * 2, none⟩ (.int .u32 (r / 2 ^ (32 - a).toNat))).setCell ⟨gc, i * 2 + 1, none⟩ (.int .i64 a)) w.heap.size (fun _ => True) (.slice A (symUp l 15).length cc) (symUp l 15) from R_far_ty (R_far_ty n3.out n2.out (by decide) _ _) n6.out (by decide) _ _)
              have HRo := Aside0.mk (show Kd.R (Kd.int .i64) 3 (((wr.drewN (1 + m)).setCell ⟨gc, i * 2, none⟩ (.int .u32 (r / 2 ^ (32 - a).toNat))).setCell ⟨gc, i * 2 + 1, none⟩ (.int .i64 a)) w.heap.size (fun _ => True) (.slice (some ⟨ga, 0, none⟩) l.length co) (listOf l.length (cod l)) from R_far_ty (R_far_ty n4.out n2.out (by decide) _ _) n6.out (by decide) _ _)
              have HB := Aside0.mk (show Below w.heap.size w (((wr.drewN (1 + m)).setCell ⟨gc, i * 2, none⟩ (.int .u32 (r / 2 ^ (32 - a).toNat))).setCell ⟨gc, i * 2 + 1, none⟩ (.int .i64 a)) from below_set (below_set n5.out GC.out) GC.out)
              clear n1 n2 n3 n4 n5 n6 zs zg0 zg1 y0 y1
              generalize ((wr.drewN (1 + m)).setCell ⟨gc, i * 2, none⟩ (.int .u32 (r / 2 ^ (32 - a).toNat))).setCell ⟨gc, i * 2 + 1, none⟩ (.int .i64 a) = w8 at BK CK HO HRo HB ⊢
              by_cases ha0 : a = 0
              · subst ha0
                have e0 : ((0 : Int) == 0) = true := rfl
                have zs : w8.cell? ⟨g, 1, none⟩ = some (.slice (some ⟨gc, 0, none⟩) l.length l.length) := (blk_cell BK.out 1).trans (by rw [HCV.out]; rfl)
                have zg0 : w8.cell? ⟨gc, i * 2, none⟩ = some (.int .u32 _) := (blk_cell CK.out (i * 2)).trans (codeRow_get0 _ _ _ _ hlt2)
                have zg1 : w8.cell? ⟨gc, i * 2 + 1, none⟩ = some (.int .i64 _) := (blk_cell CK.out (i * 2 + 1)).trans (codeRow_get1 _ _ _ _ hlt2)
                have y0 := blk_frozen CK.out (i * 2)
                have y1 := blk_frozen CK.out (i * 2 + 1)
                have n6 := Aside0.mk (blk_set CK.out (i * 2) (.int .u32 0))
                have HV := Aside0.mk (row_miss l i r HA.out)
                go_wp2
                go_roundw
                case rel => exact ⟨i + 1, by omega, by go_num, ⟨by refine blk_far ?_ (by exact fun e => NC.out e.symm) _; refine blk_far ?_ (by exact fun e => NC.out e.symm) _; exact BK.out⟩, ⟨by rw [← HV.out, ← codeRow_set]; exact blk_set n6.out _ _⟩, ⟨R_far_ty (R_far_ty HO.out CK.out (by decide) _ _) n6.out (by decide) _ _⟩, ⟨R_far_ty (R_far_ty HRo.out CK.out (by decide) _ _) n6.out (by decide) _ _⟩, ⟨below_set (below_set HB.out GC.out) GC.out⟩⟩
                case measure => simp [intOf]; omega
              · have e0 : (a == 0) = false := beq_eq_false_iff_ne.mpr ha0
                have HV := Aside0.mk (row_hit l i a r HA.out ha0 (by rw [HX.out]; exact HRV.out))
                go_wp2
                go_roundw
                case rel => exact ⟨i + 1, by omega, by go_num, BK, ⟨by rw [← HV.out]; exact CK.out⟩, HO, HRo, HB⟩
                case measure => simp [intOf]; omega
          · have hk2 : i = l.length := by omega
            subst hk2
            have d1 : decide ((l.length : Int) < (l.length : Int)) = false := decide_eq_false (by omega)
            go_wp2
            go_ret2
            exact ⟨kd, 0, HK.out, HB.out, .inr ⟨rfl, g, rfl, gc, A, cc, by rw [HCV.out, HC.out]; exact BK.out, CK.out, HO.out, GE.out, GC.out⟩⟩
  · have e1 : (er != 0) = true := bne_iff_ne.mpr h0
    have e2 : (er == 0) = false := beq_eq_false_iff_ne.mpr h0
    go_wp2
    go_ret2
    exact ⟨kd, er, HK.out, HB.out, .inl ⟨h0, rfl⟩⟩

theorem IsT.below {base : Nat} {W W1 : World} {g : Nat} {l : List Int} {k : Int} (h : IsT base W g l k) (hb : Below W.heap.size W W1) : IsT base W1 g l k := by
  obtain ⟨gc, A, cc, h1, h2, h3, h4, h5⟩ := h
  exact ⟨gc, A, cc, blk_below h1 hb, blk_below h2 hb, Kd.R_below h3 hb, h4, h5⟩
/-- A symbol's code: the bits, and how many. -/
def atV (l : List Int) (s : Int) : Int := if 0 ≤ s ∧ s < l.length then bitsV l s.toNat else 0
def atN (l : List Int) (s : Int) : Int := if 0 ≤ s ∧ s < l.length then rd l s else 0

set_option maxHeartbeats 800000 in
set_option maxRecDepth 100000 in
theorem at_calls (base g : Nat) (l : List Int) (k s : Int) (w : World) (hT : IsT base w g l k) :
    Calls Try.prog 112 #[.pointer (some ⟨g, 0, none⟩), .int .i64 s] w fun e w' => e = .returned (.agg #[.int .u32 (atV l s), .int .i64 (atN l s)]) ∧ Below w.heap.size w w' := by
  obtain ⟨gc, A, cc, h1, h2, h3, h4, h5⟩ := hT
  have BK := Aside0.mk h1
  have CK := Aside0.mk h2
  clear h1 h2 h3
  by_cases hneg : s < 0
  · have d0 : decide (s < 0) = true := decide_eq_true hneg
    have HV := Aside0.mk (show atV l s = 0 ∧ atN l s = 0 from ⟨if_neg (by omega), if_neg (by omega)⟩)
    rw [HV.out.1, HV.out.2]
    go_enter Try.func112, Try.ntmps112
    go_wp2_with (first | ((with_reducible refine gate_dst (N := 4) rfl ?_); refine box_event rfl (N := 4) rfl (cs := #[.int .u32 0, .int .i64 0]) (t := 180) (by first | kernel_rfl | (go_simp; done) | (go_simp; rfl)) ?_; intro g4 hg w2 hblk hb; have G4 := Aside0.mk (Nat.le_of_eq hg.symm); have BK4 := Aside0.mk hblk; have HB2 := Aside0.mk hb; have BK2 := Aside0.mk (blk_below BK.out hb); have CK2 := Aside0.mk (blk_below CK.out hb); have z0 := blk_cell hblk 0; have z1 := blk_cell hblk 1; have y0 := blk_frozen hblk 0; have y1 := blk_frozen hblk 1; clear hg hblk hb))
    exact bodyPost_ret (results_cell_row rfl _ _ g4 180 #[.int .u32 0, .int .i64 0] (0, 0) _ rfl (by refine blk_put (cs := #[.int .u32 0, .int .i64 0]) ?_ 1 _ rfl; refine blk_put (cs := #[.int .u32 0, .int .i64 0]) ?_ 0 _ rfl; exact BK4.out) Try.underlying180 rfl (by kernel_rfl)) rfl ⟨rfl, below_set (below_set HB2.out G4.out) G4.out⟩
  · have d0 : decide (s < 0) = false := decide_eq_false hneg
    by_cases hge : s < l.length
    · have d2 : decide ((l.length : Int) ≤ s) = false := decide_eq_false (by omega)
      obtain ⟨i, rfl⟩ : ∃ i : Nat, s = i := ⟨s.toNat, by omega⟩
      have hi : i < l.length := by omega
      have p1 : 0 ≤ (i : Int) := by omega
      have q1 : (i : Int) < (l.length : Int) := by omega
      have HV := Aside0.mk (show atV l i = bitsV l i ∧ atN l i = rd l i from ⟨if_pos ⟨by omega, by omega⟩, if_pos ⟨by omega, by omega⟩⟩)
      rw [HV.out.1, HV.out.2]
      go_enter Try.func112, Try.ntmps112
      go_wp2_with (first | ((with_reducible refine gate_dst (N := 4) rfl ?_); refine box_event rfl (N := 4) rfl (cs := #[.int .u32 0, .int .i64 0]) (t := 180) (by first | kernel_rfl | (go_simp; done) | (go_simp; rfl)) ?_; intro g4 hg w2 hblk hb; have G4 := Aside0.mk (Nat.le_of_eq hg.symm); have BK4 := Aside0.mk hblk; have HB2 := Aside0.mk hb; have BK2 := Aside0.mk (blk_below BK.out hb); have CK2 := Aside0.mk (blk_below CK.out hb); have z0 := blk_cell hblk 0; have z1 := blk_cell hblk 1; have y0 := blk_frozen hblk 0; have y1 := blk_frozen hblk 1; have zs : w2.cell? ⟨g, 1, none⟩ = some (.slice (some ⟨gc, 0, none⟩) l.length l.length) := (blk_cell BK2.out 1).trans rfl; have zg0 : w2.cell? ⟨gc, i * 2, none⟩ = some (.int .u32 (bitsV l i)) := (blk_cell CK2.out (i * 2)).trans ((codeRow_get0 _ _ _ _ hi).trans (by rw [vOf, if_pos hi])); have zg1 : w2.cell? ⟨gc, i * 2 + 1, none⟩ = some (.int .i64 (rd l (i : Int))) := (blk_cell CK2.out (i * 2 + 1)).trans ((codeRow_get1 _ _ _ _ hi).trans (by rw [nOf, if_pos hi])); clear hg hblk hb))
      exact bodyPost_ret (results_cell_row rfl _ _ g4 180 #[.int .u32 (bitsV l i), .int .i64 (rd l (i : Int))] (0, 0) _ rfl (by refine blk_put (cs := #[.int .u32 (bitsV l i), .int .i64 0]) ?_ 1 _ rfl; refine blk_put (cs := #[.int .u32 0, .int .i64 0]) ?_ 0 _ rfl; exact BK4.out) Try.underlying180 rfl (by kernel_rfl)) rfl ⟨rfl, below_set (below_set HB2.out G4.out) G4.out⟩
    · have d2 : decide ((l.length : Int) ≤ s) = true := decide_eq_true (by omega)
      have HV := Aside0.mk (show atV l s = 0 ∧ atN l s = 0 from ⟨if_neg (by omega), if_neg (by omega)⟩)
      rw [HV.out.1, HV.out.2]
      go_enter Try.func112, Try.ntmps112
      go_wp2_with (first | ((with_reducible refine gate_dst (N := 4) rfl ?_); refine box_event rfl (N := 4) rfl (cs := #[.int .u32 0, .int .i64 0]) (t := 180) (by first | kernel_rfl | (go_simp; done) | (go_simp; rfl)) ?_; intro g4 hg w2 hblk hb; have G4 := Aside0.mk (Nat.le_of_eq hg.symm); have BK4 := Aside0.mk hblk; have HB2 := Aside0.mk hb; have BK2 := Aside0.mk (blk_below BK.out hb); have CK2 := Aside0.mk (blk_below CK.out hb); have z0 := blk_cell hblk 0; have z1 := blk_cell hblk 1; have y0 := blk_frozen hblk 0; have y1 := blk_frozen hblk 1; have zs : w2.cell? ⟨g, 1, none⟩ = some (.slice (some ⟨gc, 0, none⟩) l.length l.length) := (blk_cell BK2.out 1).trans rfl; clear hg hblk hb))
      exact bodyPost_ret (results_cell_row rfl _ _ g4 180 #[.int .u32 0, .int .i64 0] (0, 0) _ rfl (by refine blk_put (cs := #[.int .u32 0, .int .i64 0]) ?_ 1 _ rfl; refine blk_put (cs := #[.int .u32 0, .int .i64 0]) ?_ 0 _ rfl; exact BK4.out) Try.underlying180 rfl (by kernel_rfl)) rfl ⟨rfl, below_set (below_set HB2.out G4.out) G4.out⟩

set_option maxHeartbeats 800000 in
set_option maxRecDepth 100000 in
theorem bits_calls (base g : Nat) (l : List Int) (k s : Int) (w : World) (hT : IsT base w g l k) :
    Calls Try.prog 111 #[.pointer (some ⟨g, 0, none⟩), .int .i64 s] w fun e w' => e = .returned (.int .i64 (atN l s)) ∧ Below w.heap.size w w' := by
  have HT := Aside0.mk hT
  clear hT
  have hfd : ∀ (z0 z1 : Value) (W : World), (Instr.field 180 (.agg #[z0, z1]) 1).run Try.prog W = .ok z1 W := fun z0 z1 W => by kernel_rfl
  go_enter Try.func111, Try.ntmps111
  go_wp2_with fail
  refine (at_calls base g l k s _ HT.out).mono ?_
  rintro e w' ⟨rfl, hB⟩
  have HB := Aside0.mk hB
  clear hB
  go_wp2
  go_ret
  exact ⟨rfl, HB.out⟩

end Go.Proofs.Ytmanmjjjepdhlaa.XPrefix
