/- prefix.counts and Check: what they do. It has no conditions. -/
import Derived.Test.YtiemjhoadobigaaXPrefixReadsx
import Derived.BigRegion
import Derived.RegionTactic
import Derived.ChangeAlike
import Derived.Deep.RegionWith
import Derived.Deep.RegionLaw
import Derived.Laws.Tables
import Derived.Deep.QuietTactic
import Derived.BigQuiet
import Derived.Deep.RegionHeld3
import Derived.Deep.AppendLies
import Derived.Deep.DrawnRows
import Derived.Laws.CopyOwn
import Derived.Deep.MidRow
import Derived.Laws.ResultCell
import Derived.ChangeKeysEq
namespace Go.Proofs.Ytiemjhoadobigaa.XPrefix
set_option linter.unusedVariables false
set_option linter.unusedSimpArgs false
open Go.RowKit Go.Proofs.YtiemjhoadobigaaW.PrintWords Go.Proofs.YtiemjhoadobigaaW.PrintLast Go.Proofs.YtiemjhoadobigaaW.PrintMore
attribute [local go_sem] max2_int min2_int max_two min_two max_three min_three max_four min_four

/-- A row of numbers. -/
def rowOf (n : Nat) (f : Nat → Int) : Array Value := ((List.range n).map fun i => Value.int .i64 (f i)).toArray
theorem rowOf_get (n : Nat) (f : Nat → Int) (i : Nat) (h : i < n) : (rowOf n f)[i]? = some (.int .i64 (f i)) := by
  unfold rowOf
  rw [List.getElem?_toArray, List.getElem?_map, List.getElem?_range h]
  rfl
def upd (f : Nat → Int) (i : Nat) (x : Int) : Nat → Int := fun j => if j = i then x else f j
theorem rowOf_set (n : Nat) (f : Nat → Int) (i : Nat) (x : Int) : (rowOf n f).setIfInBounds i (.int .i64 x) = rowOf n (upd f i x) := by
  apply Array.ext'
  apply List.ext_getElem
  · simp [rowOf]
  · intro j h1 h2
    simp [rowOf] at h1 h2
    simp [rowOf, upd, List.getElem_set]
    by_cases h : i = j
    · subst h; simp
    · rw [if_neg h, if_neg (fun e => h e.symm)]
theorem rowOf_congr (n : Nat) (f g : Nat → Int) (h : ∀ i, i < n → f i = g i) : rowOf n f = rowOf n g := by
  unfold rowOf
  congr 1
  apply List.map_congr_left
  intro i hi
  rw [h i (by simpa using hi)]
theorem rowOf_size (n : Nat) (f : Nat → Int) : (rowOf n f).size = n := by simp [rowOf]
theorem rowOf_one (n : Nat) (f : Nat → Int) : (rowOf n f).all (·.oneCell') = true := by
  simp [rowOf, Value.oneCell']
theorem results_cell_row_tmp {P : Program} {fn : Func} {p u : Tmp} {ty : TypeId} (h : fn.results = #[.cell p ty, .tmp u]) (tmps : Array Value) (w : World) (g : Nat) (t : TypeId) (cs : Array Value) (fr : Nat × Nat) (d : TypeDesc)
    (hp : tmps.getD p undef = .pointer (some ⟨g, 0, none⟩)) (hg : w.heap[g]? = some (.cells cs t fr))
    (hu : P.underlying ty = some d) (hd : (match d with | .struct _ | .array _ _ => true | _ => false) = true) (hi : (P.info? ty).map (·.size) = some cs.size) (v : Value) (hv : tmps.getD u undef = v) :
    (results fn tmps).run P w = .ok (.tuple #[.agg cs, v]) w := by
  rw [results_cell_tmp h, hp, hv]
  simp [asAddr, run_loadVar_row w g t ty cs fr d hg hu hd hi, Result.andThen]

/-- How often a number comes among the first k. -/
def cnt (l : List Int) : Nat → Nat → Int
  | 0, _ => 0
  | k + 1, j => cnt l k j + if rd l (k : Int) = (j : Int) then 1 else 0
theorem cnt_range (l : List Int) : ∀ (k j : Nat), 0 ≤ cnt l k j ∧ cnt l k j ≤ k
  | 0, _ => by simp [cnt]
  | k + 1, j => by
    have := cnt_range l k j
    rw [cnt]
    split <;> omega
theorem cnt_step (l : List Int) (k : Nat) (a : Int) (h0 : 0 ≤ a) (ha : rd l (k : Int) = a) : upd (cnt l k) a.toNat (cnt l k a.toNat + 1) = cnt l (k + 1) := by
  funext j
  unfold upd
  rw [cnt, ha]
  by_cases h : j = a.toNat
  · subst h
    rw [if_pos rfl, if_pos (by omega)]
  · rw [if_neg h, if_neg (by omega), Int.add_zero]
/-- Lengths that may be. -/
def OkL (l : List Int) : Prop := l.length ≤ 288 ∧ ∀ i : Nat, i < l.length → 0 ≤ rd l (i : Int) ∧ rd l (i : Int) ≤ 15

/-- What counts hands back: how often each comes, or that they may not be. -/
def CRes (l : List Int) (f : Nat → Int) (b : Bool) : Prop := (b = true ∧ OkL l ∧ f = cnt l l.length) ∨ (b = false ∧ ¬ OkL l)
def CPost (l : List Int) (w : World) (e : Ending) (w' : World) : Prop := (∃ f b, e = .returned (.tuple #[.agg (rowOf 16 f), .bool b]) ∧ CRes l f b) ∧ Below w.heap.size w w'

set_option maxHeartbeats 800000 in
set_option maxRecDepth 100000 in
theorem counts_calls (A0 : Option Addr) (c0 : Nat) (l : List Int) (w : World) (hr0 : Kd.C (Kd.int .i64) w A0 l.length l) :
    Calls Try.prog 25 #[.slice A0 l.length c0] w fun e w' => CPost l w e w' := by
  have HR0 := Aside0.mk hr0
  clear hr0
  by_cases h288 : 288 < l.length
  · have d0 : decide (288 < l.length) = true := decide_eq_true h288
    have d1 : decide (288 < (l.length : Int)) = true := decide_eq_true (by omega)
    have HN := Aside0.mk (show ¬ OkL l from fun h => absurd h.1 (by omega))
    go_enter Try.func25, Try.ntmps25
    go_wp2_with (first | ((with_reducible refine gate_dst (N := 2) rfl ?_); refine box_event rfl (N := 2) rfl (cs := rowOf 16 (fun _ => 0)) (t := 54) (by kernel_rfl) ?_; intro g2 hg w1 hblk hb; have G2 := Aside0.mk (Nat.le_of_eq hg.symm); have BK2 := Aside0.mk hblk; have HB := Aside0.mk hb; clear hg hblk hb) | ((with_reducible refine gate_dst (N := 4) rfl ?_); refine box_event rfl (N := 4) rfl (cs := rowOf 16 (fun _ => 0)) (t := 54) (by kernel_rfl) ?_; intro g hg w2 hblk hb; have GE := Aside0.mk (show w.heap.size ≤ g by have := below_size HB.out; omega); have GN := Aside0.mk (show g2 ≠ g by have := blk_lt BK2.out; omega); have BK := Aside0.mk hblk; have BK2' := Aside0.mk (blk_below BK2.out hb); have HB2 := Aside0.mk (below_step HB.out hb); clear hg hblk hb) | ((with_reducible refine gate_dst (N := 10) rfl ?_); refine wpList_load_row rfl 54 _ rfl g rfl 54 (rowOf 16 (fun _ => 0)) (0, 0) _ BK.out Try.underlying54 rfl (by kernel_rfl) ?_) | (refine wpList_store_row rfl 54 _ _ rfl g2 (rowOf 16 (fun _ => 0)) rfl rfl 54 (rowOf 16 (fun _ => 0)) BK2'.out (by kernel_rfl) rfl (rowOf_one 16 _) ?_))
    exact bodyPost_ret (results_cell_row_tmp (p := 2) (u := 3) rfl _ _ g2 54 (rowOf 16 (fun _ => 0)) (0, 0) _ rfl (setRow_heap _ g2 _ _ 54 (0, 0) BK2'.out) Try.underlying54 rfl (by kernel_rfl) _ rfl) rfl ⟨⟨_, false, rfl, .inr ⟨rfl, HN.out⟩⟩, Go.below_setRow HB2.out G2.out _⟩
  · have d0 : decide (288 < l.length) = false := decide_eq_false h288
    have d1 : decide (288 < (l.length : Int)) = false := decide_eq_false (by omega)
    have HL := Aside0.mk h288
    have hL2 : l.length ≤ 288 := by omega
    go_enter Try.func25, Try.ntmps25
    go_wp2_with (first | ((with_reducible refine gate_dst (N := 2) rfl ?_); refine box_event rfl (N := 2) rfl (cs := rowOf 16 (fun _ => 0)) (t := 54) (by kernel_rfl) ?_; intro g2 hg w1 hblk hb; have G2 := Aside0.mk (Nat.le_of_eq hg.symm); have BK2 := Aside0.mk hblk; have HB := Aside0.mk hb; clear hg hblk hb) | ((with_reducible refine gate_dst (N := 4) rfl ?_); refine box_event rfl (N := 4) rfl (cs := rowOf 16 (fun _ => 0)) (t := 54) (by kernel_rfl) ?_; intro g hg w2 hblk hb; have GE := Aside0.mk (show w.heap.size ≤ g by have := below_size HB.out; omega); have GN := Aside0.mk (show g2 ≠ g by have := blk_lt BK2.out; omega); have BK := Aside0.mk hblk; have BK2' := Aside0.mk (blk_below BK2.out hb); have HB2 := Aside0.mk (below_step HB.out hb); clear hg hblk hb))
    clear HB BK2 d0 d1 h288
    go_loopw [6, 13] (fun v6 v13 wr => ∃ k : Nat, k ≤ l.length ∧ v13 = .int .i64 (k : Int) ∧ Aside0 (wr.heap[g2]? = some (.cells (rowOf 16 (fun _ => 0)) 54 (0, 0))) ∧ Aside0 (wr.heap[g]? = some (.cells (rowOf 16 (cnt l k)) 54 (0, 0))) ∧ Aside0 (Below w.heap.size w wr) ∧ Aside0 (∀ i : Nat, i < k → 0 ≤ rd l (i : Int) ∧ rd l (i : Int) ≤ 15)) (fun _ v13 _ => l.length - (intOf v13).toNat)
    case atStart => exact ⟨0, by omega, rfl, BK2', ⟨by exact BK.out⟩, HB2, ⟨fun i h => absurd h (by omega)⟩⟩
    case round =>
      clear BK2' BK HB2
      obtain ⟨k, hk, rfl, BK2, BK, HB, HO⟩ := hrel
      by_cases hlt : k < l.length
      · have c0 : decide ((k : Int) < (l.length : Int)) = true := decide_eq_true (by omega)
        have p1 : 0 ≤ (k : Int) := by omega
        have q1 : (k : Int) < (l.length : Int) := by omega
        obtain ⟨ad, e1, hx0⟩ := Kd.at_int HR0.out (k : Int) p1 q1
        cases e1
        rw [Int.toNat_natCast] at hx0
        replace hx0 := (HB.out.cell (World.block_lt_of_cell? w _ hx0)).trans hx0
        obtain ⟨a, ha⟩ : ∃ a, rd l (k : Int) = a := ⟨_, rfl⟩
        rw [ha] at hx0
        have HA := Aside0.mk ha
        clear ha
        by_cases hneg : a < 0
        · have d0 : decide (a < 0) = true := decide_eq_true hneg
          have HN := Aside0.mk (show ¬ OkL l from fun h => absurd (h.2 k hlt).1 (by rw [HA.out]; omega))
          go_wp2_with (first | ((with_reducible refine gate_dst (N := 23) rfl ?_); refine wpList_load_row rfl 54 _ rfl g rfl 54 (rowOf 16 (cnt l k)) (0, 0) _ BK.out Try.underlying54 rfl (by rw [rowOf_size]; kernel_rfl) ?_) | (refine wpList_store_row rfl 54 _ _ rfl g2 (rowOf 16 (cnt l k)) rfl rfl 54 (rowOf 16 (fun _ => 0)) BK2.out (by rw [rowOf_size]; kernel_rfl) (by rw [rowOf_size, rowOf_size]) (rowOf_one 16 _) ?_))
          exact bodyPost_ret (results_cell_row_tmp (p := 2) (u := 3) rfl _ _ g2 54 (rowOf 16 (cnt l k)) (0, 0) _ rfl (setRow_heap _ g2 _ _ 54 (0, 0) BK2.out) Try.underlying54 rfl (by rw [rowOf_size]; kernel_rfl) _ rfl) rfl ⟨⟨_, false, rfl, .inr ⟨rfl, HN.out⟩⟩, Go.below_setRow HB.out G2.out _⟩
        · have d0 : decide (a < 0) = false := decide_eq_false hneg
          by_cases h15 : 15 < a
          · have d2 : decide (15 < a) = true := decide_eq_true h15
            have HN := Aside0.mk (show ¬ OkL l from fun h => absurd (h.2 k hlt).2 (by rw [HA.out]; omega))
            go_wp2_with (first | ((with_reducible refine gate_dst (N := 23) rfl ?_); refine wpList_load_row rfl 54 _ rfl g rfl 54 (rowOf 16 (cnt l k)) (0, 0) _ BK.out Try.underlying54 rfl (by rw [rowOf_size]; kernel_rfl) ?_) | (refine wpList_store_row rfl 54 _ _ rfl g2 (rowOf 16 (cnt l k)) rfl rfl 54 (rowOf 16 (fun _ => 0)) BK2.out (by rw [rowOf_size]; kernel_rfl) (by rw [rowOf_size, rowOf_size]) (rowOf_one 16 _) ?_))
            exact bodyPost_ret (results_cell_row_tmp (p := 2) (u := 3) rfl _ _ g2 54 (rowOf 16 (cnt l k)) (0, 0) _ rfl (setRow_heap _ g2 _ _ 54 (0, 0) BK2.out) Try.underlying54 rfl (by rw [rowOf_size]; kernel_rfl) _ rfl) rfl ⟨⟨_, false, rfl, .inr ⟨rfl, HN.out⟩⟩, Go.below_setRow HB.out G2.out _⟩
          · have d2 : decide (15 < a) = false := decide_eq_false h15
            have p2 : 0 ≤ a := by omega
            have q2 : a < 16 := by omega
            have hxr := cnt_range l k a.toNat
            have HH := Aside0.mk ((rowOf_set 16 (cnt l k) a.toNat (cnt l k a.toNat + 1)).trans (congrArg (rowOf 16) (cnt_step l k a p2 HA.out)))
            obtain ⟨x, hx⟩ : ∃ x, cnt l k a.toNat = x := ⟨_, rfl⟩
            have zc : wr.cell? ⟨g, a.toNat, none⟩ = some (.int .i64 x) := by rw [← hx]; exact (blk_cell BK.out a.toNat).trans (rowOf_get 16 _ _ (by omega))
            have yc := blk_frozen BK.out a.toNat
            rw [hx] at HH hxr
            have s1 := Aside0.mk (show wrap64 (x + 1) = x + 1 by have := HL.out; unfold wrap64; omega)
            clear hx hxr
            go_wp2
            go_roundw
            case rel => exact ⟨k + 1, by omega, by go_num, ⟨by refine blk_far ?_ (by exact GN.out) _; exact BK2.out⟩, ⟨by refine blk_put (cs := rowOf 16 (cnt l k)) ?_ a.toNat _ (by rw [s1.out]; exact HH.out); exact BK.out⟩, ⟨below_set HB.out GE.out⟩, ⟨fun i hi => by
              by_cases e : i = k
              · subst e; rw [HA.out]; exact ⟨by omega, by omega⟩
              · exact HO.out i (by omega)⟩⟩
            case measure => simp [intOf]; omega
      · have hk2 : k = l.length := by omega
        subst hk2
        have c0 : decide ((l.length : Int) < (l.length : Int)) = false := decide_eq_false (by omega)
        have HN := Aside0.mk (show OkL l from ⟨by have := HL.out; omega, HO.out⟩)
        go_wp2_with (first | ((with_reducible refine gate_dst (N := 30) rfl ?_); refine wpList_load_row rfl 54 _ rfl g rfl 54 (rowOf 16 (cnt l l.length)) (0, 0) _ BK.out Try.underlying54 rfl (by rw [rowOf_size]; kernel_rfl) ?_) | (refine wpList_store_row rfl 54 _ _ rfl g2 (rowOf 16 (cnt l l.length)) rfl rfl 54 (rowOf 16 (fun _ => 0)) BK2.out (by rw [rowOf_size]; kernel_rfl) (by rw [rowOf_size, rowOf_size]) (rowOf_one 16 _) ?_))
        exact bodyPost_ret (results_cell_row_tmp (p := 2) (u := 3) rfl _ _ g2 54 (rowOf 16 (cnt l l.length)) (0, 0) _ rfl (setRow_heap _ g2 _ _ 54 (0, 0) BK2.out) Try.underlying54 rfl (by rw [rowOf_size]; kernel_rfl) _ rfl) rfl ⟨⟨_, true, rfl, .inl ⟨rfl, HN.out, rfl⟩⟩, Go.below_setRow HB.out G2.out _⟩

/-- What is left of the room of n bits, less what the codes take. -/
def lf (c : Nat → Int) : Nat → Int
  | 0 => 1
  | n + 1 => 2 * lf c n - c (n + 1)
theorem lf_le (c : Nat → Int) (hc : ∀ j, 0 ≤ c j) : ∀ n, lf c n ≤ 2 ^ n
  | 0 => by simp [lf]
  | n + 1 => by
    have := lf_le c hc n
    have := hc (n + 1)
    rw [lf, Int.pow_succ]
    omega
theorem pow_le_15 (n : Nat) (h : n ≤ 16) : (2 : Int) ^ n ≤ 65536 := by
  have : n = 0 ∨ n = 1 ∨ n = 2 ∨ n = 3 ∨ n = 4 ∨ n = 5 ∨ n = 6 ∨ n = 7 ∨ n = 8 ∨ n = 9 ∨ n = 10 ∨ n = 11 ∨ n = 12 ∨ n = 13 ∨ n = 14 ∨ n = 15 ∨ n = 16 := by omega
  rcases this with rfl | rfl | rfl | rfl | rfl | rfl | rfl | rfl | rfl | rfl | rfl | rfl | rfl | rfl | rfl | rfl | rfl <;> decide
/-- What Check says. -/
def KRes (l : List Int) (k e : Int) : Prop :=
  (¬ OkL l ∧ k = 0 ∧ e = 1) ∨
  (OkL l ∧ (∃ j, j ≤ 15 ∧ lf (cnt l l.length) j < 0) ∧ k = 0 ∧ e = 10) ∨
  (OkL l ∧ (∀ j, j ≤ 15 → 0 ≤ lf (cnt l l.length) j) ∧
    ((l.length - cnt l l.length 0 = 0 ∧ k = 2 ∧ e = 0) ∨
     (l.length - cnt l l.length 0 ≠ 0 ∧ ¬ (l.length - cnt l l.length 0 ≠ 1) ∧ cnt l l.length 1 = 1 ∧ k = 1 ∧ e = 0) ∨
     (l.length - cnt l l.length 0 ≠ 0 ∧ (l.length - cnt l l.length 0 ≠ 1 ∨ cnt l l.length 1 ≠ 1) ∧ 0 < lf (cnt l l.length) 15 ∧ k = 0 ∧ e = 10) ∨
     (l.length - cnt l l.length 0 ≠ 0 ∧ (l.length - cnt l l.length 0 ≠ 1 ∨ cnt l l.length 1 ≠ 1) ∧ lf (cnt l l.length) 15 = 0 ∧ k = 0 ∧ e = 0)))
def KPost (l : List Int) (w : World) (e : Ending) (w' : World) : Prop := ∃ k er, e = .returned (.tuple #[.int .i64 k, .int .i64 er]) ∧ KRes l k er ∧ Below w.heap.size w w'

set_option maxHeartbeats 800000 in
set_option maxRecDepth 100000 in
theorem check_calls (A0 : Option Addr) (c0 : Nat) (l : List Int) (w : World) (hr0 : Kd.C (Kd.int .i64) w A0 l.length l) :
    Calls Try.prog 18 #[.slice A0 l.length c0] w fun e w' => KPost l w e w' := by
  have HR0 := Aside0.mk hr0
  clear hr0
  go_enter Try.func18, Try.ntmps18
  go_wp2_with fail
  refine (counts_calls A0 c0 l _ HR0.out).mono ?_
  rintro e w' ⟨⟨f, b, rfl, hC⟩, hB⟩
  have HB0 := Aside0.mk hB
  clear hB
  rcases hC with ⟨rfl, ok, rfl⟩ | ⟨rfl, nok⟩
  · have OK := Aside0.mk ok
    clear ok
    obtain ⟨c, hc⟩ : ∃ c, cnt l l.length = c := ⟨_, rfl⟩
    have CR := Aside0.mk (fun j => hc ▸ cnt_range l l.length j)
    rw [hc]
    have HC := Aside0.mk hc
    clear hc
    go_wp2_with (first | ((with_reducible refine gate_dst (N := 4) rfl ?_); refine box_event rfl (N := 4) rfl (cs := rowOf 16 (fun _ => 0)) (t := 54) (by kernel_rfl) ?_; intro g hg w2 hblk hb; have GE := Aside0.mk (show w.heap.size ≤ g by have := below_size HB0.out; omega); have BK := Aside0.mk hblk; have HB2 := Aside0.mk (below_step HB0.out hb); clear hg hblk hb) | (refine wpList_store_row rfl 54 _ _ rfl g (rowOf 16 c) rfl rfl 54 (rowOf 16 (fun _ => 0)) BK.out (by rw [rowOf_size]; kernel_rfl) (by rw [rowOf_size, rowOf_size]) (rowOf_one 16 _) ?_; have BK2 := Aside0.mk (setRow_heap w2 g _ (rowOf 16 c) 54 (0, 0) BK.out); have HB3 := Aside0.mk (below_setRow HB2.out GE.out (rowOf 16 c))))
    clear HB2 BK HB0
    go_loopw [6, 7] (fun v6 v7 wr => ∃ k : Nat, k ≤ 15 ∧ v7 = .int .i64 ((k : Int) + 1) ∧ v6 = .int .i64 (lf c k) ∧ Aside0 (wr.heap[g]? = some (.cells (rowOf 16 c) 54 (0, 0))) ∧ Aside0 (Below w.heap.size w wr) ∧ Aside0 (∀ j, j ≤ k → 0 ≤ lf c j)) (fun _ v7 _ => 17 - (intOf v7).toNat)
    case atStart => exact ⟨0, by omega, rfl, rfl, BK2, HB3, ⟨fun j h => by rw [show j = 0 from by omega]; simp [lf]⟩⟩
    case round =>
      clear BK2 HB3
      obtain ⟨k, hk, rfl, rfl, BK2, HB3, HP⟩ := hrel
      have l0 := HP.out k (Nat.le_refl _)
      have l1 := Int.le_trans (lf_le c (fun j => (CR.out j).1) k) (pow_le_15 k (by omega))
      by_cases hlt : k < 15
      · have d0 : decide ((k : Int) + 1 ≤ 15) = true := decide_eq_true (by omega)
        have p1 : 0 ≤ (k : Int) + 1 := by omega
        have q1 : (k : Int) + 1 < 16 := by omega
        have zc : wr.cell? ⟨g, k + 1, none⟩ = some (.int .i64 (c (k + 1))) := (blk_cell BK2.out (k + 1)).trans (rowOf_get 16 _ _ (by omega))
        have hcr := (CR.out (k + 1))
        have hl288 := OK.out.1
        obtain ⟨x, hx⟩ : ∃ x, c (k + 1) = x := ⟨_, rfl⟩
        obtain ⟨y, hy⟩ : ∃ y, lf c k = y := ⟨_, rfl⟩
        have HL := Aside0.mk (show lf c (k + 1) = 2 * y - x by rw [lf, hx, hy])
        rw [hx] at zc hcr
        rw [hy] at l0 l1
        rw [hy]
        clear hx hy
        have s1 : wrap64 (2 * y) = 2 * y := by unfold wrap64; omega
        have s2 : wrap64 (2 * y - x) = 2 * y - x := by unfold wrap64; omega
        by_cases hneg : 2 * y - x < 0
        · have d1 : decide (2 * y - x < 0) = true := decide_eq_true hneg
          have HN := Aside0.mk (show KRes l 0 10 from .inr (.inl ⟨OK.out, ⟨k + 1, by omega, by rw [HC.out, HL.out]; exact hneg⟩, rfl, rfl⟩))
          go_wp2
          go_ret2
          exact ⟨_, _, rfl, HN.out, HB3.out⟩
        · have d1 : decide (2 * y - x < 0) = false := decide_eq_false hneg
          go_wp2
          go_roundw
          case rel => exact ⟨k + 1, by omega, by go_num, by rw [HL.out], BK2, HB3, ⟨fun j hj => by
            by_cases e : j = k + 1
            · rw [e, HL.out]; omega
            · exact HP.out j (by omega)⟩⟩
          case measure => simp [intOf]; omega
      · have hk15 : k = 15 := by omega
        subst hk15
        have d0 : decide (((15 : Nat) : Int) + 1 ≤ 15) = false := by decide
        have zc0 : wr.cell? ⟨g, 0, none⟩ = some (.int .i64 (c 0)) := (blk_cell BK2.out 0).trans (rowOf_get 16 _ _ (by omega))
        have zc1 : wr.cell? ⟨g, 1, none⟩ = some (.int .i64 (c 1)) := (blk_cell BK2.out 1).trans (rowOf_get 16 _ _ (by omega))
        have hc0 := CR.out 0
        have hl288 := OK.out.1
        obtain ⟨x0, hx0⟩ : ∃ x, c 0 = x := ⟨_, rfl⟩
        obtain ⟨x1, hx1⟩ : ∃ x, c 1 = x := ⟨_, rfl⟩
        obtain ⟨y, hy⟩ : ∃ y, lf c 15 = y := ⟨_, rfl⟩
        rw [hy] at l0 l1
        rw [hy]
        rw [hx0] at zc0 hc0
        rw [hx1] at zc1
        have HZ := Aside0.mk (show (l.length : Int) - cnt l l.length 0 = (l.length : Int) - x0 by rw [HC.out, hx0])
        have HX := Aside0.mk (show cnt l l.length 1 = x1 by rw [HC.out]; exact hx1)
        have HY := Aside0.mk (show lf (cnt l l.length) 15 = y by rw [HC.out]; exact hy)
        have HPP := Aside0.mk (show ∀ j, j ≤ 15 → 0 ≤ lf (cnt l l.length) j by rw [HC.out]; exact HP.out)
        clear hx0 hx1 hy HP
        by_cases hz0 : (l.length : Int) - x0 = 0
        · have HN := Aside0.mk (show KRes l 2 0 from .inr (.inr ⟨OK.out, HPP.out, .inl ⟨by rw [HZ.out]; exact hz0, rfl, rfl⟩⟩))
          have e1 : ((l.length : Int) - x0 == 0) = true := beq_iff_eq.mpr hz0
          go_wp2
          go_ret2
          exact ⟨_, _, rfl, HN.out, HB3.out⟩
        · have e1 : ((l.length : Int) - x0 == 0) = false := beq_eq_false_iff_ne.mpr hz0
          by_cases hz1 : (l.length : Int) - x0 = 1
          · have e3 : ((l.length : Int) - x0 == 1) = true := beq_iff_eq.mpr hz1
            by_cases hx11 : x1 = 1
            · have e4 : (x1 == 1) = true := beq_iff_eq.mpr hx11
              have HN := Aside0.mk (show KRes l 1 0 from .inr (.inr ⟨OK.out, HPP.out, .inr (.inl ⟨by rw [HZ.out]; exact hz0, by rw [HZ.out]; exact fun h => h hz1, by rw [HX.out]; exact hx11, rfl, rfl⟩)⟩))
              go_wp2
              go_ret2
              exact ⟨_, _, rfl, HN.out, HB3.out⟩
            · have e4 : (x1 == 1) = false := beq_eq_false_iff_ne.mpr hx11
              by_cases hy0 : 0 < y
              · have e5 : decide (0 < y) = true := decide_eq_true hy0
                have HN := Aside0.mk (show KRes l 0 10 from .inr (.inr ⟨OK.out, HPP.out, .inr (.inr (.inl ⟨by rw [HZ.out]; exact hz0, .inr (by rw [HX.out]; exact hx11), by rw [HY.out]; exact hy0, rfl, rfl⟩))⟩))
                go_wp2
                go_ret2
                exact ⟨_, _, rfl, HN.out, HB3.out⟩
              · have e5 : decide (0 < y) = false := decide_eq_false hy0
                have HN := Aside0.mk (show KRes l 0 0 from .inr (.inr ⟨OK.out, HPP.out, .inr (.inr (.inr ⟨by rw [HZ.out]; exact hz0, .inr (by rw [HX.out]; exact hx11), by rw [HY.out]; omega, rfl, rfl⟩))⟩))
                go_wp2
                go_ret2
                exact ⟨_, _, rfl, HN.out, HB3.out⟩
          · have e3 : ((l.length : Int) - x0 == 1) = false := beq_eq_false_iff_ne.mpr hz1
            by_cases hy0 : 0 < y
            · have e5 : decide (0 < y) = true := decide_eq_true hy0
              have HN := Aside0.mk (show KRes l 0 10 from .inr (.inr ⟨OK.out, HPP.out, .inr (.inr (.inl ⟨by rw [HZ.out]; exact hz0, .inl (by rw [HZ.out]; exact hz1), by rw [HY.out]; exact hy0, rfl, rfl⟩))⟩))
              go_wp2
              go_ret2
              exact ⟨_, _, rfl, HN.out, HB3.out⟩
            · have e5 : decide (0 < y) = false := decide_eq_false hy0
              have HN := Aside0.mk (show KRes l 0 0 from .inr (.inr ⟨OK.out, HPP.out, .inr (.inr (.inr ⟨by rw [HZ.out]; exact hz0, .inl (by rw [HZ.out]; exact hz1), by rw [HY.out]; omega, rfl, rfl⟩))⟩))
              go_wp2
              go_ret2
              exact ⟨_, _, rfl, HN.out, HB3.out⟩
  · have HN := Aside0.mk (show KRes l 0 1 from .inl ⟨nok, rfl, rfl⟩)
    clear nok
    go_wp2_with (first | ((with_reducible refine gate_dst (N := 4) rfl ?_); refine box_event rfl (N := 4) rfl (cs := rowOf 16 (fun _ => 0)) (t := 54) (by kernel_rfl) ?_; intro g hg w2 hblk hb; have GE := Aside0.mk (show w.heap.size ≤ g by have := below_size HB0.out; omega); have BK := Aside0.mk hblk; have HB2 := Aside0.mk (below_step HB0.out hb); clear hg hblk hb) | (refine wpList_store_row rfl 54 _ _ rfl g (rowOf 16 f) rfl rfl 54 (rowOf 16 (fun _ => 0)) BK.out (by rw [rowOf_size]; kernel_rfl) (by rw [rowOf_size, rowOf_size]) (rowOf_one 16 _) ?_; have HB3 := Aside0.mk (below_setRow HB2.out GE.out (rowOf 16 f))))
    go_ret2
    exact ⟨_, _, rfl, HN.out, HB3.out⟩

end Go.Proofs.Ytiemjhoadobigaa.XPrefix
