/- RunsUnpack: the walk of the law, and what it rests on. It has no conditions. -/
import Derived.Test.YtndcfccbicognaaXRunsUnpackx
import Derived.Test.YtndcfccbicognaaXOpens
import Derived.BigRegion
import Derived.RegionTactic
import Derived.ChangeAlike
import Derived.Deep.RegionWith
import Derived.Laws.Tables
import Derived.ChangeKeysEq
import Derived.Deep.QuietTactic
import Derived.BigQuiet
import Derived.Laws.CopyOwn
import Derived.Deep.RegionHeld3
import Derived.Deep.MidRow
namespace Go.Proofs.Ytndcfccbicognaa.XRunsUnpack
set_option linter.unusedVariables false
set_option linter.unusedSimpArgs false
open Go.RowKit Go.Proofs.YtndcfccbicognaaW.PrintWords Go.Proofs.YtndcfccbicognaaW.PrintLast Go.Proofs.YtndcfccbicognaaW.PrintMore

theorem w64 {x : Int} (h0 : -9223372036854775808 ≤ x) (h1 : x < 9223372036854775808) : wrap64 x = x := by unfold wrap64; omega

/-- How often a symbol comes among the first k. -/
def cnt (l : List S76) : Nat → Int → Int
  | 0, _ => 0
  | k + 1, j => cnt l k j + if (rd_T76 l (k : Int)).f0 = j then 1 else 0
theorem cnt_range (l : List S76) : ∀ (k : Nat) (j : Int), 0 ≤ cnt l k j ∧ cnt l k j ≤ k
  | 0, _ => by simp [cnt]
  | k + 1, j => by
    have := cnt_range l k j
    rw [cnt]
    split <;> omega
def cntCells (l : List S76) (k : Nat) : Array Value := #[.int .i64 (cnt l k 0), .int .i64 (cnt l k 1), .int .i64 (cnt l k 2), .int .i64 (cnt l k 3), .int .i64 (cnt l k 4), .int .i64 (cnt l k 5), .int .i64 (cnt l k 6), .int .i64 (cnt l k 7), .int .i64 (cnt l k 8), .int .i64 (cnt l k 9), .int .i64 (cnt l k 10), .int .i64 (cnt l k 11), .int .i64 (cnt l k 12), .int .i64 (cnt l k 13), .int .i64 (cnt l k 14), .int .i64 (cnt l k 15), .int .i64 (cnt l k 16), .int .i64 (cnt l k 17), .int .i64 (cnt l k 18)]
theorem cnt_one (l : List S76) (k : Nat) : (cntCells l k).all (·.oneCell') = true := by simp [cntCells, Value.oneCell']
theorem cnt_at (l : List S76) (k r : Nat) (h : r < 19) : (cntCells l k)[r]? = some (.int .i64 (cnt l k (r : Int))) := by
  have : r = 0 ∨ r = 1 ∨ r = 2 ∨ r = 3 ∨ r = 4 ∨ r = 5 ∨ r = 6 ∨ r = 7 ∨ r = 8 ∨ r = 9 ∨ r = 10 ∨ r = 11 ∨ r = 12 ∨ r = 13 ∨ r = 14 ∨ r = 15 ∨ r = 16 ∨ r = 17 ∨ r = 18 := by omega
  rcases this with rfl | rfl | rfl | rfl | rfl | rfl | rfl | rfl | rfl | rfl | rfl | rfl | rfl | rfl | rfl | rfl | rfl | rfl | rfl <;> rfl
theorem cnt_hit (l : List S76) (k r : Nat) (h : r < 19) (hr : (rd_T76 l (k : Int)).f0 = r) : (cntCells l k).setIfInBounds r (.int .i64 (cnt l k (r : Int) + 1)) = cntCells l (k + 1) := by
  have : r = 0 ∨ r = 1 ∨ r = 2 ∨ r = 3 ∨ r = 4 ∨ r = 5 ∨ r = 6 ∨ r = 7 ∨ r = 8 ∨ r = 9 ∨ r = 10 ∨ r = 11 ∨ r = 12 ∨ r = 13 ∨ r = 14 ∨ r = 15 ∨ r = 16 ∨ r = 17 ∨ r = 18 := by omega
  rcases this with rfl | rfl | rfl | rfl | rfl | rfl | rfl | rfl | rfl | rfl | rfl | rfl | rfl | rfl | rfl | rfl | rfl | rfl | rfl <;> simp [cntCells, cnt, hr]
theorem cnt_miss (l : List S76) (k : Nat) (h : (rd_T76 l (k : Int)).f0 < 0 ∨ 19 ≤ (rd_T76 l (k : Int)).f0) : cntCells l (k + 1) = cntCells l k := by
  have e : ∀ j : Int, 0 ≤ j → j < 19 → cnt l (k + 1) j = cnt l k j := fun j h0 h1 => by rw [cnt, if_neg (by omega), Int.add_zero]
  unfold cntCells
  rw [e 0 (by omega) (by omega), e 1 (by omega) (by omega), e 2 (by omega) (by omega), e 3 (by omega) (by omega), e 4 (by omega) (by omega), e 5 (by omega) (by omega), e 6 (by omega) (by omega), e 7 (by omega) (by omega), e 8 (by omega) (by omega), e 9 (by omega) (by omega), e 10 (by omega) (by omega), e 11 (by omega) (by omega), e 12 (by omega) (by omega), e 13 (by omega) (by omega), e 14 (by omega) (by omega), e 15 (by omega) (by omega), e 16 (by omega) (by omega), e 17 (by omega) (by omega), e 18 (by omega) (by omega)]


set_option maxHeartbeats 800000 in
set_option maxRecDepth 100000 in
theorem counts_calls (A0 : Option Addr) (c0 : Nat) (l : List S76) (w : World) (hr0 : Kd.C k76 w A0 l.length l) (hl : l.length ≤ 1000) :
    Calls Try.prog 50 #[.slice A0 l.length c0] w fun e w' => e = .returned (.agg (cntCells l l.length)) ∧ Below w.heap.size w w' := by
  have hu76 := Try.underlying76
  have HR0 := Aside0.mk hr0
  clear hr0
  go_enter Try.func50, Try.ntmps50
  go_wp2_with (first | ((with_reducible refine gate_dst (N := 2) rfl ?_); refine box_event rfl (N := 2) rfl (cs := cntCells l 0) (t := 74) (by kernel_rfl) ?_; intro g2 hg w1 hblk hb; have G2 := Aside0.mk (Nat.le_of_eq hg.symm); have BK2 := Aside0.mk hblk; have HB := Aside0.mk hb; clear hg hblk hb) | ((with_reducible refine gate_dst (N := 3) rfl ?_); refine box_event rfl (N := 3) rfl (cs := cntCells l 0) (t := 74) (by kernel_rfl) ?_; intro g hg w2 hblk hb; have GE := Aside0.mk (show w.heap.size ≤ g by have := below_size HB.out; omega); have GN := Aside0.mk (show g2 ≠ g by have := blk_lt BK2.out; omega); have BK := Aside0.mk hblk; have BK2' := Aside0.mk (blk_below BK2.out hb); have HB2 := Aside0.mk (below_step HB.out hb); clear hg hblk hb))
  clear HB BK2
  go_loopw [5, 8] (fun v5 v8 wr => ∃ k : Nat, k ≤ l.length ∧ v8 = .int .i64 (k : Int) ∧ Aside0 (wr.heap[g2]? = some (.cells (cntCells l 0) 74 (0, 0))) ∧ Aside0 (wr.heap[g]? = some (.cells (cntCells l k) 74 (0, 0))) ∧ Aside0 (Below w.heap.size w wr)) (fun _ v8 _ => l.length - (intOf v8).toNat)
  case atStart => exact ⟨0, by omega, rfl, BK2', BK, HB2⟩
  case round =>
    clear BK2' BK HB2
    obtain ⟨k, hk, rfl, BK2, BK, HB⟩ := hrel
    by_cases hlt : k < l.length
    · have c0 : decide ((k : Int) < (l.length : Int)) = true := decide_eq_true (by omega)
      have p1 : 0 ≤ (k : Int) := by omega
      have q1 : (k : Int) < (l.length : Int) := by omega
      obtain ⟨ad, e1, hx0, hx1⟩ := at_T76 HR0.out (k : Int) p1 q1
      cases e1
      rw [Int.toNat_natCast] at hx0 hx1
      replace hx0 := (HB.out.cell (World.block_lt_of_cell? w _ hx0)).trans hx0
      replace hx1 := (HB.out.cell (World.block_lt_of_cell? w _ hx1)).trans hx1
      obtain ⟨a, ha⟩ : ∃ a, (rd_T76 l (k : Int)).f0 = a := ⟨_, rfl⟩
      obtain ⟨b, hb⟩ : ∃ b, (rd_T76 l (k : Int)).f1 = b := ⟨_, rfl⟩
      rw [ha] at hx0
      rw [hb] at hx1
      have HA := Aside0.mk ha
      clear ha hb
      by_cases hneg : a < 0
      · have d0 : decide (0 ≤ a) = false := decide_eq_false (by omega)
        have HM := Aside0.mk (cnt_miss l k (by rw [HA.out]; omega))
        go_wp2_with (first | ((with_reducible refine gate_dst (N := 5) rfl ?_); refine box_event rfl (N := 5) rfl (cs := #[.int .i64 0, .int .i64 0]) (t := 76) (by first | (go_simp; done) | (go_simp; rfl)) ?_; intro gr hg w3 hblk hb3; have BR := Aside0.mk hblk; have z0 := (blk_cell hblk 0); have z1 := (blk_cell hblk 1); have y0 := blk_frozen hblk 0; have y1 := blk_frozen hblk 1; have BK' := Aside0.mk (blk_below BK.out hb3); have BK2' := Aside0.mk (blk_below BK2.out hb3); have HB' := Aside0.mk (below_step HB.out hb3); have GR := Aside0.mk (show g ≠ gr ∧ g2 ≠ gr ∧ w.heap.size ≤ gr by have := blk_lt BK.out; have := blk_lt BK2.out; have := below_size HB.out; omega); skip; clear hg hblk hb3))
        go_roundw
        case rel => exact ⟨k + 1, by omega, by go_num, ⟨by refine blk_far ?_ (by exact GR.out.2.1) _; refine blk_far ?_ (by exact GR.out.2.1) _; exact BK2'.out⟩, ⟨by rw [HM.out]; refine blk_far ?_ (by exact GR.out.1) _; refine blk_far ?_ (by exact GR.out.1) _; exact BK'.out⟩, ⟨below_set (below_set HB'.out GR.out.2.2) GR.out.2.2⟩⟩
        case measure => simp [intOf]; omega
      · have d0 : decide (0 ≤ a) = true := decide_eq_true (by omega)
        by_cases h19 : a < 19
        · have d1 : decide (a < 19) = true := decide_eq_true h19
          have hxr := cnt_range l k a
          have hat := cnt_at l k a.toNat (by omega)
          have hhit := cnt_hit l k a.toNat (by omega) (by rw [HA.out]; omega)
          rw [show ((a.toNat : Nat) : Int) = a from by omega] at hat hhit
          obtain ⟨x, hx⟩ : ∃ x, cnt l k a = x := ⟨_, rfl⟩
          rw [hx] at hat hhit hxr
          have HC := Aside0.mk hat
          have HH := Aside0.mk hhit
          clear hat hhit hx
          go_wp2_with (first | ((with_reducible refine gate_dst (N := 5) rfl ?_); refine box_event rfl (N := 5) rfl (cs := #[.int .i64 0, .int .i64 0]) (t := 76) (by first | (go_simp; done) | (go_simp; rfl)) ?_; intro gr hg w3 hblk hb3; have BR := Aside0.mk hblk; have z0 := (blk_cell hblk 0); have z1 := (blk_cell hblk 1); have y0 := blk_frozen hblk 0; have y1 := blk_frozen hblk 1; have BK' := Aside0.mk (blk_below BK.out hb3); have BK2' := Aside0.mk (blk_below BK2.out hb3); have HB' := Aside0.mk (below_step HB.out hb3); have GR := Aside0.mk (show g ≠ gr ∧ g2 ≠ gr ∧ w.heap.size ≤ gr by have := blk_lt BK.out; have := blk_lt BK2.out; have := below_size HB.out; omega); have zc := (blk_cell (blk_below BK.out hb3) a.toNat).trans HC.out; have yc := blk_frozen (blk_below BK.out hb3) a.toNat; have hne := GR.out.1; clear hg hblk hb3))
          go_roundw
          case rel => exact ⟨k + 1, by omega, by go_num, ⟨by refine blk_far ?_ (by exact GN.out) _; refine blk_far ?_ (by exact GR.out.2.1) _; refine blk_far ?_ (by exact GR.out.2.1) _; exact BK2'.out⟩, ⟨by refine blk_put (cs := cntCells l k) ?_ a.toNat _ HH.out; refine blk_far ?_ (by exact GR.out.1) _; refine blk_far ?_ (by exact GR.out.1) _; exact BK'.out⟩, ⟨below_set (below_set (below_set HB'.out GR.out.2.2) GR.out.2.2) GE.out⟩⟩
          case measure => simp [intOf]; omega
        · have d1 : decide (a < 19) = false := decide_eq_false h19
          have HM := Aside0.mk (cnt_miss l k (by rw [HA.out]; omega))
          go_wp2_with (first | ((with_reducible refine gate_dst (N := 5) rfl ?_); refine box_event rfl (N := 5) rfl (cs := #[.int .i64 0, .int .i64 0]) (t := 76) (by first | (go_simp; done) | (go_simp; rfl)) ?_; intro gr hg w3 hblk hb3; have BR := Aside0.mk hblk; have z0 := (blk_cell hblk 0); have z1 := (blk_cell hblk 1); have y0 := blk_frozen hblk 0; have y1 := blk_frozen hblk 1; have BK' := Aside0.mk (blk_below BK.out hb3); have BK2' := Aside0.mk (blk_below BK2.out hb3); have HB' := Aside0.mk (below_step HB.out hb3); have GR := Aside0.mk (show g ≠ gr ∧ g2 ≠ gr ∧ w.heap.size ≤ gr by have := blk_lt BK.out; have := blk_lt BK2.out; have := below_size HB.out; omega); skip; clear hg hblk hb3))
          go_roundw
          case rel => exact ⟨k + 1, by omega, by go_num, ⟨by refine blk_far ?_ (by exact GR.out.2.1) _; refine blk_far ?_ (by exact GR.out.2.1) _; exact BK2'.out⟩, ⟨by rw [HM.out]; refine blk_far ?_ (by exact GR.out.1) _; refine blk_far ?_ (by exact GR.out.1) _; exact BK'.out⟩, ⟨below_set (below_set HB'.out GR.out.2.2) GR.out.2.2⟩⟩
          case measure => simp [intOf]; omega
    · have hk2 : k = l.length := by omega
      rw [hk2] at BK
      clear hk2
      have c0 : decide ((k : Int) < (l.length : Int)) = false := decide_eq_false (by omega)
      go_wp2_with (first | ((with_reducible refine gate_dst (N := 27) rfl ?_); refine wpList_load_row rfl 74 _ rfl g rfl 74 (cntCells l l.length) (0, 0) _ BK.out Try.underlying74 rfl (by kernel_rfl) ?_) | (refine wpList_store_row rfl 74 _ _ rfl g2 (cntCells l l.length) rfl rfl 74 (cntCells l 0) BK2.out (by kernel_rfl) rfl (cnt_one l l.length) ?_))
      exact bodyPost_ret (results_cell_row rfl _ _ g2 74 (cntCells l l.length) (0, 0) _ rfl (setRow_heap wr g2 _ _ 74 (0, 0) BK2.out) Try.underlying74 rfl (by kernel_rfl)) rfl ⟨rfl, Go.below_setRow HB.out G2.out _⟩

theorem cast1 (i : Nat) : ((i + 1 : Nat) : Int) = (i : Int) + 1 := by omega


theorem rd_last (pre : List Int) (v : Int) : rd (pre ++ [v]) (wrap64 (((pre ++ [v]).length : Int) - 1)) = v ∨ 1000 < pre.length := by
  by_cases h : 1000 < pre.length
  · exact .inr h
  · left
    have hl : (((pre ++ [v]).length : Nat) : Int) = pre.length + 1 := by simp
    rw [w64 (by omega) (by omega)]
    unfold rd
    have : (((pre ++ [v]).length : Int) - 1).toNat = pre.length := by simp
    rw [this, List.getD_eq_getElem?_getD, List.getElem?_append_right (Nat.le_refl _)]
    simp


theorem unp_l1 (x7 : Int) (x9 : List S76) (x10 x11 x58 : Int) (r : List Int × Int) (hx : 0 ≤ x11) (hx2 : x11 < 1000000000) (h58 : x58 ≤ 1000) : ∀ (d : Nat) (x4 : List Int) (x59 : Int), 0 ≤ x59 → x58 - x59 = d → x4.length + d ≤ 1000 →
    Ev (fun k => runs_Unpack.l0 k (x4 ++ List.replicate d x7) x9 x10 (x11 + 1)) r → Ev (fun k => runs_Unpack.l1 k x4 x7 x9 x10 x11 x58 x59) r
  | 0, x4, x59, h0, hd, hl, h => by
    refine Ev.step (f := fun k => runs_Unpack.l0 k (x4 ++ List.replicate 0 x7) x9 x10 (x11 + 1)) (fun k => ?_) h
    simp only [runs_Unpack.l1]
    rw [if_neg (by omega), w64 (by omega) (by omega), List.replicate_zero, List.append_nil]
  | d + 1, x4, x59, h0, hd, hl, h => by
    refine Ev.step (f := fun k => runs_Unpack.l1 k (x4 ++ [x7]) x7 x9 x10 x11 x58 (x59 + 1)) (fun k => ?_) (unp_l1 x7 x9 x10 x11 x58 r hx hx2 h58 d (x4 ++ [x7]) (x59 + 1) (by omega) (by omega) (by simp; omega) ?_)
    · simp only [runs_Unpack.l1]
      rw [if_pos (by omega), if_pos (by omega), w64 (by omega) (by omega)]
    · rw [List.append_assoc, List.singleton_append, ← List.replicate_succ]
      exact h


theorem ref_l1 (x8 : Int) (x0 : List S76) (x5 x7 : Int) (r : List Int × Int) (hx : 0 ≤ x5) (hx2 : x5 < 1000000000) (h7 : x7 ≤ 1000) : ∀ (d : Nat) (x4 : List Int) (x9 : Int), 0 ≤ x9 → x7 - x9 = d → x4.length + d ≤ 1000 →
    Ev (fun k => montageref10_Unpack.l0 k x0 (x4 ++ List.replicate d x8) (x5 + 1)) r → Ev (fun k => montageref10_Unpack.l1 k x0 x4 x5 x7 x8 x9) r
  | 0, x4, x9, h0, hd, hl, h => by
    refine Ev.step (f := fun k => montageref10_Unpack.l0 k x0 (x4 ++ List.replicate 0 x8) (x5 + 1)) (fun k => ?_) h
    simp only [montageref10_Unpack.l1]
    rw [if_neg (by omega), w64 (by omega) (by omega), List.replicate_zero, List.append_nil]
  | d + 1, x4, x9, h0, hd, hl, h => by
    refine Ev.step (f := fun k => montageref10_Unpack.l1 k x0 (x4 ++ [x8]) x5 x7 x8 (x9 + 1)) (fun k => ?_) (ref_l1 x8 x0 x5 x7 r hx hx2 h7 d (x4 ++ [x8]) (x9 + 1) (by omega) (by omega) (by simp; omega) ?_)
    · simp only [montageref10_Unpack.l1]
      rw [if_pos (by omega), if_pos (by omega), w64 (by omega) (by omega)]
    · rw [List.append_assoc, List.singleton_append, ← List.replicate_succ]
      exact h


theorem bits_of (a : Int) : ∃ t, runs_Bits.f a = some t ∧ montageref10_Bits.f a = some t ∧ 0 ≤ t ∧ 1 ≤ shl .i64 1 t ∧ shl .i64 1 t ≤ 128 ∧ (a ≠ 16 → a ≠ 17 → a ≠ 18 → shl .i64 1 t = 1) := by
  by_cases h16 : a = 16
  · refine ⟨2, by unfold runs_Bits.f; rw [if_pos h16], by unfold montageref10_Bits.f; rw [if_pos h16], by omega, ?_⟩
    rw [show shl .i64 1 2 = 4 from by decide +kernel]; omega
  · by_cases h17 : a = 17
    · refine ⟨3, by unfold runs_Bits.f; rw [if_neg h16, if_pos h17], by unfold montageref10_Bits.f; rw [if_neg h16, if_pos h17], by omega, ?_⟩
      rw [show shl .i64 1 3 = 8 from by decide +kernel]; omega
    · by_cases h18 : a = 18
      · refine ⟨7, by unfold runs_Bits.f; rw [if_neg h16, if_neg h17, if_pos h18], by unfold montageref10_Bits.f; rw [if_neg h16, if_neg h17, if_pos h18], by omega, ?_⟩
        rw [show shl .i64 1 7 = 128 from by decide +kernel]; omega
      · refine ⟨0, by unfold runs_Bits.f; rw [if_neg h16, if_neg h17, if_neg h18], by unfold montageref10_Bits.f; rw [if_neg h16, if_neg h17, if_neg h18], by omega, ?_⟩
        rw [show shl .i64 1 0 = 1 from by decide +kernel]; omega

/-- From any place on both texts come to the same answer. -/
theorem both (l : List S76) (hl : l.length ≤ 1000) : ∀ (d i : Nat) (out : List Int), l.length - i = d → i ≤ l.length → out.length ≤ 1000 →
    ∃ r : List Int × Int, r.1.length ≤ 1000 ∧ Ev (fun k => runs_Unpack.l0 k out l (l.length : Int) (i : Int)) r ∧ Ev (fun k => montageref10_Unpack.l0 k l out (i : Int)) r := by
  intro d
  induction d with
  | zero =>
    intro i out hd hi ho
    refine ⟨(out, 0), ho, Ev.step (f := fun _ => some (out, 0)) (fun k => ?_) (Ev.now _), Ev.step (f := fun _ => some (out, 0)) (fun k => ?_) (Ev.now _)⟩
    · simp only [runs_Unpack.l0]
      rw [if_neg (by omega)]
    · simp only [montageref10_Unpack.l0]
      rw [if_neg (by omega)]
  | succ d ih =>
    intro i out hd hi ho
    have hlt : i < l.length := by omega
    obtain ⟨a, b, hrow⟩ : ∃ a b, rd_T76 l (i : Int) = ⟨a, b⟩ := ⟨_, _, rfl⟩
    obtain ⟨t, e1, e2, t0, t1, t2, t3⟩ := bits_of a
    have p0 : ∀ k, runs_Unpack.l0 (k + 1) out l (l.length : Int) (i : Int) = (if a < 0 then (runs_Unpack.j1 k out l (l.length : Int) (i : Int) true a b) else (if a > 18 then (runs_Unpack.j1 k out l (l.length : Int) (i : Int) true a b) else (if b < 0 then (runs_Unpack.j1 k out l (l.length : Int) (i : Int) true a b) else (runs_Unpack.j1 k out l (l.length : Int) (i : Int) (decide (b ≥ shl .i64 1 t)) a b)))) := by
      intro k
      simp only [runs_Unpack.l0]
      rw [if_pos (by omega), if_pos (by omega), if_pos (by omega), hrow]
      show (if a < 0 then (runs_Unpack.j1 k out l (l.length : Int) (i : Int) true a b) else (if a > 18 then (runs_Unpack.j1 k out l (l.length : Int) (i : Int) true a b) else (if b < 0 then (runs_Unpack.j1 k out l (l.length : Int) (i : Int) true a b) else ((runs_Bits.f a).bind fun t143 => (if 0 ≤ t143 then (runs_Unpack.j1 k out l (l.length : Int) (i : Int) (decide (b ≥ (shl .i64 1 t143))) a b) else none))))) = _
      rw [e1, Option.bind_some, if_pos t0]
    have q0 : ∀ k, montageref10_Unpack.l0 (k + 1) l out (i : Int) = (if a < 0 then (montageref10_Unpack.j1 k l out (i : Int) true a b) else (if a > 18 then (montageref10_Unpack.j1 k l out (i : Int) true a b) else (if b < 0 then (montageref10_Unpack.j1 k l out (i : Int) true a b) else (montageref10_Unpack.j1 k l out (i : Int) (decide (b ≥ shl .i64 1 t)) a b)))) := by
      intro k
      simp only [montageref10_Unpack.l0]
      rw [if_pos (by omega), if_pos (by omega), hrow]
      show (if a < 0 then (montageref10_Unpack.j1 k l out (i : Int) true a b) else (if a > 18 then (montageref10_Unpack.j1 k l out (i : Int) true a b) else (if b < 0 then (montageref10_Unpack.j1 k l out (i : Int) true a b) else ((montageref10_Bits.f a).bind fun t143 => (if 0 ≤ t143 then (montageref10_Unpack.j1 k l out (i : Int) (decide (b ≥ (shl .i64 1 t143))) a b) else none))))) = _
      rw [e2, Option.bind_some, if_pos t0]
    have bad : Ev (fun k => runs_Unpack.j1 k out l (l.length : Int) (i : Int) true a b) ([], 1) ∧ Ev (fun k => montageref10_Unpack.j1 k l out (i : Int) true a b) ([], 1) := by
      refine ⟨Ev.step (f := fun _ => some ([], 1)) (fun k => ?_) (Ev.now _), Ev.step (f := fun _ => some ([], 1)) (fun k => ?_) (Ev.now _)⟩
      · simp only [runs_Unpack.j1]
        rw [if_pos trivial]
      · simp only [montageref10_Unpack.j1]
        rw [if_pos trivial]
    by_cases ha0 : a < 0
    · exact ⟨([], 1), by simp, Ev.step (fun k => by show runs_Unpack.l0 (k + 1) out l (l.length : Int) (i : Int) = _; rw [p0, if_pos ha0]) bad.1, Ev.step (fun k => by show montageref10_Unpack.l0 (k + 1) l out (i : Int) = _; rw [q0, if_pos ha0]) bad.2⟩
    by_cases ha1 : a > 18
    · exact ⟨([], 1), by simp, Ev.step (fun k => by show runs_Unpack.l0 (k + 1) out l (l.length : Int) (i : Int) = _; rw [p0, if_neg ha0, if_pos ha1]) bad.1, Ev.step (fun k => by show montageref10_Unpack.l0 (k + 1) l out (i : Int) = _; rw [q0, if_neg ha0, if_pos ha1]) bad.2⟩
    by_cases hb0 : b < 0
    · exact ⟨([], 1), by simp, Ev.step (fun k => by show runs_Unpack.l0 (k + 1) out l (l.length : Int) (i : Int) = _; rw [p0, if_neg ha0, if_neg ha1, if_pos hb0]) bad.1, Ev.step (fun k => by show montageref10_Unpack.l0 (k + 1) l out (i : Int) = _; rw [q0, if_neg ha0, if_neg ha1, if_pos hb0]) bad.2⟩
    by_cases hbt : b ≥ shl .i64 1 t
    · exact ⟨([], 1), by simp, Ev.step (fun k => by show runs_Unpack.l0 (k + 1) out l (l.length : Int) (i : Int) = _; rw [p0, if_neg ha0, if_neg ha1, if_neg hb0, decide_eq_true hbt]) bad.1, Ev.step (fun k => by show montageref10_Unpack.l0 (k + 1) l out (i : Int) = _; rw [q0, if_neg ha0, if_neg ha1, if_neg hb0, decide_eq_true hbt]) bad.2⟩
    have P0 : ∀ r, Ev (fun k => runs_Unpack.j1 k out l (l.length : Int) (i : Int) false a b) r → Ev (fun k => runs_Unpack.l0 k out l (l.length : Int) (i : Int)) r := fun r h =>
      Ev.step (fun k => by show runs_Unpack.l0 (k + 1) out l (l.length : Int) (i : Int) = _; rw [p0, if_neg ha0, if_neg ha1, if_neg hb0, decide_eq_false hbt]) h
    have Q0 : ∀ r, Ev (fun k => montageref10_Unpack.j1 k l out (i : Int) false a b) r → Ev (fun k => montageref10_Unpack.l0 k l out (i : Int)) r := fun r h =>
      Ev.step (fun k => by show montageref10_Unpack.l0 (k + 1) l out (i : Int) = _; rw [q0, if_neg ha0, if_neg ha1, if_neg hb0, decide_eq_false hbt]) h
    by_cases hemp : a = 16 ∧ out.length = 0
    · refine ⟨([], 2), by simp, P0 _ ?_, Q0 _ ?_⟩
      · refine Ev.step (f := fun _ => some ([], 2)) (fun k => ?_) (Ev.now _)
        simp only [runs_Unpack.j1]
        rw [if_neg (by simp), if_pos hemp.1, if_pos (by omega)]
      · refine Ev.step (f := fun k => montageref10_Unpack.j2 k l out (i : Int) true a b) (fun k => ?_) ?_
        · simp only [montageref10_Unpack.j1]
          rw [if_neg (by simp), if_pos hemp.1, beq_iff_eq.mpr (by omega : (out.length : Int) = 0)]
        · refine Ev.step (f := fun _ => some ([], 2)) (fun k => ?_) (Ev.now _)
          simp only [montageref10_Unpack.j2]
          rw [if_pos trivial]
    -- what is said, and how often
    have hsay : ∃ v n : Int, 1 ≤ n ∧ n ≤ 138 ∧ runs_one.f out a b = some (v, n) ∧ (∀ r, Ev (fun k => montageref10_Unpack.j5 k l out (i : Int) n v) r → Ev (fun k => montageref10_Unpack.j2 k l out (i : Int) false a b) r) := by
      by_cases h16 : a = 16
      · have hne : out ≠ [] := fun h => hemp ⟨h16, by rw [h]; rfl⟩
        obtain ⟨pre, v, rfl⟩ : ∃ pre v, out = pre ++ [v] := ⟨out.dropLast, out.getLast hne, (List.dropLast_concat_getLast hne).symm⟩
        have hlp : pre.length ≤ 999 := by simp at ho; omega
        have hr := (rd_last pre v).resolve_right (by omega)
        have hw : wrap64 (((pre ++ [v]).length : Int) - 1) = ((pre ++ [v]).length : Int) - 1 := w64 (by omega) (by omega)
        have hl1 : (((pre ++ [v]).length : Nat) : Int) = pre.length + 1 := by simp
        refine ⟨v, 3 + b, by omega, by omega, ?_, fun r h => ?_⟩
        · unfold runs_one.f runs_kindOf.f
          rw [if_neg (by omega), if_pos h16, Option.bind_some]
          show (if a = 16 then (if 0 ≤ (wrap64 (((pre ++ [v]).length : Int) - 1)) then (if (wrap64 (((pre ++ [v]).length : Int) - 1)) < ((pre ++ [v]).length : Int) then (some (rd (pre ++ [v]) (wrap64 (((pre ++ [v]).length : Int) - 1)), wrap64 (3 + b))) else none) else none) else _) = _
          rw [if_pos h16, hr, if_pos (by rw [hw]; omega), if_pos (by rw [hw]; omega), w64 (by omega) (by omega)]
        · refine Ev.step (f := fun k => montageref10_Unpack.j3 k l (pre ++ [v]) (i : Int) (3 + b) v a b) (fun k => ?_) ?_
          · simp only [montageref10_Unpack.j2]
            rw [if_neg (by simp), if_pos h16, hr, if_pos (by rw [hw]; omega), if_pos (by rw [hw]; omega), w64 (by omega) (by omega)]
          refine Ev.step (f := fun k => montageref10_Unpack.j4 k l (pre ++ [v]) (i : Int) (3 + b) v a b) (fun k => ?_) ?_
          · simp only [montageref10_Unpack.j3]
            rw [if_neg (by omega)]
          refine Ev.step (fun k => ?_) h
          simp only [montageref10_Unpack.j4]
          rw [if_neg (by omega)]
      · by_cases h17 : a = 17
        · refine ⟨0, 3 + b, by omega, by omega, ?_, fun r h => ?_⟩
          · unfold runs_one.f runs_kindOf.f
            rw [if_neg (by omega), if_neg h16, if_pos h17, Option.bind_some]
            show (if a = 16 then _ else some ((0 : Int), wrap64 (3 + b))) = _
            rw [if_neg h16, w64 (by omega) (by omega)]
          · refine Ev.step (f := fun k => montageref10_Unpack.j3 k l out (i : Int) 1 a a b) (fun k => ?_) ?_
            · simp only [montageref10_Unpack.j2]
              rw [if_neg (by simp), if_neg h16]
            refine Ev.step (f := fun k => montageref10_Unpack.j4 k l out (i : Int) (3 + b) 0 a b) (fun k => ?_) ?_
            · simp only [montageref10_Unpack.j3]
              rw [if_pos h17, w64 (by omega) (by omega)]
            refine Ev.step (fun k => ?_) h
            simp only [montageref10_Unpack.j4]
            rw [if_neg (by omega)]
        · by_cases h18 : a = 18
          · refine ⟨0, 11 + b, by omega, by omega, ?_, fun r h => ?_⟩
            · unfold runs_one.f runs_kindOf.f
              rw [if_neg (by omega), if_neg h16, if_neg h17, Option.bind_some]
              show (if a = 16 then _ else some ((0 : Int), wrap64 (11 + b))) = _
              rw [if_neg h16, w64 (by omega) (by omega)]
            · refine Ev.step (f := fun k => montageref10_Unpack.j3 k l out (i : Int) 1 a a b) (fun k => ?_) ?_
              · simp only [montageref10_Unpack.j2]
                rw [if_neg (by simp), if_neg h16]
              refine Ev.step (f := fun k => montageref10_Unpack.j4 k l out (i : Int) 1 a a b) (fun k => ?_) ?_
              · simp only [montageref10_Unpack.j3]
                rw [if_neg h17]
              refine Ev.step (fun k => ?_) h
              simp only [montageref10_Unpack.j4]
              rw [if_pos h18, w64 (by omega) (by omega)]
          · refine ⟨a, 1, by omega, by omega, ?_, fun r h => ?_⟩
            · unfold runs_one.f
              rw [if_pos (by omega)]
            · refine Ev.step (f := fun k => montageref10_Unpack.j3 k l out (i : Int) 1 a a b) (fun k => ?_) ?_
              · simp only [montageref10_Unpack.j2]
                rw [if_neg (by simp), if_neg h16]
              refine Ev.step (f := fun k => montageref10_Unpack.j4 k l out (i : Int) 1 a a b) (fun k => ?_) ?_
              · simp only [montageref10_Unpack.j3]
                rw [if_neg h17]
              refine Ev.step (fun k => ?_) h
              simp only [montageref10_Unpack.j4]
              rw [if_neg h18]
    obtain ⟨v, n, n0, n1, hone, hrest⟩ := hsay
    have P1 : ∀ r, Ev (fun k => runs_Unpack.j2 k out l (l.length : Int) (i : Int) a b) r → Ev (fun k => runs_Unpack.j1 k out l (l.length : Int) (i : Int) false a b) r := by
      intro r h
      refine Ev.step (fun k => ?_) h
      simp only [runs_Unpack.j1]
      by_cases h16 : a = 16
      · rw [if_neg (by simp), if_pos h16, if_neg (by omega)]
      · rw [if_neg (by simp), if_neg h16]
    have Q1 : ∀ r, Ev (fun k => montageref10_Unpack.j2 k l out (i : Int) false a b) r → Ev (fun k => montageref10_Unpack.j1 k l out (i : Int) false a b) r := by
      intro r h
      refine Ev.step (fun k => ?_) h
      simp only [montageref10_Unpack.j1]
      by_cases h16 : a = 16
      · rw [if_neg (by simp), if_pos h16, beq_eq_false_iff_ne.mpr (by omega : (out.length : Int) ≠ 0)]
      · rw [if_neg (by simp), if_neg h16]
    have j2e : ∀ k, runs_Unpack.j2 (k + 1) out l (l.length : Int) (i : Int) a b = (if (wrap64 ((out.length : Int) + n)) > 1000 then (some (([] : List Int), 7)) else (runs_Unpack.l1 k out v l (l.length : Int) (i : Int) n 0)) := by
      intro k
      have e : runs_Unpack.j2 (k + 1) out l (l.length : Int) (i : Int) a b = (runs_one.f out a b).bind fun bt144 => (if (wrap64 ((out.length : Int) + bt144.2)) > 1000 then (some (([] : List Int), 7)) else (runs_Unpack.l1 k out bt144.1 l (l.length : Int) (i : Int) bt144.2 0)) := by simp only [runs_Unpack.j2]
      rw [e, hone, Option.bind_some]
    by_cases hlim : (out.length : Int) + n > 1000
    · refine ⟨([], 7), by simp, P0 _ (P1 _ ?_), Q0 _ (Q1 _ (hrest _ ?_))⟩
      · refine Ev.step (f := fun _ => some ([], 7)) (fun k => ?_) (Ev.now _)
        show runs_Unpack.j2 (k + 1) out l (l.length : Int) (i : Int) a b = _
        rw [j2e, w64 (by omega) (by omega), if_pos hlim]
      · refine Ev.step (f := fun _ => some ([], 7)) (fun k => ?_) (Ev.now _)
        simp only [montageref10_Unpack.j5]
        rw [w64 (by omega) (by omega), if_pos hlim]
    · obtain ⟨r, hr1000, hp, hq⟩ := ih (i + 1) (out ++ List.replicate n.toNat v) (by omega) (by omega) (by simp; omega)
      rw [cast1] at hp hq
      refine ⟨r, hr1000, P0 _ (P1 _ ?_), Q0 _ (Q1 _ (hrest _ ?_))⟩
      · have h1 := unp_l1 v l (l.length : Int) (i : Int) n r (by omega) (by omega) (by omega) n.toNat out 0 (by omega) (by omega) (by omega) hp
        refine Ev.step (fun k => ?_) h1
        show runs_Unpack.j2 (k + 1) out l (l.length : Int) (i : Int) a b = _
        rw [j2e, w64 (by omega) (by omega), if_neg hlim]
      · have h1 := ref_l1 v l (i : Int) n r (by omega) (by omega) (by omega) n.toNat out 0 (by omega) (by omega) (by omega) hq
        refine Ev.step (fun k => ?_) h1
        simp only [montageref10_Unpack.j5]
        rw [w64 (by omega) (by omega), if_neg hlim]

theorem both_f (l : List S76) (hl : l.length ≤ 1000) : ∃ r : List Int × Int, r.1.length ≤ 1000 ∧ Ev (fun k => runs_Unpack.f k l) r ∧ Ev (fun k => montageref10_Unpack.f k l) r := both l hl l.length 0 [] rfl (by omega) (by simp)

theorem ints_l0 (l : List Int) (hl : l.length ≤ 1000000000) : ∀ (d i : Nat), l.length - i = d → i ≤ l.length → Ev (fun k => montagelaw10_ints.l0 k l l (l.length : Int) (i : Int)) true := by
  intro d
  induction d with
  | zero =>
    intro i hd hi
    refine Ev.step (f := fun _ => some true) (fun k => ?_) (Ev.now _)
    simp only [montagelaw10_ints.l0]
    rw [if_neg (by omega)]
  | succ d ih =>
    intro i hd hi
    refine Ev.step (fun k => ?_) (ih (i + 1) (by omega) (by omega))
    simp only [montagelaw10_ints.l0]
    rw [if_pos (by omega), if_pos (by omega), if_pos (by omega), if_pos (by omega), if_pos trivial, w64 (by omega) (by omega), cast1]

theorem ints_same (l : List Int) (hl : l.length ≤ 1000000000) : Ev (fun k => montagelaw10_ints.f k l l) true := by
  refine Ev.congr (fun k => ?_) (ints_l0 l hl l.length 0 rfl (by omega))
  unfold montagelaw10_ints.f
  rw [if_pos rfl]
  rfl

theorem awake_runs : montagelaw10_awake.f 40 = some true := by decide +kernel

theorem eqi (d : Nat) (w : World) (n : Int) : (Op.equalIn (d + 1) 3 (.int .i64 n) (.int .i64 n)).run Try.prog w = .ok true w := by
  have h3 := Try.underlying3
  go_simp
theorem items_same (d : Nat) (w : World) (X : Array Value) : ∀ is : List Nat, (∀ i ∈ is, ∃ n, (part 3 X (i * 1)).run Try.prog w = .ok (.int .i64 n) w) → (Op.eqItems (d + 1) 3 1 X X is).run Try.prog w = .ok true w
  | [], _ => by simp [Op.eqItems]
  | i :: is, h => by
    obtain ⟨n, hn⟩ := h i (List.mem_cons_self ..)
    simp only [Op.eqItems, Sem.run_bind, hn, Result.andThen_ok, eqi]
    exact items_same d w X is (fun j hj => h j (List.mem_cons_of_mem _ hj))
set_option maxRecDepth 100000 in
theorem eq74 (d : Nat) (w : World) (x0 x1 x2 x3 x4 x5 x6 x7 x8 x9 x10 x11 x12 x13 x14 x15 x16 x17 x18 : Int) : (Op.equalIn (d + 2) 74 (.agg #[.int .i64 x0, .int .i64 x1, .int .i64 x2, .int .i64 x3, .int .i64 x4, .int .i64 x5, .int .i64 x6, .int .i64 x7, .int .i64 x8, .int .i64 x9, .int .i64 x10, .int .i64 x11, .int .i64 x12, .int .i64 x13, .int .i64 x14, .int .i64 x15, .int .i64 x16, .int .i64 x17, .int .i64 x18]) (.agg #[.int .i64 x0, .int .i64 x1, .int .i64 x2, .int .i64 x3, .int .i64 x4, .int .i64 x5, .int .i64 x6, .int .i64 x7, .int .i64 x8, .int .i64 x9, .int .i64 x10, .int .i64 x11, .int .i64 x12, .int .i64 x13, .int .i64 x14, .int .i64 x15, .int .i64 x16, .int .i64 x17, .int .i64 x18])).run Try.prog w = .ok true w := by
  have hi : ∃ i, Try.prog.info? 3 = some i := by
    cases h : Try.prog.info? 3 with
    | none => have := info3; rw [h] at this; cases this
    | some i => exact ⟨i, rfl⟩
  obtain ⟨i, hi⟩ := hi
  have hc : Try.prog.cellsOf 3 = 1 := by kernel_rfl
  rw [Go.run_equalIn_array (P := Try.prog) (hu := Try.underlying74) (hi := hi), hc]
  refine items_same d w _ _ (fun i hi => ?_)
  have hlt := List.mem_range.1 hi
  have : i = 0 ∨ i = 1 ∨ i = 2 ∨ i = 3 ∨ i = 4 ∨ i = 5 ∨ i = 6 ∨ i = 7 ∨ i = 8 ∨ i = 9 ∨ i = 10 ∨ i = 11 ∨ i = 12 ∨ i = 13 ∨ i = 14 ∨ i = 15 ∨ i = 16 ∨ i = 17 ∨ i = 18 := by omega
  rcases this with rfl | rfl | rfl | rfl | rfl | rfl | rfl | rfl | rfl | rfl | rfl | rfl | rfl | rfl | rfl | rfl | rfl | rfl | rfl <;> exact ⟨_, by go_simp; rfl⟩


theorem cells19 {w : World} {g : Nat} {l : List S76} {k : Nat} (h : w.heap[g]? = some (.cells (cntCells l k) 74 (0, 0))) : w.cell? ⟨g, 0, none⟩ = some (.int .i64 (cnt l k 0)) ∧ w.cell? ⟨g, 1, none⟩ = some (.int .i64 (cnt l k 1)) ∧ w.cell? ⟨g, 2, none⟩ = some (.int .i64 (cnt l k 2)) ∧ w.cell? ⟨g, 3, none⟩ = some (.int .i64 (cnt l k 3)) ∧ w.cell? ⟨g, 4, none⟩ = some (.int .i64 (cnt l k 4)) ∧ w.cell? ⟨g, 5, none⟩ = some (.int .i64 (cnt l k 5)) ∧ w.cell? ⟨g, 6, none⟩ = some (.int .i64 (cnt l k 6)) ∧ w.cell? ⟨g, 7, none⟩ = some (.int .i64 (cnt l k 7)) ∧ w.cell? ⟨g, 8, none⟩ = some (.int .i64 (cnt l k 8)) ∧ w.cell? ⟨g, 9, none⟩ = some (.int .i64 (cnt l k 9)) ∧ w.cell? ⟨g, 10, none⟩ = some (.int .i64 (cnt l k 10)) ∧ w.cell? ⟨g, 11, none⟩ = some (.int .i64 (cnt l k 11)) ∧ w.cell? ⟨g, 12, none⟩ = some (.int .i64 (cnt l k 12)) ∧ w.cell? ⟨g, 13, none⟩ = some (.int .i64 (cnt l k 13)) ∧ w.cell? ⟨g, 14, none⟩ = some (.int .i64 (cnt l k 14)) ∧ w.cell? ⟨g, 15, none⟩ = some (.int .i64 (cnt l k 15)) ∧ w.cell? ⟨g, 16, none⟩ = some (.int .i64 (cnt l k 16)) ∧ w.cell? ⟨g, 17, none⟩ = some (.int .i64 (cnt l k 17)) ∧ w.cell? ⟨g, 18, none⟩ = some (.int .i64 (cnt l k 18)) := ⟨blk_cell h 0, blk_cell h 1, blk_cell h 2, blk_cell h 3, blk_cell h 4, blk_cell h 5, blk_cell h 6, blk_cell h 7, blk_cell h 8, blk_cell h 9, blk_cell h 10, blk_cell h 11, blk_cell h 12, blk_cell h 13, blk_cell h 14, blk_cell h 15, blk_cell h 16, blk_cell h 17, blk_cell h 18⟩

theorem range19 {w : World} {g : Nat} {cs : Array Value} (h : w.heap[g]? = some (.cells cs 74 (0, 0))) : w.rangeAt g 0 cs.toList := fun j v hv => by
  rw [cell_of_row w g (0 + j) cs 74 (0, 0) h, Nat.zero_add]
  simpa using hv
theorem range_drewN {w : World} {g : Nat} {L : List Value} (h : w.rangeAt g 0 L) (m : Nat) : (w.drewN m).rangeAt g 0 L := h
theorem range_below {w w' : World} {g : Nat} {L : List Value} (h : w.rangeAt g 0 L) (hb : Below w.heap.size w w') : w'.rangeAt g 0 L := fun j v hv => (hb.cell (World.block_lt_of_cell? w _ (h j v hv))).trans (h j v hv)
theorem countsL (A0 : Option Addr) (c0 : Nat) (l : List S76) (L : List Value) (hL : (cntCells l l.length).toList = L) : ∀ (w : World) (hr0 : Kd.C k76 w A0 l.length l) (hl : l.length ≤ 1000), Calls Try.prog 50 #[.slice A0 l.length c0] w fun e w' => e = .returned (.agg L.toArray) ∧ Below w.heap.size w w' := by
  subst hL
  exact counts_calls A0 c0 l
theorem eqL (l : List S76) (L : List Value) (hL : (cntCells l l.length).toList = L) (d : Nat) (W : World) : (Op.equalIn (d + 2) 74 (.agg L.toArray) (.agg L.toArray)).run Try.prog W = .ok true W := by
  subst hL
  exact eq74 d W _ _ _ _ _ _ _ _ _ _ _ _ _ _ _ _ _ _ _
theorem add_block (a : Addr) (i : Nat) : (a.add i).block = a.block := by unfold Addr.add; split <;> rfl
theorem C_set {w : World} {A : Option Addr} {n : Nat} {xs : List Int} {p : Addr} {v : Value} (h : Kd.C (Kd.int .i64) w A n xs) (hf : ∀ ad, A = some ad → 0 < n → ad.block ≠ p.block) : Kd.C (Kd.int .i64) (w.setCell p v) A n xs := by
  refine ⟨h.1, h.2.1, fun hn => ?_⟩
  obtain ⟨ad, e, hc⟩ := h.2.2 hn
  refine ⟨ad, e, fun j q hj => ?_⟩
  obtain ⟨c, hl, hk, hcc⟩ := hc j q hj
  refine ⟨c, hl, hk, fun i u hu => ?_⟩
  rw [World.cell?_of_block (Below.heap_setCell _ _ _ _ (by rw [add_block]; exact hf ad e hn))]
  exact hcc i u hu


set_option maxHeartbeats 800000 in
set_option maxRecDepth 100000 in
theorem unpack_great (A0 : Option Addr) (c0 : Nat) (l : List S76) (w : World) (hl : 60 < l.length) (hm : l.length ≤ maxLen) :
    Calls Try.prog 12 #[.slice A0 l.length c0] w fun e w' => e = .returned (.bool true) ∧ Below w.heap.size w w' := by
  unfold maxLen at hm
  have c1 : decide (60 < (l.length : Int)) = true := decide_eq_true (by omega)
  go_enter Try.func12, Try.ntmps12
  go_wp2_with fail
  refine (montagelaw10_awake.calls 40 true w awake_runs).mono ?_
  rintro e w1 ⟨rfl, hb⟩
  have HB := Aside0.mk hb
  clear hb
  go_wp2
  go_ret
  exact ⟨rfl, HB.out⟩

set_option maxHeartbeats 1600000 in
set_option maxRecDepth 100000 in
theorem unpack_small (A0 : Option Addr) (c00 : Nat) (l : List S76) (w : World) (hl : l.length ≤ 60) (hr0 : Kd.C k76 w A0 l.length l) (hc0 : l.length ≤ c00) :
    Calls Try.prog 12 #[.slice A0 l.length c00] w fun e w' => e = .returned (.bool true) ∧ Below w.heap.size w w' := by
  obtain ⟨⟨a, f⟩, hla0, h1, h2⟩ := both_f l (by omega)
  have hla : a.length ≤ 1000 := hla0
  clear hla0
  obtain ⟨q1, h1⟩ := h1.rounds
  obtain ⟨q2, h2⟩ := h2.rounds
  have hu76 := Try.underlying76
  have HR0 := Aside0.mk hr0
  have HC0 := Aside0.mk hc0
  have E1 := Aside0.mk h1
  have E2 := Aside0.mk h2
  clear hr0 hc0 h1 h2
  have c1 : decide (60 < (l.length : Int)) = false := decide_eq_false (by omega)
  go_enter Try.func12, Try.ntmps12
  go_wp2_with fail
  refine (montagelaw10_awake.calls 40 true w awake_runs).mono ?_
  rintro e w1 ⟨rfl, hb⟩
  have HB := Aside0.mk hb
  clear hb
  go_wp2_with fail
  refine (runs_Unpack.calls q1 A0 c00 l a f w1 (Kd.C_below HR0.out HB.out) HC0.out E1.out).mono ?_
  rintro e w2 ⟨v0, rfl, hR, hb⟩
  obtain ⟨Aa, ca, rfl⟩ := Kd.R_slice hR
  have RA := Aside0.mk (Kd.R_reads' hR).2
  have HB2 := Aside0.mk (below_step HB.out hb)
  clear hb hR
  go_wp2_with fail
  refine (montageref10_Unpack.calls q2 A0 c00 l a f w2 (Kd.C_below HR0.out HB2.out) HC0.out E2.out).mono ?_
  rintro e w3 ⟨v0, rfl, hR, hb⟩
  obtain ⟨Ab, cb, rfl⟩ := Kd.R_slice hR
  have RB := Aside0.mk (Kd.R_reads' hR).2
  have RA2 := Aside0.mk (Kd.C_below RA.out.2 hb)
  have HB3 := Aside0.mk (below_step HB2.out hb)
  clear hb hR
  go_wp2_with (first | ((with_reducible refine gate_dst (N := 7) rfl ?_); refine box_event rfl (N := 7) rfl (cs := cntCells l 0) (t := 74) (by kernel_rfl) ?_; intro g hg w4 hblk hb; have GE := Aside0.mk (show w.heap.size ≤ g by have := HB3.out.size; omega); have BK := Aside0.mk hblk; have RA4 := Aside0.mk (Kd.C_below RA2.out hb); have RB4 := Aside0.mk (Kd.C_below RB.out.2 hb); have FA := Aside0.mk (Kd.far_C 0 RA2.out (Nat.le_of_eq hg.symm)); have FB := Aside0.mk (Kd.far_C 0 RB.out.2 (Nat.le_of_eq hg.symm)); have HB4 := Aside0.mk (below_step HB3.out hb); clear hg hblk hb))
  clear HB HB2 HB3 RA2
  go_loopw [9, 27] (fun v9 v27 wr => ∃ k : Nat, k ≤ l.length ∧ v27 = .int .i64 (k : Int) ∧ Aside0 (Kd.C (Kd.int .i64) wr Aa a.length a) ∧ Aside0 (Kd.C (Kd.int .i64) wr Ab a.length a) ∧ Aside0 (wr.heap[g]? = some (.cells (cntCells l k) 74 (0, 0))) ∧ Aside0 (Below w.heap.size w wr)) (fun _ v27 _ => l.length - (intOf v27).toNat)
  case atStart => exact ⟨0, by omega, rfl, RA4, RB4, BK, HB4⟩
  case round =>
    clear RA4 RB4 BK HB4
    obtain ⟨k, hk, rfl, RA4, RB4, BK, HB⟩ := hrel
    by_cases hlt : k < l.length
    · have c0 : decide ((k : Int) < (l.length : Int)) = true := decide_eq_true (by omega)
      have p1 : 0 ≤ (k : Int) := by omega
      have q1 : (k : Int) < (l.length : Int) := by omega
      obtain ⟨ad, e1, hx0, hx1⟩ := at_T76 HR0.out (k : Int) p1 q1
      cases e1
      rw [Int.toNat_natCast] at hx0 hx1
      replace hx0 := (HB.out.cell (World.block_lt_of_cell? w _ hx0)).trans hx0
      replace hx1 := (HB.out.cell (World.block_lt_of_cell? w _ hx1)).trans hx1
      obtain ⟨x, hx⟩ : ∃ x, (rd_T76 l (k : Int)).f0 = x := ⟨_, rfl⟩
      obtain ⟨b, hb⟩ : ∃ b, (rd_T76 l (k : Int)).f1 = b := ⟨_, rfl⟩
      rw [hx] at hx0
      rw [hb] at hx1
      obtain ⟨t, t1, t2, _⟩ := bits_of x
      have T1 := Aside0.mk t1
      have T2 := Aside0.mk t2
      have HA := Aside0.mk hx
      clear hx hb t1 t2
      by_cases hneg : x < 0
      · have d0 : decide (0 ≤ x) = false := decide_eq_false (by omega)
        have HM := Aside0.mk (cnt_miss l k (by rw [HA.out]; omega))
        go_wp2_with (first | ((with_reducible refine gate_dst (N := 9) rfl ?_); refine box_event rfl (N := 9) rfl (cs := #[.int .i64 0, .int .i64 0]) (t := 76) (by first | (go_simp; done) | (go_simp; rfl)) ?_; intro gr hg w5 hblk hb3; have BR := Aside0.mk hblk; have z0 := (blk_cell hblk 0); have z1 := (blk_cell hblk 1); have y0 := blk_frozen hblk 0; have y1 := blk_frozen hblk 1; have BK' := Aside0.mk (blk_below BK.out hb3); have RA' := Aside0.mk (Kd.C_below RA4.out hb3); have RB' := Aside0.mk (Kd.C_below RB4.out hb3); have HB' := Aside0.mk (below_step HB.out hb3); have FA2 := Aside0.mk (Kd.far_C 0 RA4.out (Nat.le_of_eq hg.symm)); have FB2 := Aside0.mk (Kd.far_C 0 RB4.out (Nat.le_of_eq hg.symm)); have GR := Aside0.mk (show g ≠ gr ∧ w.heap.size ≤ gr by have := blk_lt BK.out; have := below_size HB.out; omega); skip; clear hg hblk hb3))
        go_quiet (first | (go_at_call 48; (with_reducible refine (runs_Bits.calls x t _ T1.out).mono ?_); rintro e w' ⟨rfl, ⟨nd, rfl⟩⟩; (try first | exact ⟨rfl, _, World.drewN_drewN _ _ _⟩ | exact ⟨rfl, _, Eq.trans (World.drewN_drewN _ _ _) (congrArg (World.drewN _) (Nat.add_assoc _ _ _))⟩)) | (go_at_call 49; (with_reducible refine (montageref10_Bits.calls x t _ T2.out).mono ?_); rintro e w' ⟨rfl, ⟨nd, rfl⟩⟩; (try first | exact ⟨rfl, _, World.drewN_drewN _ _ _⟩ | exact ⟨rfl, _, Eq.trans (World.drewN_drewN _ _ _) (congrArg (World.drewN _) (Nat.add_assoc _ _ _))⟩)))
        go_wp2
        go_roundw
        case rel => exact ⟨k + 1, by omega, by go_num, ⟨Kd.C_drewN (C_set (C_set RA'.out FA2.out) FA2.out) _⟩, ⟨Kd.C_drewN (C_set (C_set RB'.out FB2.out) FB2.out) _⟩, ⟨by rw [HM.out]; refine blk_drewN ?_ _; refine blk_far ?_ (by exact GR.out.1) _; refine blk_far ?_ (by exact GR.out.1) _; exact BK'.out⟩, ⟨pw_below_drewN (below_set (below_set HB'.out GR.out.2) GR.out.2) _⟩⟩
        case measure => simp [intOf]; omega
      · have d0 : decide (0 ≤ x) = true := decide_eq_true (by omega)
        by_cases h19 : x < 19
        · have d1 : decide (x < 19) = true := decide_eq_true h19
          have hxr := cnt_range l k x
          have hat := cnt_at l k x.toNat (by omega)
          have hhit := cnt_hit l k x.toNat (by omega) (by rw [HA.out]; omega)
          rw [show ((x.toNat : Nat) : Int) = x from by omega] at hat hhit
          obtain ⟨y, hy⟩ : ∃ y, cnt l k x = y := ⟨_, rfl⟩
          rw [hy] at hat hhit hxr
          have HC := Aside0.mk hat
          have HH := Aside0.mk hhit
          clear hat hhit hy
          go_wp2_with (first | ((with_reducible refine gate_dst (N := 9) rfl ?_); refine box_event rfl (N := 9) rfl (cs := #[.int .i64 0, .int .i64 0]) (t := 76) (by first | (go_simp; done) | (go_simp; rfl)) ?_; intro gr hg w5 hblk hb3; have BR := Aside0.mk hblk; have z0 := (blk_cell hblk 0); have z1 := (blk_cell hblk 1); have y0 := blk_frozen hblk 0; have y1 := blk_frozen hblk 1; have BK' := Aside0.mk (blk_below BK.out hb3); have RA' := Aside0.mk (Kd.C_below RA4.out hb3); have RB' := Aside0.mk (Kd.C_below RB4.out hb3); have HB' := Aside0.mk (below_step HB.out hb3); have FA2 := Aside0.mk (Kd.far_C 0 RA4.out (Nat.le_of_eq hg.symm)); have FB2 := Aside0.mk (Kd.far_C 0 RB4.out (Nat.le_of_eq hg.symm)); have GR := Aside0.mk (show g ≠ gr ∧ w.heap.size ≤ gr by have := blk_lt BK.out; have := below_size HB.out; omega); have zc := (blk_cell (blk_below BK.out hb3) x.toNat).trans HC.out; have yc := blk_frozen (blk_below BK.out hb3) x.toNat; have hne := GR.out.1; have hne2 : gr ≠ g := fun e => GR.out.1 e.symm; clear hg hblk hb3))
          go_quiet (first | (go_at_call 48; (with_reducible refine (runs_Bits.calls x t _ T1.out).mono ?_); rintro e w' ⟨rfl, ⟨nd, rfl⟩⟩; (try first | exact ⟨rfl, _, World.drewN_drewN _ _ _⟩ | exact ⟨rfl, _, Eq.trans (World.drewN_drewN _ _ _) (congrArg (World.drewN _) (Nat.add_assoc _ _ _))⟩)) | (go_at_call 49; (with_reducible refine (montageref10_Bits.calls x t _ T2.out).mono ?_); rintro e w' ⟨rfl, ⟨nd, rfl⟩⟩; (try first | exact ⟨rfl, _, World.drewN_drewN _ _ _⟩ | exact ⟨rfl, _, Eq.trans (World.drewN_drewN _ _ _) (congrArg (World.drewN _) (Nat.add_assoc _ _ _))⟩)))
          go_wp2
          go_roundw
          case rel => exact ⟨k + 1, by omega, by go_num, ⟨Kd.C_drewN (C_set (C_set (C_set RA'.out FA2.out) FA2.out) FA.out) _⟩, ⟨Kd.C_drewN (C_set (C_set (C_set RB'.out FB2.out) FB2.out) FB.out) _⟩, ⟨by refine blk_drewN ?_ _; refine blk_put (cs := cntCells l k) ?_ x.toNat _ HH.out; refine blk_far ?_ (by exact GR.out.1) _; refine blk_far ?_ (by exact GR.out.1) _; exact BK'.out⟩, ⟨pw_below_drewN (below_set (below_set (below_set HB'.out GR.out.2) GR.out.2) GE.out) _⟩⟩
          case measure => simp [intOf]; omega
        · have d1 : decide (x < 19) = false := decide_eq_false h19
          have HM := Aside0.mk (cnt_miss l k (by rw [HA.out]; omega))
          go_wp2_with (first | ((with_reducible refine gate_dst (N := 9) rfl ?_); refine box_event rfl (N := 9) rfl (cs := #[.int .i64 0, .int .i64 0]) (t := 76) (by first | (go_simp; done) | (go_simp; rfl)) ?_; intro gr hg w5 hblk hb3; have BR := Aside0.mk hblk; have z0 := (blk_cell hblk 0); have z1 := (blk_cell hblk 1); have y0 := blk_frozen hblk 0; have y1 := blk_frozen hblk 1; have BK' := Aside0.mk (blk_below BK.out hb3); have RA' := Aside0.mk (Kd.C_below RA4.out hb3); have RB' := Aside0.mk (Kd.C_below RB4.out hb3); have HB' := Aside0.mk (below_step HB.out hb3); have FA2 := Aside0.mk (Kd.far_C 0 RA4.out (Nat.le_of_eq hg.symm)); have FB2 := Aside0.mk (Kd.far_C 0 RB4.out (Nat.le_of_eq hg.symm)); have GR := Aside0.mk (show g ≠ gr ∧ w.heap.size ≤ gr by have := blk_lt BK.out; have := below_size HB.out; omega); skip; clear hg hblk hb3))
          go_quiet (first | (go_at_call 48; (with_reducible refine (runs_Bits.calls x t _ T1.out).mono ?_); rintro e w' ⟨rfl, ⟨nd, rfl⟩⟩; (try first | exact ⟨rfl, _, World.drewN_drewN _ _ _⟩ | exact ⟨rfl, _, Eq.trans (World.drewN_drewN _ _ _) (congrArg (World.drewN _) (Nat.add_assoc _ _ _))⟩)) | (go_at_call 49; (with_reducible refine (montageref10_Bits.calls x t _ T2.out).mono ?_); rintro e w' ⟨rfl, ⟨nd, rfl⟩⟩; (try first | exact ⟨rfl, _, World.drewN_drewN _ _ _⟩ | exact ⟨rfl, _, Eq.trans (World.drewN_drewN _ _ _) (congrArg (World.drewN _) (Nat.add_assoc _ _ _))⟩)))
          go_wp2
          go_roundw
          case rel => exact ⟨k + 1, by omega, by go_num, ⟨Kd.C_drewN (C_set (C_set RA'.out FA2.out) FA2.out) _⟩, ⟨Kd.C_drewN (C_set (C_set RB'.out FB2.out) FB2.out) _⟩, ⟨by rw [HM.out]; refine blk_drewN ?_ _; refine blk_far ?_ (by exact GR.out.1) _; refine blk_far ?_ (by exact GR.out.1) _; exact BK'.out⟩, ⟨pw_below_drewN (below_set (below_set HB'.out GR.out.2) GR.out.2) _⟩⟩
          case measure => simp [intOf]; omega
    · have hk2 : k = l.length := by omega
      rw [hk2] at BK
      clear hk2
      have c9 : decide ((k : Int) < (l.length : Int)) = false := decide_eq_false (by omega)
      obtain ⟨q3, hq3⟩ := (ints_same a (by omega)).rounds
      have Q3 := Aside0.mk hq3
      clear hq3
      have hcL : l.length ≤ 1000 := by omega
      obtain ⟨L, hL⟩ : ∃ L : List Value, (cntCells l l.length).toList = L := ⟨_, rfl⟩
      have hL19 : L.length = 19 := by rw [← hL]; rfl
      have SR : wr.rangeAt g 0 L := by rw [← hL]; exact range19 BK.out
      have CC := Aside0.mk (countsL A0 c00 l L hL)
      have EL := Aside0.mk (eqL l L hL)
      have hEL : ∀ (d : Nat) (W : World), (Op.equalIn (d + 2) 74 (.agg L.toArray) (.agg L.toArray)).run Try.prog W = .ok true W := EL.out
      have hu74 := Try.underlying74
      have hi74 : (Try.prog.info? 74).map (·.size) = some L.length := by rw [hL19]; kernel_rfl
      clear hL BK
      go_wp2
      go_region_held3 (fun W => W.rangeAt g 0 L) (first | go_keep_ranges | assumption)
        (first
        | (go_at_call 47; refine (montagelaw10_ints.calls q3 Aa ca a Ab cb a true _ (by (with_reducible repeat (first | apply Kd.C_drewN | apply Kd.C_drew)); exact RA4.out) RA.out.1 (by (with_reducible repeat (first | apply Kd.C_drewN | apply Kd.C_drew)); exact RB4.out) RB.out.1 Q3.out).mono ?_; rintro e w6 ⟨rfl, ⟨nd, rfl⟩⟩; have S6 := range_drewN SR nd)
        | (go_at_call 50; refine (CC.out _ (by (with_reducible repeat (first | apply Kd.C_drewN | apply Kd.C_drew)); exact Kd.C_below HR0.out HB.out) hcL).mono ?_; rintro e w7 ⟨rfl, hb⟩; have B7 := Aside0.mk hb; have S7 : w7.rangeAt g 0 L := range_below (range_drewN SR _) hb; clear hb))
      all_goals
        have HB9 := Aside0.mk (below_step (pw_below_drewN HB.out _) B7.out)
        go_wp2
        go_ret
        exact ⟨rfl, by repeat (first | (with_reducible first | exact HB9.out | apply below_alloc | apply pw_below_drewN | apply below_drew1) | exact HB9.out)⟩

def G76 (x : S76) : Prop := (Lit.int .i64 x.f0).wf = true ∧ (Lit.int .i64 x.f1).wf = true
theorem opens76 : Opens.Opens Try.prog 76 k76 G76 := by
  intro H enc W fuel cs x h
  obtain ⟨xs, n, _, _, hl, hlen, hf⟩ := DataW.trod_struct Try.underlying76 h
  have l0_ : cs.length = 2 := hl.trans (by kernel_rfl)
  clear hl
  obtain ⟨v0, r0, e0_, l1_⟩ := Opens.cons_of (n := 1) l0_
  subst e0_
  obtain ⟨v1, r1, rfl, l2_⟩ := Opens.cons_of (n := 0) l1_
  obtain rfl := Opens.nil_of l2_
  have h0 : DataW.trod enc Try.prog W 0 (fun _ => true) true n 3 (List.take (Try.prog.cellsOf 3) (List.drop 0 [v0, v1])) = xs[0]? := hf 0 _ rfl
  obtain ⟨y0, hy0⟩ : ∃ y, xs[0]? = some y := ⟨_, List.getElem?_eq_getElem (by rw [hlen]; decide)⟩
  rw [hy0, show Try.prog.cellsOf 3 = 1 from by kernel_rfl] at h0
  obtain ⟨a0, k0_, g0⟩ := (Opens.opens_int (k := .i64) Try.underlying3) _ _ _ _ _ _ h0
  have h1 : DataW.trod enc Try.prog W 0 (fun _ => true) true n 3 (List.take (Try.prog.cellsOf 3) (List.drop 1 [v0, v1])) = xs[1]? := hf 1 _ rfl
  obtain ⟨y1, hy1⟩ : ∃ y, xs[1]? = some y := ⟨_, List.getElem?_eq_getElem (by rw [hlen]; decide)⟩
  rw [hy1, show Try.prog.cellsOf 3 = 1 from by kernel_rfl] at h1
  obtain ⟨a1, k1_, g1⟩ := (Opens.opens_int (k := .i64) Try.underlying3) _ _ _ _ _ _ h1
  exact ⟨⟨a0, a1⟩, ⟨[v0], [v1], rfl, k0_, k1_⟩, g0, g1⟩

theorem walk (A0 : Option Addr) (c0 : Nat) (l : List S76) (w : World) (hr0 : Kd.C k76 w A0 l.length l) (hc0 : l.length ≤ c0) (hm0 : l.length ≤ maxLen) (y0 : l.length * 16 ≤ 140737488351232) (g0 : ∀ x ∈ l, G76 x) :
    Calls Try.prog 12 #[.slice A0 l.length c0] w fun e w' => e = .returned (.bool true) ∧ Below w.heap.size w w' := by
  by_cases h : l.length ≤ 60
  · exact unpack_small A0 c0 l w h hr0 hc0
  · exact unpack_great A0 c0 l w (by omega) hm0
end Go.Proofs.Ytndcfccbicognaa.XRunsUnpack
