/- The walk of crc.Join, and what it tells. It has no conditions. -/
import Derived.Test.YtndcfccbicognaaYCrcLin
import Derived.BigRegion
import Derived.RegionTactic
import Derived.ChangeAlike
import Derived.Deep.RegionWith
namespace Go.Proofs.Ytndcfccbicognaa.XCrcOf
set_option linter.unusedVariables false
set_option linter.unusedSimpArgs false
open Go.RowKit Go.Proofs.YtndcfccbicognaaW.PrintWords Go.Proofs.YtndcfccbicognaaW.PrintLast Go.Proofs.YtndcfccbicognaaW.PrintMore

/-- A matrix: what becomes of each bit. -/
def matL (f : Nat → Int) (k : Nat) : List Value := (List.range k).map (fun (i : Nat) => Value.int .u32 (f i)) ++ List.replicate (32 - k) (Value.int .u32 0)
def matAt (f : Nat → Int) (k : Nat) : Array Value := (matL f k).toArray
theorem mat_step (f : Nat → Int) (k : Nat) (hk : k < 32) : (matAt f k).setIfInBounds k (.int .u32 (f k)) = matAt f (k + 1) := by
  unfold matAt matL
  rw [List.setIfInBounds_toArray]
  congr 1
  rw [List.set_append_right _ _ (by simp), List.length_map, List.length_range, Nat.sub_self, show 32 - k = (32 - (k + 1)) + 1 from by omega, List.replicate_succ, List.set_cons_zero, List.range_succ, List.map_append, List.append_assoc]
  rfl
theorem mat_get (f : Nat → Int) (k j : Nat) (hj : j < 32) : ∃ v, (matAt f k)[j]? = some v := by
  unfold matAt matL
  by_cases h : j < k
  · exact ⟨Value.int .u32 (f j), by simp [List.getElem?_append_left, h]⟩
  · refine ⟨Value.int .u32 0, ?_⟩
    rw [List.getElem?_toArray, List.getElem?_append_right (by simp; omega), List.getElem?_replicate, if_pos (by simp; omega)]
theorem mat_at (f : Nat → Int) (i : Nat) (h1 : i < 32) : (matAt f 32)[i]? = some (.int .u32 (f i)) := by
  unfold matAt matL
  rw [List.getElem?_toArray, List.getElem?_append_left (by simp; omega), List.getElem?_map, List.getElem?_range (by omega)]
  rfl

/-- A matrix times a number's bits. -/
def tms (f : Nat → Int) : Nat → Nat → Int → Int → Int
  | 0, _, _, out => out
  | d + 1, i, v, out => if v = 0 then out else tms f d (i + 1) (v / 2) (Go.bits .xor .u32 out (Go.bits .and .u32 (f i) ((-(Go.bits .and .u32 v 1)) % 4294967296)))

set_option maxHeartbeats 400000 in
set_option maxRecDepth 100000 in
theorem times_calls (f : Nat → Int) (g : Nat) (v : Int) (hv : 0 ≤ v ∧ v < 4294967296) (w : World) (hI : w.heap[g]? = some (.cells (matAt f 32) 87 (0, 0))) :
    Calls Try.prog 54 #[.pointer (some ⟨g, 0, none⟩), .int .u32 v] w fun e w' => e = .returned (.int .u32 (tms f 32 0 v 0)) ∧ w = w' := by
  have BK := Aside0.mk hI
  clear hI
  obtain ⟨r, hr⟩ : ∃ r, tms f 32 0 v 0 = r := ⟨_, rfl⟩
  rw [hr]
  have HR := Aside0.mk hr
  clear hr
  go_enter Try.func54, Try.ntmps54
  go_wp2
  go_loop [1, 5, 6] (fun v1 v5 v6 => ∃ (i : Nat) (x out : Int), i ≤ 32 ∧ v6 = .int .i64 (i : Int) ∧ v1 = .int .u32 x ∧ v5 = .int .u32 out ∧ 0 ≤ x ∧ Aside0 (x < 2 ^ (32 - i)) ∧ Aside0 (tms f (32 - i) i x out = r)) (fun _ _ v6 => 32 - (intOf v6).toNat)
  case atStart => exact ⟨0, v, 0, by omega, rfl, rfl, rfl, hv.1, ⟨hv.2⟩, HR⟩
  case round =>
    clear HR
    obtain ⟨i, x, out, hi, rfl, rfl, rfl, hx0, HX, HR⟩ := hrel
    by_cases hx : x = 0
    · subst hx
      have hout : out = r := by
        have h := HR.out
        rcases Nat.lt_or_ge i 32 with h1 | h1
        · obtain ⟨d, hd⟩ : ∃ d, 32 - i = d + 1 := ⟨31 - i, by omega⟩
          rw [hd, tms, if_pos rfl] at h
          exact h
        · rw [show 32 - i = 0 from by omega, tms] at h
          exact h
      subst hout
      go_wp2
      go_ret
      exact ⟨rfl, rfl⟩
    · have hi2 : i < 32 := by
        rcases Nat.lt_or_ge i 32 with h1 | h1
        · exact h1
        · have h := HX.out
          rw [show 32 - i = 0 from by omega] at h
          simp at h
          omega
      have c0 : (x == 0) = false := beq_eq_false_iff_ne.mpr hx
      have c1 : (x != 0) = true := bne_iff_ne.mpr hx
      have hc : w.cell? ⟨g, i, none⟩ = some (.int .u32 (f i)) := (blk_cell BK.out i).trans (mat_at f i hi2)
      have h := HR.out
      have h2 := HX.out
      have H3 := Aside0.mk (show x / 2 < 2 ^ (32 - (i + 1)) by
        rw [show 32 - i = (32 - (i + 1)) + 1 from by omega, Int.pow_succ] at h2
        omega)
      rw [show 32 - i = (32 - (i + 1)) + 1 from by omega, tms, if_neg hx] at h
      have H4 := Aside0.mk h
      clear h h2 hx
      go_wp2
      go_round
      case rel => exact ⟨i + 1, x / 2, _, by omega, by go_num, rfl, rfl, by omega, H3, H4⟩
      case measure => simp [intOf]; omega

theorem blk_ne_of {w : World} {g g2 : Nat} {o : Obj} (h : w.heap[g]? = some o) (hg : w.heap.size ≤ g2) : g ≠ g2 := by have := blk_lt h; omega

theorem u32_range (n : Int) : 0 ≤ IntKind.u32.wrap n ∧ IntKind.u32.wrap n < 4294967296 := by rw [IntKind.wrap_u32]; omega
theorem xor_range (a b : Int) : 0 ≤ Go.bits .xor .u32 a b ∧ Go.bits .xor .u32 a b < 4294967296 := u32_range _
theorem tms_range (f : Nat → Int) : ∀ (d i : Nat) (v out : Int), (0 ≤ out ∧ out < 4294967296) → 0 ≤ tms f d i v out ∧ tms f d i v out < 4294967296
  | 0, _, _, _, h => h
  | d + 1, i, v, out, h => by
    rw [tms]
    by_cases hv : v = 0
    · rw [if_pos hv]; exact h
    · rw [if_neg hv]; exact tms_range f d _ _ _ (xor_range _ _)
theorem shN_range : ∀ (n : Nat) (c : Int), (0 ≤ c ∧ c < 4294967296) → 0 ≤ shN n c ∧ shN n c < 4294967296
  | 0, _, h => h
  | n + 1, c, _ => shN_range n _ (xor_range _ _)

/-- Twice the one matrix, one behind the other. -/
def tw (f : Nat → Int) (i : Nat) : Int := tms f 32 0 (f i) 0

set_option maxHeartbeats 800000 in
set_option maxRecDepth 100000 in
theorem twice_calls (f : Nat → Int) (hf : ∀ i, 0 ≤ f i ∧ f i < 4294967296) (g : Nat) (w : World) (hI : w.heap[g]? = some (.cells (matAt f 32) 87 (0, 0))) :
    Calls Try.prog 55 #[.pointer (some ⟨g, 0, none⟩)] w fun e w' => ∃ g2 : Nat, e = .returned (.pointer (some ⟨g2, 0, none⟩)) ∧ w.heap.size ≤ g2 ∧ w'.heap[g2]? = some (.cells (matAt (tw f) 32) 87 (0, 0)) ∧ Below w.heap.size w w' := by
  have BM := Aside0.mk hI
  clear hI
  go_enter Try.func55, Try.ntmps55
  go_wp2_with (first | ((with_reducible refine gate_dst (N := 3) rfl ?_); refine box_event rfl (N := 3) rfl (cs := matAt (tw f) 0) (t := 87) (by kernel_rfl) ?_; intro g2 hg w1 hblk hb; have GE := Aside0.mk (Nat.le_of_eq hg.symm); have BM1 := Aside0.mk (blk_below BM.out hb); have BK := Aside0.mk hblk; have HB := Aside0.mk hb; clear hg hblk hb))
  go_loopw [4, 5, 7] (fun v4 v5 v7 wr => ∃ i : Nat, i ≤ 32 ∧ v7 = .int .i64 (i : Int) ∧ Aside0 (wr.heap[g2]? = some (.cells (matAt (tw f) i) 87 (0, 0))) ∧ Aside0 (wr.heap[g]? = some (.cells (matAt f 32) 87 (0, 0))) ∧ Aside0 (Below w.heap.size w wr)) (fun _ _ v7 _ => 32 - (intOf v7).toNat)
  case atStart => exact ⟨0, by omega, rfl, BK, BM1, HB⟩
  case round =>
    clear BK HB BM1
    obtain ⟨i, hi, rfl, BK, BM1, HB⟩ := hrel
    by_cases hlt : i < 32
    · have c0 : decide ((i : Int) < 32) = true := decide_eq_true (by omega)
      have hc : wr.cell? ⟨g, i, none⟩ = some (.int .u32 (f i)) := (blk_cell BM1.out i).trans (mat_at f i hlt)
      have HC := Aside0.mk (mat_get (tw f) i i hlt)
      go_wp2
      go_region
      go_wp2_with fail
      refine (times_calls f g (f i) (hf i) _ (by (with_reducible repeat (first | refine blk_drewN ?_ _ | refine blk_drew ?_ | refine blk_alloc ?_ _)); exact BM1.out)).mono ?_
      rintro e w3 ⟨rfl, rfl⟩
      rw [show tms f 32 0 (f i) 0 = tw f i from rfl]
      obtain ⟨v0, hv0⟩ := HC.out
      have hcell : wr.cell? ⟨g2, i, none⟩ = some v0 := (blk_cell BK.out i).trans hv0
      have hfro := blk_frozen BK.out i
      have HN := Aside0.mk (blk_ne_of BM.out GE.out)
      clear hv0
      go_wp2
      go_roundw
      case rel => exact ⟨i + 1, by omega, by go_num, ⟨by (with_reducible repeat (first | refine blk_drewN ?_ _ | refine blk_drew ?_ | refine blk_alloc ?_ _)); exact blk_put BK.out i _ (mat_step (tw f) i hlt)⟩, ⟨by refine blk_far ?_ (by exact HN.out) _; (with_reducible repeat (first | refine blk_drewN ?_ _ | refine blk_drew ?_ | refine blk_alloc ?_ _)); exact BM1.out⟩, ⟨below_set (below_drew HB.out) GE.out⟩⟩
      case measure => simp [intOf]; omega
    · have hi2 : i = 32 := by omega
      subst hi2
      go_wp2
      go_ret
      exact ⟨g2, rfl, GE.out, BK.out, HB.out⟩

/-- The matrix of a byte that is 0. -/
def mat0 (i : Nat) : Int := shN 8 (IntKind.u32.wrap (2 ^ i))
theorem mat0_range (i : Nat) : 0 ≤ mat0 i ∧ mat0 i < 4294967296 := shN_range 8 _ (u32_range _)
def jn : Nat → (Nat → Int) → Int → Int → Int
  | 0, _, a, _ => a
  | d + 1, f, a, n => if n > 0 then jn d (tw f) (if Go.bits .and .i64 n 1 = 1 then tms f 32 0 a 0 else a) (n / 2) else a

set_option maxHeartbeats 800000 in
set_option maxRecDepth 100000 in
theorem join_calls (a b n : Int) (ha : 0 ≤ a ∧ a < 4294967296) (hn : 0 ≤ n) (hn2 : n ≤ 4194304) (w : World) :
    Calls Try.prog 37 #[.int .u32 a, .int .u32 b, .int .i64 n] w fun e w' => e = .returned (.int .u32 (Go.bits .xor .u32 (jn 24 mat0 a n) b)) ∧ Below w.heap.size w w' := by
  have c0 : decide (n < 0) = false := decide_eq_false (by omega)
  have c1 : decide (4194304 < n) = false := decide_eq_false (by omega)
  obtain ⟨r, hr⟩ : ∃ r, jn 24 mat0 a n = r := ⟨_, rfl⟩
  rw [hr]
  have HR := Aside0.mk hr
  clear hr
  go_enter Try.func37, Try.ntmps37
  go_wp2_with (first | ((with_reducible refine gate_dst (N := 17) rfl ?_); refine box_event rfl (N := 17) rfl (cs := matAt mat0 0) (t := 87) (by first | (go_simp; done) | (go_simp; rfl) | kernel_rfl) ?_; intro g hg w1 hblk hb; have GE := Aside0.mk (Nat.le_of_eq hg.symm); have BK := Aside0.mk hblk; have HB := Aside0.mk hb; clear hg hblk hb))
  go_loopw [8, 18] (fun v8 v18 wr => ∃ i : Nat, i ≤ 32 ∧ v18 = .int .i64 (i : Int) ∧ Aside0 (wr.heap[g]? = some (.cells (matAt mat0 i) 87 (0, 0))) ∧ Aside0 (Below w.heap.size w wr)) (fun _ v18 _ => 32 - (intOf v18).toNat)
  case atStart => exact ⟨0, by omega, rfl, BK, HB⟩
  case round =>
    clear BK HB
    obtain ⟨i, hi, rfl, BK, HB⟩ := hrel
    by_cases hlt : i < 32
    · have c2 : decide ((i : Int) < 32) = true := decide_eq_true (by omega)
      have HC := Aside0.mk (mat_get mat0 i i hlt)
      obtain ⟨v0, hv0⟩ := HC.out
      have hcell : wr.cell? ⟨g, i, none⟩ = some v0 := (blk_cell BK.out i).trans hv0
      have hfro := blk_frozen BK.out i
      clear hv0
      go_wp2
      go_region_with (go_at_call 53; refine (crc_shifted.calls 9 (IntKind.u32.wrap (2 ^ i)) 8 _ _ (shifted_8 _)).mono ?_; rintro e w3 ⟨rfl, ⟨nd, rfl⟩⟩)
      go_wp2
      go_roundw
      case rel => exact ⟨i + 1, by omega, by go_num, ⟨by (with_reducible repeat (first | refine blk_drewN ?_ _ | refine blk_drew ?_ | refine blk_alloc ?_ _)); refine blk_put (cs := matAt mat0 i) ?_ i _ (mat_step mat0 i hlt); (with_reducible repeat (first | refine blk_drewN ?_ _ | refine blk_drew ?_ | refine blk_alloc ?_ _)); exact BK.out⟩, ⟨by first | exact below_set (pw_below_drewN (below_drew HB.out) _) GE.out | exact below_set (below_drew (pw_below_drewN HB.out _)) GE.out | exact below_set (pw_below_drewN HB.out _) GE.out⟩⟩
      case measure => simp [intOf]; omega
    · have c2 : decide ((i : Int) < 32) = false := decide_eq_false (by omega)
      have hi2 : i = 32 := by omega
      rw [hi2] at BK
      clear hi2
      have N0 := Aside0.mk (show n < 2 ^ 24 by have : (2 : Int) ^ 24 = 16777216 := by decide
                                               omega)
      go_wp2
      go_loopw [0, 2, 7] (fun v0 v2 v7 wr => ∃ (d g1 : Nat) (f : Nat → Int) (a1 n1 : Int), v0 = .int .u32 a1 ∧ v2 = .int .i64 n1 ∧ v7 = .pointer (some ⟨g1, 0, none⟩) ∧ 0 ≤ n1 ∧ n1 ≤ 4194304 ∧ 0 ≤ a1 ∧ a1 < 4294967296 ∧ Aside0 (n1 < 2 ^ d) ∧ Aside0 (jn d f a1 n1 = r) ∧ Aside0 (∀ i, 0 ≤ f i ∧ f i < 4294967296) ∧ Aside0 (wr.heap[g1]? = some (.cells (matAt f 32) 87 (0, 0))) ∧ Aside0 (Below w.heap.size w wr)) (fun _ v2 _ _ => (intOf v2).toNat)
      case atStart => exact ⟨24, g, mat0, a, n, rfl, rfl, rfl, hn, hn2, ha.1, ha.2, N0, HR, ⟨mat0_range⟩, BK, HB⟩
      case round =>
        clear BK HB HR N0 ha hn hn2 c0 c1
        obtain ⟨d, g1, f, a1, n1, rfl, rfl, rfl, hn, hn2, ha0, ha1, N0, HR, HF, BK, HB⟩ := hrel
        by_cases hpos : 0 < n1
        · have c0 : decide (0 < n1) = true := decide_eq_true hpos
          have hd : d ≠ 0 := fun h => by
            have h0 := N0.out
            rw [h] at h0
            simp at h0
            omega
          obtain ⟨d1, rfl⟩ : ∃ d1, d = d1 + 1 := ⟨d - 1, by omega⟩
          have h := HR.out
          rw [jn, if_pos hpos] at h
          have N1 := Aside0.mk (show n1 / 2 < 2 ^ d1 by
            have h0 := N0.out
            rw [Int.pow_succ] at h0
            omega)
          have HF2 := Aside0.mk (show ∀ i, 0 ≤ tw f i ∧ tw f i < 4294967296 from fun i => tms_range f 32 0 (f i) 0 (by omega))
          have hT := tms_range f 32 0 a1 0 (by omega)
          by_cases hbit : Go.bits .and .i64 n1 1 = 1
          · rw [if_pos hbit] at h
            have HR1 := Aside0.mk h
            have c1 : (Go.bits .and .i64 n1 1 == 1) = true := beq_iff_eq.mpr hbit
            clear h hbit HR N0 hd
            go_wp2_with fail
            refine (times_calls f g1 a1 ⟨ha0, ha1⟩ _ (by (with_reducible repeat (first | refine blk_drewN ?_ _ | refine blk_drew ?_ | refine blk_alloc ?_ _)); exact BK.out)).mono ?_
            rintro e w3 ⟨rfl, rfl⟩
            go_wp2_with fail
            refine (twice_calls f HF.out g1 _ (by (with_reducible repeat (first | refine blk_drewN ?_ _ | refine blk_drew ?_ | refine blk_alloc ?_ _)); exact BK.out)).mono ?_
            rintro e w3 ⟨g2, rfl, hge, hblk, hb⟩
            have BK2 := Aside0.mk hblk
            have HB2 := Aside0.mk (below_step HB.out hb)
            clear hge hblk hb
            go_wp2
            go_roundw
            case rel => exact ⟨d1, g2, tw f, _, n1 / 2, rfl, rfl, rfl, by omega, by omega, hT.1, hT.2, N1, HR1, HF2, BK2, HB2⟩
            case measure => simp [intOf]; omega
          · rw [if_neg hbit] at h
            have HR1 := Aside0.mk h
            have c1 : (Go.bits .and .i64 n1 1 == 1) = false := beq_eq_false_iff_ne.mpr hbit
            clear h hbit HR N0 hd
            go_wp2_with fail
            refine (twice_calls f HF.out g1 _ (by (with_reducible repeat (first | refine blk_drewN ?_ _ | refine blk_drew ?_ | refine blk_alloc ?_ _)); exact BK.out)).mono ?_
            rintro e w3 ⟨g2, rfl, hge, hblk, hb⟩
            have BK2 := Aside0.mk hblk
            have HB2 := Aside0.mk (below_step HB.out hb)
            clear hge hblk hb
            go_wp2
            go_roundw
            case rel => exact ⟨d1, g2, tw f, a1, n1 / 2, rfl, rfl, rfl, by omega, by omega, ha0, ha1, N1, HR1, HF2, BK2, HB2⟩
            case measure => simp [intOf]; omega
        · have c0 : decide (0 < n1) = false := decide_eq_false hpos
          have h := HR.out
          have hn0 : n1 = 0 := by omega
          have ha : a1 = r := by
            cases d with
            | zero => exact h
            | succ d => rw [jn, if_neg hpos] at h; exact h
          subst ha
          clear h HR
          go_wp2
          go_ret
          exact ⟨rfl, HB.out⟩

set_option maxHeartbeats 400000 in
set_option maxRecDepth 100000 in
theorem join_out (a b n : Int) (hn : n < 0 ∨ 4194304 < n) (w : World) :
    Calls Try.prog 37 #[.int .u32 a, .int .u32 b, .int .i64 n] w fun e w' => e = .returned (.int .u32 a) ∧ Below w.heap.size w w' := by
  by_cases h : n < 0
  · have c0 : decide (n < 0) = true := decide_eq_true h
    go_enter Try.func37, Try.ntmps37
    go_wp2
    go_ret
    exact ⟨rfl, Below.refl _ _⟩
  · have c0 : decide (n < 0) = false := decide_eq_false h
    have c1 : decide (4194304 < n) = true := decide_eq_true (by omega)
    go_enter Try.func37, Try.ntmps37
    go_wp2
    go_ret
    exact ⟨rfl, Below.refl _ _⟩

/-- A function that acts bit by bit. -/
structure Lin (L : Nat → Nat) : Prop where
  zero : L 0 = 0
  xor : ∀ x y, L (x ^^^ y) = L x ^^^ L y
  lt : ∀ x, x < 4294967296 → L x < 4294967296
/-- A matrix of numbers is that function's. -/
def Rep (f : Nat → Int) (L : Nat → Nat) : Prop := ∀ i, i < 32 → f i = ((L (2 ^ i) : Nat) : Int)

theorem low_bit (v i : Nat) : v * 2 ^ i = ((v % 2) * 2 ^ i) ^^^ (v / 2 * 2 ^ (i + 1)) := by
  have h : v = (v % 2) ^^^ (v / 2 * 2 ^ 1) := by
    apply Nat.eq_of_testBit_eq
    intro j
    rw [Nat.testBit_xor, ← Nat.shiftLeft_eq, Nat.testBit_shiftLeft]
    cases j with
    | zero => simp
    | succ j => simp [Nat.testBit_succ, show v % 2 / 2 = 0 from by omega]
  have h2 : (v % 2 ^^^ (v / 2 * 2 ^ 1)) <<< i = ((v % 2) <<< i) ^^^ ((v / 2 * 2 ^ 1) <<< i) := Nat.shiftLeft_xor_distrib ..
  rw [← h] at h2
  rw [Nat.shiftLeft_eq, Nat.shiftLeft_eq, Nat.shiftLeft_eq] at h2
  rw [h2, Nat.mul_assoc, Nat.pow_one, Nat.pow_succ, Nat.mul_comm 2 (2 ^ i)]

theorem tms_lin (f : Nat → Int) (L : Nat → Nat) (hL : Lin L) (hf : Rep f L) : ∀ (d i v out : Nat), i + d = 32 → v < 2 ^ d → out < 4294967296 → tms f d i (v : Int) (out : Int) = ((out ^^^ L (v * 2 ^ i) : Nat) : Int)
  | 0, i, v, out, hd, hv, ho => by
    have : v = 0 := by simp at hv; exact hv
    subst this
    rw [tms, Nat.zero_mul, hL.zero, Nat.xor_zero]
  | d + 1, i, v, out, hd, hv, ho => by
    rw [tms]
    by_cases h0 : (v : Int) = 0
    · have : v = 0 := by omega
      subst this
      rw [if_pos h0, Nat.zero_mul, hL.zero, Nat.xor_zero]
    · have hp : 2 ^ i * 2 ^ (d + 1) = 4294967296 := by
        rw [← Nat.pow_add, hd]
      have hi : 2 ^ i < 4294967296 := by
        have : 2 ^ i < 2 ^ 32 := Nat.pow_lt_pow_right (by omega) (by omega)
        omega
      have hv32 : v < 4294967296 := by
        have h1 : 2 ^ (d + 1) ≤ 2 ^ 32 := Nat.pow_le_pow_right (by omega) (by omega)
        omega
      rw [if_neg h0, hf i (by omega), mask_of _ v (hL.lt _ hi) hv32]
      have hm : (if v % 2 = 1 then L (2 ^ i) else 0) < 4294967296 := by
        split
        · exact hL.lt _ hi
        · omega
      rw [xor_u32 _ _ ho hm, show (v : Int) / 2 = ((v / 2 : Nat) : Int) from rfl, tms_lin f L hL hf d (i + 1) (v / 2) _ (by omega) (by rw [Nat.pow_succ] at hv; omega) (Nat.xor_lt_two_pow (n := 32) (by omega) hm)]
      congr 1
      rw [low_bit v i, hL.xor, Nat.xor_assoc]
      congr 2
      have hx := Nat.mod_two_eq_zero_or_one v
      rcases hx with hx | hx
      · rw [hx, Nat.zero_mul, hL.zero, if_neg (by omega)]
      · rw [hx, Nat.one_mul, if_pos rfl]

theorem tms_all (f : Nat → Int) (L : Nat → Nat) (hL : Lin L) (hf : Rep f L) (v : Nat) (hv : v < 4294967296) : tms f 32 0 (v : Int) 0 = ((L v : Nat) : Int) := by
  have h := tms_lin f L hL hf 32 0 v 0 (by omega) (by omega) (by omega)
  rw [Nat.zero_xor, Nat.pow_zero, Nat.mul_one] at h
  exact h

theorem tw_rep (f : Nat → Int) (L : Nat → Nat) (hL : Lin L) (hf : Rep f L) : Rep (tw f) (fun x => L (L x)) := by
  intro i hi
  have h2 : 2 ^ i < 4294967296 := by
    have : 2 ^ i < 2 ^ 32 := Nat.pow_lt_pow_right (by omega) hi
    omega
  unfold tw
  rw [hf i hi]
  exact tms_all f L hL hf _ (hL.lt _ h2)

theorem lin_twice (L : Nat → Nat) (hL : Lin L) : Lin (fun x => L (L x)) :=
  ⟨by show L (L 0) = 0; rw [hL.zero, hL.zero], fun x y => by show L (L (x ^^^ y)) = _; rw [hL.xor, hL.xor], fun x h => hL.lt _ (hL.lt _ h)⟩

theorem it_twice (L : Nat → Nat) : ∀ (n x : Nat), it (fun x => L (L x)) n x = it L (2 * n) x
  | 0, _ => rfl
  | n + 1, x => by rw [it, it_twice L n, show 2 * (n + 1) = 2 * n + 1 + 1 from by omega, it, it]

theorem jn_lin : ∀ (d : Nat) (f : Nat → Int) (L : Nat → Nat) (_ : Lin L) (_ : Rep f L) (a n : Nat), a < 4294967296 → n < 2 ^ d → n < 4294967296 → jn d f (a : Int) (n : Int) = ((it L n a : Nat) : Int)
  | 0, f, L, hL, hf, a, n, ha, hn, _ => by
    have : n = 0 := by simp at hn; exact hn
    subst this
    rfl
  | d + 1, f, L, hL, hf, a, n, ha, hn, hn32 => by
    rw [jn]
    by_cases h0 : (n : Int) > 0
    · rw [if_pos h0]
      have hb : Go.bits .and .i64 (n : Int) 1 = (n : Int) % 2 := by
        have h := Go.bits_mask .i64 62 (by decide) (fun n h0 h1 => by
          have : (2 : Int) ^ 62 = 4611686018427387904 := by decide
          rw [IntKind.wrap_i64]; omega) 1 (by omega) (n : Int) (by omega) (by
          have : (2 : Int) ^ 62 = 4611686018427387904 := by decide
          omega)
        simpa using h
      rw [hb, show (n : Int) / 2 = ((n / 2 : Nat) : Int) from rfl]
      have hd : n / 2 < 2 ^ d := by rw [Nat.pow_succ] at hn; omega
      by_cases h1 : (n : Int) % 2 = 1
      · rw [if_pos h1, tms_all f L hL hf a ha, jn_lin d (tw f) _ (lin_twice L hL) (tw_rep f L hL hf) (L a) (n / 2) (hL.lt _ ha) hd (by omega), it_twice]
        congr 1
        obtain ⟨m, hm⟩ : ∃ m, n = 2 * m + 1 := ⟨n / 2, by omega⟩
        rw [hm, show (2 * m + 1) / 2 = m from by omega, it]
      · rw [if_neg h1, jn_lin d (tw f) _ (lin_twice L hL) (tw_rep f L hL hf) a (n / 2) ha hd (by omega), it_twice, show 2 * (n / 2) = n from by omega]
    · have : n = 0 := by omega
      subst this
      rw [if_neg h0]
      rfl

theorem linZ : Lin Z := ⟨SN_zero 8, SN_xor 8, fun x h => SN_lt 8 x h⟩
theorem repZ : Rep mat0 Z := by
  intro i hi
  have h2 : 2 ^ i < 4294967296 := by
    have : 2 ^ i < 2 ^ 32 := Nat.pow_lt_pow_right (by omega) hi
    omega
  unfold mat0
  have h3 : IntKind.u32.wrap (2 ^ i) = ((2 ^ i : Nat) : Int) := by
    rw [IntKind.wrap_u32, Int.natCast_pow]
    have h4 : ((2 ^ i : Nat) : Int) < 4294967296 := by omega
    rw [Int.natCast_pow] at h4
    have h5 : (0 : Int) ≤ ((2 : Nat) : Int) ^ i := by
      rw [← Int.natCast_pow]; exact Int.natCast_nonneg _
    exact Int.emod_eq_of_lt h5 h4
  rw [h3, shN_nat 8 _ h2]
  rfl

/-- What Join tells of two texts' CRCs is that of both. -/
theorem join_tells (s t : ByteArray) (ht : t.size ≤ 300) : Go.bits .xor .u32 (jn 24 mat0 (crcOf s) (t.size : Int)) (crcOf t) = crcOf (s ++ t) := by
  rw [crc_nat, crc_nat, crc_nat, jn_lin 24 mat0 Z linZ repZ (crcN s) t.size (crcN_lt s) (by omega) (by omega)]
  have hlt : it Z t.size (crcN s) < 4294967296 := by
    have : ∀ (n x : Nat), x < 4294967296 → it Z n x < 4294967296 := by
      intro n
      induction n with
      | zero => exact fun x h => h
      | succ n ih => exact fun x h => ih _ (SN_lt 8 _ h)
    exact this _ _ (crcN_lt s)
  rw [xor_u32 _ _ hlt (crcN_lt t), crc_append]
end Go.Proofs.Ytndcfccbicognaa.XCrcOf
