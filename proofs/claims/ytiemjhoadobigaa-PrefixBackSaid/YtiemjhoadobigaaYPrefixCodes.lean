/- prefix.codes: what it does. It has no conditions. -/
import Derived.Test.YtiemjhoadobigaaYPrefix
import Derived.BigRegion
import Derived.RegionTactic
import Derived.ChangeAlike
import Derived.Deep.RegionWith
import Derived.Deep.RegionLaw
import Derived.Laws.Tables
import Derived.Deep.QuietTactic
import Derived.BigQuiet
import Derived.Deep.RegionHeld3
import Derived.Deep.AppendLies
import Derived.Deep.DrawnRows
import Derived.Laws.CopyOwn
import Derived.Deep.MidRow
import Derived.Laws.ResultCell
import Derived.ChangeKeysEq
namespace Go.Proofs.Ytiemjhoadobigaa.XPrefix
set_option linter.unusedVariables false
set_option linter.unusedSimpArgs false
open Go.RowKit Go.Proofs.YtiemjhoadobigaaW.PrintWords Go.Proofs.YtiemjhoadobigaaW.PrintLast Go.Proofs.YtiemjhoadobigaaW.PrintMore

theorem R_far_ty {W : World} {base : Nat} {v : Value} {xs : List Int} (h : Kd.R (Kd.int .i64) 3 W base (fun _ => True) v xs) {g t : Nat} {cells : Array Value} (hb : W.heap[g]? = some (.cells cells t (0, 0))) (ht : 3 ≠ t) (j : Nat) (u : Value) :
    Kd.R (Kd.int .i64) 3 (W.setCell ⟨g, j, none⟩ u) base (fun _ => True) v xs :=
  Kd.R_mono (Kd.R_far (Kd.R_far1 h rfl (Kd.R_ne h hb ht)) (p := ⟨g, j, none⟩) (fun k hk => hk.2) u) (fun _ _ => trivial)
/-- n numbers. -/
def listOf (n : Nat) (f : Nat → Int) : List Int := (List.range n).map f
theorem listOf_len (n : Nat) (f : Nat → Int) : (listOf n f).length = n := by simp [listOf]
theorem listOf_set (n : Nat) (f : Nat → Int) (i : Nat) (x : Int) : (listOf n f).set i x = listOf n (upd f i x) := by
  apply List.ext_getElem
  · simp [listOf]
  · intro j h1 h2
    simp [listOf] at h1 h2
    simp [listOf, upd, List.getElem_set]
    by_cases h : i = j
    · subst h; simp
    · rw [if_neg h, if_neg (fun e => h e.symm)]
theorem listOf_congr (n : Nat) (f g : Nat → Int) (h : ∀ i, i < n → f i = g i) : listOf n f = listOf n g := by
  unfold listOf
  apply List.map_congr_left
  intro i hi
  rw [h i (by simpa using hi)]
theorem listOf_zero (n : Nat) : List.replicate n (0 : Int) = listOf n (fun _ => 0) := by
  apply List.ext_getElem
  · simp [listOf]
  · intro i h1 h2
    simp [listOf]
theorem rd_listOf (n : Nat) (f : Nat → Int) (i : Nat) (h : i < n) : rd (listOf n f) (i : Int) = f i := by
  unfold rd
  rw [Int.toNat_natCast, List.getD_eq_getElem?_getD, listOf, List.getElem?_map, List.getElem?_range h]
  rfl

/-- The first number of each length. -/
def nx (c : Nat → Int) : Nat → Int
  | 0 => 0
  | 1 => 0
  | n + 2 => 2 * (nx c (n + 1) + c (n + 1))
theorem nx_range (c : Nat → Int) (hc : ∀ j, 0 ≤ c j ∧ c j ≤ 288) : ∀ n, 0 ≤ nx c n ∧ nx c n ≤ 576 * (2 ^ n - 1)
  | 0 => by simp [nx]
  | 1 => by simp [nx]
  | n + 2 => by
    have := nx_range c hc (n + 1)
    have := hc (n + 1)
    rw [nx, Int.pow_succ]
    omega
theorem nx_le (c : Nat → Int) (hc : ∀ j, 0 ≤ c j ∧ c j ≤ 288) (n : Nat) (h : n ≤ 16) : 0 ≤ nx c n ∧ nx c n ≤ 40000000 := by
  have := nx_range c hc n
  have := pow_le_15 n h
  omega
/-- The code of the i-th symbol. -/
def cod (l : List Int) (i : Nat) : Int := if 0 < rd l (i : Int) then nx (cnt l l.length) (rd l (i : Int)).toNat + cnt l i (rd l (i : Int)).toNat else 0
def outAt (l : List Int) (i : Nat) : List Int := listOf l.length (fun j => if j < i then cod l j else 0)
def codL (l : List Int) : List Int := listOf l.length (cod l)
/-- The next number of each length, behind i symbols. -/
def nxt (l : List Int) (i : Nat) (j : Nat) : Int := nx (cnt l l.length) j + if j = 0 then 0 else cnt l i j
theorem nxt_hit (l : List Int) (i : Nat) (a : Int) (h0 : 0 < a) (ha : rd l (i : Int) = a) : upd (nxt l i) a.toNat (nxt l i a.toNat + 1) = nxt l (i + 1) := by
  funext j
  unfold upd nxt
  rw [cnt, ha]
  by_cases h : j = a.toNat
  · subst h
    rw [if_pos rfl, if_neg (by omega), if_neg (by omega), if_pos (by omega)]
    omega
  · rw [if_neg h, if_neg (show ¬ a = (j : Int) by omega), Int.add_zero]
theorem nxt_miss (l : List Int) (i : Nat) (ha : rd l (i : Int) = 0) : nxt l (i + 1) = nxt l i := by
  funext j
  unfold nxt
  rw [cnt, ha]
  by_cases h : j = 0
  · rw [if_pos h, if_pos h]
  · rw [if_neg h, if_neg h, if_neg (show ¬ (0 : Int) = (j : Int) by omega), Int.add_zero]
theorem out_hit (l : List Int) (i : Nat) (a : Int) (h0 : 0 < a) (ha : rd l (i : Int) = a) : (outAt l i).set i (nxt l i a.toNat) = outAt l (i + 1) := by
  unfold outAt
  rw [listOf_set]
  refine listOf_congr _ _ _ (fun j hj => ?_)
  show (if j = i then nxt l i a.toNat else if j < i then cod l j else 0) = if j < i + 1 then cod l j else 0
  by_cases h : j = i
  · subst h
    rw [if_pos rfl, if_pos (by omega), cod, ha, if_pos h0, nxt, if_neg (by omega)]
  · rw [if_neg h]
    by_cases h2 : j < i
    · rw [if_pos h2, if_pos (by omega)]
    · rw [if_neg h2, if_neg (by omega)]
theorem out_miss (l : List Int) (i : Nat) (ha : rd l (i : Int) = 0) : outAt l (i + 1) = outAt l i := by
  refine listOf_congr _ _ _ (fun j hj => ?_)
  by_cases h : j = i
  · subst h
    rw [if_pos (by omega), if_neg (by omega), cod, ha, if_neg (by omega)]
  · by_cases h2 : j < i
    · rw [if_pos h2, if_pos (by omega)]
    · rw [if_neg h2, if_neg (by omega)]
theorem out_end (l : List Int) : outAt l l.length = codL l := listOf_congr _ _ _ (fun j hj => by rw [if_pos hj])
def gAt (c : Nat → Int) (k : Nat) (j : Nat) : Int := if j ≤ k + 1 then nx c j else 0
theorem gAt_zero (c : Nat → Int) : rowOf 17 (fun _ => 0) = rowOf 17 (gAt c 0) := rowOf_congr _ _ _ (fun i hi => by
  unfold gAt
  by_cases h : i ≤ 0 + 1
  · rw [if_pos h]
    have : i = 0 ∨ i = 1 := by omega
    rcases this with rfl | rfl <;> rfl
  · rw [if_neg h])
theorem gAt_step (c : Nat → Int) (k : Nat) : upd (gAt c k) (k + 2) (2 * (nx c (k + 1) + c (k + 1))) = gAt c (k + 1) := by
  funext j
  unfold upd gAt
  by_cases h : j = k + 2
  · subst h
    rw [if_pos rfl, if_pos (by omega), nx]
  · rw [if_neg h]
    by_cases h2 : j ≤ k + 1
    · rw [if_pos h2, if_pos (by omega)]
    · rw [if_neg h2, if_neg (by omega)]
theorem gAt_end (l : List Int) : rowOf 17 (gAt (cnt l l.length) 15) = rowOf 17 (nxt l 0) := rowOf_congr _ _ _ (fun i hi => by
  unfold gAt nxt
  rw [if_pos (by omega)]
  simp [cnt])
def CodPost (l : List Int) (w : World) (e : Ending) (w' : World) : Prop := ∃ v, e = .returned v ∧ Kd.R (Kd.int .i64) 3 w' w.heap.size (fun _ => True) v (codL l) ∧ Below w.heap.size w w'

set_option maxHeartbeats 800000 in
set_option maxRecDepth 100000 in
theorem codes_calls (A0 : Option Addr) (c0 : Nat) (l : List Int) (w : World) (hr0 : Kd.C (Kd.int .i64) w A0 l.length l) (ok : OkL l) :
    Calls Try.prog 26 #[.slice A0 l.length c0] w fun e w' => CodPost l w e w' := by
  have HR0 := Aside0.mk hr0
  have OK := Aside0.mk ok
  clear hr0 ok
  have hl288 := OK.out.1
  go_enter Try.func26, Try.ntmps26
  go_wp2_with fail
  refine (counts_calls A0 c0 l _ HR0.out).mono ?_
  rintro e w' ⟨⟨f, b, rfl, hC⟩, hB⟩
  have HB0 := Aside0.mk hB
  clear hB
  rcases hC with ⟨rfl, ok, rfl⟩ | ⟨rfl, nok⟩
  case inr => exact absurd OK.out nok
  clear ok
  obtain ⟨c, hc⟩ : ∃ c, cnt l l.length = c := ⟨_, rfl⟩
  have CR := Aside0.mk (fun j => (show 0 ≤ c j ∧ c j ≤ 288 from by have := hc ▸ cnt_range l l.length j; omega))
  rw [hc]
  have HC := Aside0.mk hc
  clear hc
  go_wp2_with (first | ((with_reducible refine gate_dst (N := 3) rfl ?_); refine box_event rfl (N := 3) rfl (cs := rowOf 16 (fun _ => 0)) (t := 54) (by kernel_rfl) ?_; intro g3 hg w2 hblk hb; have GE := Aside0.mk (show w.heap.size ≤ g3 by have := below_size HB0.out; omega); have BK := Aside0.mk hblk; have HB2 := Aside0.mk (below_step HB0.out hb); clear hg hblk hb) | ((with_reducible refine gate_dst (N := 5) rfl ?_); refine box_event rfl (N := 5) rfl (cs := rowOf 17 (fun _ => 0)) (t := 73) (by kernel_rfl) ?_; intro g5 hg w3 hblk hb; have GE5 := Aside0.mk (show w.heap.size ≤ g5 by have := below_size HB3.out; omega); have BK5 := Aside0.mk hblk; have BK3 := Aside0.mk (blk_below BK2.out hb); have HB4 := Aside0.mk (below_step HB3.out hb); have zc := (blk_cell BK3.out 0).trans (rowOf_get 16 c 0 (by omega)); have yc := blk_frozen BK3.out 0; clear hg hblk hb) | (refine wpList_store_row rfl 54 _ _ rfl g3 (rowOf 16 c) rfl rfl 54 (rowOf 16 (fun _ => 0)) BK.out (by rw [rowOf_size]; kernel_rfl) (by rw [rowOf_size, rowOf_size]) (rowOf_one 16 _) ?_; have BK2 := Aside0.mk (setRow_heap w2 g3 _ (rowOf 16 c) 54 (0, 0) BK.out); have HB3 := Aside0.mk (below_setRow HB2.out GE.out (rowOf 16 c))))
  clear zc yc HB0 HB2 HB3 BK2 BK
  have N35 := Aside0.mk (blk_ne BK3.out BK5.out (by decide))
  have HU := Aside0.mk (rowOf_set 16 c 0 0)
  go_loopw [6] (fun v6 wr => ∃ k : Nat, k ≤ 15 ∧ v6 = .int .i64 ((k : Int) + 1) ∧ Aside0 (wr.heap[g3]? = some (.cells (rowOf 16 (upd c 0 0)) 54 (0, 0))) ∧ Aside0 (wr.heap[g5]? = some (.cells (rowOf 17 (gAt c k)) 73 (0, 0))) ∧ Aside0 (Below w.heap.size w wr)) (fun v6 _ => 17 - (intOf v6).toNat)
  case atStart => exact ⟨0, by omega, rfl, ⟨by refine blk_put (cs := rowOf 16 c) ?_ 0 _ HU.out; exact BK3.out⟩, ⟨by refine blk_far ?_ (by exact fun e => N35.out e.symm) _; rw [← gAt_zero]; exact BK5.out⟩, ⟨below_set HB4.out GE.out⟩⟩
  case round =>
    clear BK3 BK5 HB4
    obtain ⟨k, hk, rfl, BK3, BK5, HB⟩ := hrel
    by_cases hlt : k < 15
    · have d0 : decide ((k : Int) + 1 ≤ 15) = true := decide_eq_true (by omega)
      have p1 : 0 ≤ (k : Int) + 1 := by omega
      have q1 : (k : Int) + 1 < 16 := by omega
      have q2 : (k : Int) + 1 < 17 := by omega
      have p3 : 0 ≤ (k : Int) + 2 := by omega
      have q3 : (k : Int) + 2 < 17 := by omega
      have zc : wr.cell? ⟨g3, k + 1, none⟩ = some (.int .i64 (c (k + 1))) := (blk_cell BK3.out (k + 1)).trans (rowOf_get 16 _ _ (by omega))
      have zn : wr.cell? ⟨g5, k + 1, none⟩ = some (.int .i64 (nx c (k + 1))) := (blk_cell BK5.out (k + 1)).trans ((rowOf_get 17 _ _ (by omega)).trans (by rw [gAt, if_pos (by omega)]))
      have zn2 : wr.cell? ⟨g5, k + 2, none⟩ = some (.int .i64 (gAt c k (k + 2))) := (blk_cell BK5.out (k + 2)).trans (rowOf_get 17 _ _ (by omega))
      have y2 := blk_frozen BK5.out (k + 2)
      have r1 := CR.out (k + 1)
      have r2 := nx_le c CR.out (k + 1) (by omega)
      have HG := Aside0.mk ((rowOf_set 17 (gAt c k) (k + 2) (2 * (nx c (k + 1) + c (k + 1)))).trans (congrArg (rowOf 17) (gAt_step c k)))
      obtain ⟨x, hx⟩ : ∃ x, c (k + 1) = x := ⟨_, rfl⟩
      obtain ⟨y, hy⟩ : ∃ y, nx c (k + 1) = y := ⟨_, rfl⟩
      rw [hx] at zc r1 HG
      rw [hy] at zn r2 HG
      clear hx hy
      go_wp2
      go_region
      all_goals
        go_wp2
        go_roundw
        case rel => exact ⟨k + 1, by omega, by go_num, ⟨by refine blk_drew ?_; refine blk_far ?_ (by exact N35.out) _; exact BK3.out⟩, ⟨by refine blk_drew ?_; refine blk_put (cs := rowOf 17 (gAt c k)) ?_ (k + 2) _ (by rw [Int.mul_comm]; exact HG.out); exact BK5.out⟩, ⟨by apply below_drew1; exact below_set HB.out GE5.out⟩⟩
        case measure => simp [intOf]; omega
    · have hk15 : k = 15 := by omega
      subst hk15
      have d0 : decide (((15 : Nat) : Int) + 1 ≤ 15) = false := by decide
      have hl0 : 0 ≤ (l.length : Int) := by omega
      have hl1 : (l.length : Int).toNat * 8 ≤ 281474976710656 := by omega
      have HE : Aside0 (rowOf 17 (gAt c 15) = rowOf 17 (nxt l 0)) := ⟨by rw [← HC.out]; exact gAt_end l⟩
      have HZ : Aside0 (List.replicate (l.length : Int).toNat (0 : Int) = outAt l 0) := ⟨by rw [Int.toNat_natCast, listOf_zero]; exact listOf_congr _ _ _ (fun j hj => by rw [if_neg (by omega)])⟩
      go_wp2_with (first | ((with_reducible refine gate_dst (N := 33) rfl ?_); refine Kd.R_make (Kd.int .i64) _ 3 rfl (N := 33) rfl 22 _ _ rfl (l.length : Int) rfl rfl Try.underlying22 (.int .i64 0) 8 XPrefixReads.info3 rfl (by decide) (by omega) 0 (ok := fun _ => True) (okp := fun _ => True) rfl (fun _ hk => hk) trivial hl0 hl1 (Below.refl _ _) (Nat.le_refl _) ?_; intro v7 w4 ho5 hb hg_ hnew_; rw [HZ.out] at ho5; have HO := Aside0.mk (Kd.R_lower ho5 (below_size HB.out)); have HB5 := Aside0.mk (below_step HB.out hb); have BK6 := Aside0.mk (blk_below BK5.out hb); clear hb ho5 hg_ hnew_))
      clear HB BK5 BK3
      go_loopw [8, 9, 36] (fun v8 v9 v36 wr => ∃ i : Nat, i ≤ l.length ∧ v36 = .int .i64 (i : Int) ∧ Aside0 (wr.heap[g5]? = some (.cells (rowOf 17 (nxt l i)) 73 (0, 0))) ∧ Aside0 (Kd.R (Kd.int .i64) 3 wr w.heap.size (fun _ => True) v7 (outAt l i)) ∧ Aside0 (Below w.heap.size w wr)) (fun _ _ v36 _ => l.length - (intOf v36).toNat)
      case atStart => exact ⟨0, by omega, rfl, ⟨by rw [← HE.out]; exact BK6.out⟩, HO, HB5⟩
      case round =>
        clear BK6 HO HB5 HE HZ
        obtain ⟨i, hi, rfl, BK5, HO, HB⟩ := hrel
        by_cases hlt : i < l.length
        · have c0 : decide ((i : Int) < (l.length : Int)) = true := decide_eq_true (by omega)
          have p1 : 0 ≤ (i : Int) := by omega
          have q1 : (i : Int) < (l.length : Int) := by omega
          obtain ⟨ad, e1, hx0⟩ := Kd.at_int HR0.out (i : Int) p1 q1
          cases e1
          rw [Int.toNat_natCast] at hx0
          replace hx0 := (HB.out.cell (World.block_lt_of_cell? w _ hx0)).trans hx0
          obtain ⟨h0, h15⟩ := OK.out.2 i hlt
          obtain ⟨a, ha⟩ : ∃ a, rd l (i : Int) = a := ⟨_, rfl⟩
          rw [ha] at hx0 h0 h15
          have HA := Aside0.mk ha
          clear ha
          by_cases hpos : 0 < a
          · have d1 : decide (0 < a) = true := decide_eq_true hpos
            have q2 : a < 17 := by omega
            have zn : wr.cell? ⟨g5, a.toNat, none⟩ = some (.int .i64 (nxt l i a.toNat)) := (blk_cell BK5.out a.toNat).trans (rowOf_get 17 _ _ (by omega))
            have yn := blk_frozen BK5.out a.toNat
            have HH := Aside0.mk ((rowOf_set 17 (nxt l i) a.toNat (nxt l i a.toNat + 1)).trans (congrArg (rowOf 17) (nxt_hit l i a hpos HA.out)))
            have HT := Aside0.mk (out_hit l i a hpos HA.out)
            have hr1 := nx_le (cnt l l.length) (fun j => by rw [HC.out]; exact CR.out j) a.toNat (by omega)
            have hr2 := cnt_range l i a.toNat
            have hr3 : nxt l i a.toNat = nx (cnt l l.length) a.toNat + cnt l i a.toNat := by rw [nxt, if_neg (by omega)]
            have hr4 : 0 ≤ nxt l i a.toNat ∧ nxt l i a.toNat ≤ 41000000 := by omega
            obtain ⟨x, hx⟩ : ∃ x, nxt l i a.toNat = x := ⟨_, rfl⟩
            rw [hx] at zn hr4 HH HT
            clear hr1 hr2 hr3 hx
            have hlen := listOf_len l.length (fun j => if j < i then cod l j else 0)
            obtain ⟨g7, c7, e7, gb7, gl7, cl7, hg7⟩ := Kd.R_form HO.out (by rw [outAt, hlen]; omega)
            have hle : (outAt l i).length = l.length := hlen
            rw [hle] at e7
            clear hlen hle
            subst e7
            have GB7 := Aside0.mk gb7
            have N57 := Aside0.mk (blk_ne hg7 BK5.out (by decide))
            clear gb7 gl7 hg7
            obtain ⟨hx7, hf7⟩ := Kd.R_celln 0 HO.out (i : Int) p1 q1
            have HP := Kd.R_putg HO.out (i : Int) x
            rw [Int.toNat_natCast, HT.out] at HP
            rw [Int.toNat_natCast] at hx7 hf7
            have HP1 := Aside0.mk HP
            have zn2 : (wr.setCell ⟨g7, i, none⟩ (.int .i64 x)).cell? ⟨g5, a.toNat, none⟩ = some (.int .i64 x) := (blk_cell (blk_far BK5.out (p := ⟨g7, i, none⟩) (fun e => N57.out e.symm) _) a.toNat).trans ((blk_cell BK5.out a.toNat).symm.trans zn)
            clear HP
            have BK5b := Aside0.mk (blk_far BK5.out (p := ⟨g7, i, none⟩) (fun e => N57.out e.symm) (.int .i64 x))
            go_wp2
            go_roundw
            case rel => exact ⟨i + 1, by omega, by go_num, ⟨by refine blk_put (cs := rowOf 17 (nxt l i)) ?_ a.toNat _ HH.out; exact BK5b.out⟩, ⟨by refine R_far_ty ?_ BK5b.out (by decide) _ _; exact HP1.out.1⟩, ⟨below_set (below_set HB.out GB7.out) GE5.out⟩⟩
            case measure => simp [intOf]; omega
          · have h0 : a = 0 := by omega
            subst h0
            have d1 : decide ((0 : Int) < 0) = false := by decide
            have HM := Aside0.mk (nxt_miss l i HA.out)
            have HT := Aside0.mk (out_miss l i HA.out)
            go_wp2
            go_roundw
            case rel => exact ⟨i + 1, by omega, by go_num, ⟨by rw [HM.out]; exact BK5.out⟩, ⟨by rw [HT.out]; exact HO.out⟩, HB⟩
            case measure => simp [intOf]; omega
        · have hk2 : i = l.length := by omega
          subst hk2
          have c0 : decide ((l.length : Int) < (l.length : Int)) = false := decide_eq_false (by omega)
          go_wp2
          go_ret
          exact ⟨_, rfl, by rw [← out_end]; exact HO.out, HB.out⟩

/-- What Codes hands back. -/
def CdsPost (l : List Int) (w : World) (e : Ending) (w' : World) : Prop := ∃ k er, KRes l k er ∧ Below w.heap.size w w' ∧
  ((er ≠ 0 ∧ e = .returned (.tuple #[.slice none 0 0, .int .i64 er])) ∨ (er = 0 ∧ ∃ v, e = .returned (.tuple #[v, .int .i64 0]) ∧ Kd.R (Kd.int .i64) 3 w' w.heap.size (fun _ => True) v (codL l)))
theorem KRes.okl {l : List Int} {k : Int} (h : KRes l k 0) : OkL l := by
  rcases h with ⟨_, _, h⟩ | ⟨h, _⟩ | ⟨h, _⟩
  · exact absurd h (by decide)
  · exact h
  · exact h

set_option maxHeartbeats 800000 in
set_option maxRecDepth 100000 in
theorem Codes_calls (A0 : Option Addr) (c0 : Nat) (l : List Int) (w : World) (hr0 : Kd.C (Kd.int .i64) w A0 l.length l) :
    Calls Try.prog 19 #[.slice A0 l.length c0] w fun e w' => CdsPost l w e w' := by
  have HR0 := Aside0.mk hr0
  clear hr0
  go_enter Try.func19, Try.ntmps19
  go_wp2_with fail
  refine (check_calls A0 c0 l _ HR0.out).mono ?_
  rintro e w' ⟨k, er, rfl, hK, hB⟩
  have HB := Aside0.mk hB
  have HK := Aside0.mk hK
  clear hB hK
  by_cases h0 : er = 0
  · subst h0
    have HR1 := Aside0.mk (Kd.C_below HR0.out HB.out)
    go_wp2_with fail
    refine (codes_calls A0 c0 l _ HR1.out HK.out.okl).mono ?_
    rintro e w' ⟨v, rfl, hR, hB⟩
    obtain ⟨A, cc, rfl⟩ := Kd.R_slice hR
    have HO := Aside0.mk (Kd.R_lower hR (below_size HB.out))
    have HB2 := Aside0.mk (below_step HB.out hB)
    clear hR hB
    go_wp2
    go_ret2
    exact ⟨_, _, HK.out, HB2.out, .inr ⟨rfl, _, rfl, HO.out⟩⟩
  · have e1 : (er != 0) = true := bne_iff_ne.mpr h0
    have e2 : (er == 0) = false := beq_eq_false_iff_ne.mpr h0
    go_wp2
    go_ret2
    exact ⟨_, _, HK.out, HB.out, .inl ⟨h0, rfl⟩⟩

end Go.Proofs.Ytiemjhoadobigaa.XPrefix
