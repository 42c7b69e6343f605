-- Written by this session's own program wip/xprint.py: a changed copy of the kit's print.
import Derived.Test.YtdaofffedfccmaaDoorXClockDatesx0
import Derived.Test.YtdaofffedfccmaaDoorXClockDatesx4
import Derived.Test.YtdaofffedfccmaaDoorXClockDatesx5
import Derived.Test.YtdaofffedfccmaaDoorXClockDatesx7
namespace Go.Proofs.YtdaofffedfccmaaDoor.XClockDates
open Go.RowKit Go.Proofs.YtdaofffedfccmaaDoorW.PrintWords Go.Proofs.YtdaofffedfccmaaDoorW.PrintLast Go.Proofs.YtdaofffedfccmaaDoorW.PrintMore
attribute [local go_sem] max2_int min2_int max_two min_two max_three min_three max_four min_four   -- for this text's walks alone
set_option linter.unusedVariables false
set_option linter.unusedSimpArgs false

/-! ### montageref41_Parse: function 43 -/
-- rounds: yes making: yes
-- uses: montage/montageref41.number montage/montageref41.May montage/montageref41.Text
def montageref41_Parse.T3 : Bool × List (List Nat × List Nat) := (true, [([], []), ([0], [0]), ([1], [1]), ([], []), ([3], [3]), ([4, 2], [4]), ([], []), ([6], [6]), ([7, 5], [7]), ([], []), ([9], [9]), ([10, 8], [10]), ([], []), ([12], [12]), ([13, 11], [13]), ([], []), ([15], [15]), ([16, 14], [16]), ([2, 5, 8, 11, 14, 17], [2, 5, 8, 11, 14, 17]), ([], []), ([19, 18, 17, 0, 1, 2, 3, 4, 5, 6, 7, 8, 9, 10, 11, 12, 13, 14, 15, 16, 17, 18, 19], [18, 19])])
def montageref41_Parse.B3 : List Nat := [0, 1, 3, 0, 8, 31, 0, 64, 255, 0, 512, 2047, 0, 4096, 16383, 0, 32768, 131071, 262143, 0, 1048575]
theorem montageref41_Parse.tab3 : rtab .any (opsOf Tryd.f43 3) = montageref41_Parse.T3 := by kernel_rfl
theorem montageref41_Parse.bits3 : waitsOk montageref41_Parse.T3.2 montageref41_Parse.B3 = true := by kernel_rfl
set_option maxHeartbeats 16000000 in
set_option maxRecDepth 100000 in
theorem refparse_19 (k : Nat) (a0 : ByteArray) (t252 t253 t254 t255 t256 t257 : Int) (t259 : Bool) (t260 : ByteArray) (w : World) (c2 : (a0.size : Int) = 19) (A5 : Aside0 (montageref41_number.f k (a0.extract 0 4) = some t252)) (A8 : Aside0 (montageref41_number.f k (a0.extract 5 7) = some t253)) (A11 : Aside0 (montageref41_number.f k (a0.extract 8 10) = some t254)) (A14 : Aside0 (montageref41_number.f k (a0.extract 11 13) = some t255)) (A17 : Aside0 (montageref41_number.f k (a0.extract 14 16) = some t256)) (A19 : Aside0 (montageref41_number.f k (a0.extract 17 a0.size) = some t257)) (A20 : Aside0 (montageref41_May.f k t252 t253 t254 t255 t256 t257 = some t259)) (A22 : t259 = true → Aside0 (montageref41_Text.f k t252 t253 t254 t255 t256 t257 = some t260)) (ok : Bool) (hok : Aside0 (ok = true ↔ t259 = true ∧ t260.toList = a0.toList)) :
    Calls Tryd.prog 43 #[.string a0] w fun e w' => e = .returned (if ok = true then .tuple #[.agg #[.int .i64 t252, .int .i64 t253, .int .i64 t254, .int .i64 t255, .int .i64 t256, .int .i64 t257], .int .i64 0] else .tuple #[.agg #[.int .i64 0, .int .i64 0, .int .i64 0, .int .i64 0, .int .i64 0, .int .i64 0], .int .i64 2]) ∧ Below w.heap.size w w' := by
  have hu38 := Tryd.underlying38
  have HB := Aside0.mk (Below.refl w.heap.size w)
  have A22_ := Aside0.mk A22
  clear A22
  have c2b0 : ((a0.size : Int) == 19) = true := beq_iff_eq.mpr c2
  have c2b1 : ((a0.size : Int) != 19) = false := bne_eq_false_iff_eq.mpr c2
  have c3b0 := eq_true (show (0 : Int) ≤ 4 by decide)
  have c3b1 : decide ((0 : Int) ≤ 4) = true := decide_eq_true (by decide)
  have c6b0 := eq_true (show (5 : Int) ≤ 7 by decide)
  have c6b1 : decide ((5 : Int) ≤ 7) = true := decide_eq_true (by decide)
  have c9b0 := eq_true (show (8 : Int) ≤ 10 by decide)
  have c9b1 : decide ((8 : Int) ≤ 10) = true := decide_eq_true (by decide)
  have c12b0 := eq_true (show (11 : Int) ≤ 13 by decide)
  have c12b1 : decide ((11 : Int) ≤ 13) = true := decide_eq_true (by decide)
  have c15b0 := eq_true (show (14 : Int) ≤ 16 by decide)
  have c15b1 : decide ((14 : Int) ≤ 16) = true := decide_eq_true (by decide)
  have c4b0 := eq_true (show (4 : Int) ≤ (a0.size : Int) by omega)
  have c4b1 : decide ((4 : Int) ≤ (a0.size : Int)) = true := decide_eq_true (by omega)
  have c7b0 := eq_true (show (7 : Int) ≤ (a0.size : Int) by omega)
  have c7b1 : decide ((7 : Int) ≤ (a0.size : Int)) = true := decide_eq_true (by omega)
  have c10b0 := eq_true (show (10 : Int) ≤ (a0.size : Int) by omega)
  have c10b1 : decide ((10 : Int) ≤ (a0.size : Int)) = true := decide_eq_true (by omega)
  have c13b0 := eq_true (show (13 : Int) ≤ (a0.size : Int) by omega)
  have c13b1 : decide ((13 : Int) ≤ (a0.size : Int)) = true := decide_eq_true (by omega)
  have c16b0 := eq_true (show (16 : Int) ≤ (a0.size : Int) by omega)
  have c16b1 : decide ((16 : Int) ≤ (a0.size : Int)) = true := decide_eq_true (by omega)
  have c18b0 := eq_true (show (17 : Int) ≤ (a0.size : Int) by omega)
  have c18b1 : decide ((17 : Int) ≤ (a0.size : Int)) = true := decide_eq_true (by omega)
  clear c2
  go_enter Tryd.func43, Tryd.ntmps43
  try go_wp2_with (first | ((with_reducible refine gate_dst (N := 2) rfl ?_); refine box_event ?hg (N := 2) ?hd (cs := #[.int .i64 0, .int .i64 0, .int .i64 0, .int .i64 0, .int .i64 0, .int .i64 0]) (t := 38) ?hr ?_; (case hd => rfl); (case hg => rfl); (case hr => first | (go_simp; done) | (go_simp; rfl)); intro gb251 hg w24 hbox hb; have n0_ := Aside0.mk (below_step (by repeat (first | (with_reducible first | exact HB.out | apply below_alloc | apply pw_below_drewN | apply below_drew1) | exact HB.out)) hb); have n1_ := Aside0.mk (hbox); have n2_ := Aside0.mk ((by rw [hg]; exact (below_size (by repeat (first | (with_reducible first | exact HB.out | apply below_alloc | apply pw_below_drewN | apply below_drew1) | exact HB.out))) : w.heap.size ≤ gb251)); have n3_ := Aside0.mk ((by rw [hg]; exact (below_size (by repeat (first | (with_reducible first | exact HB.out | apply below_alloc | apply pw_below_drewN | apply below_drew1) | exact HB.out))) : w.heap.size ≤ gb251)); clear HB; have HB := n0_; have BK251 := n1_; have GW251 := n2_; have GE251 := n3_; clear n0_ n1_ n2_ n3_; clear hb hbox hg))
  have n0_ := Aside0.mk (blk_drew BK251.out)
  have n1_ := Aside0.mk (below_drew1 HB.out)
  clear BK251
  clear HB
  have BK251 := n0_
  have HB := n1_
  clear n0_ n1_
  refine start_ (n := 21) (S := fun w' => True) (ds := []) #[false, false, false, false, false, false, false, false, false, false, false, false, false, false, false, false, false, false, false, false, false] (by kernel_rfl) rfl rfl trivial (fun hHeld => ?_); refine with_tabW montageref41_Parse.tab3 montageref41_Parse.bits3 (fun HT_ HW_ => ?_)
  generalize w24.drew = w25 at BK251 HB hHeld ⊢
  refine pure_ (i := 0) (N := some 9) (v := ?_) (a' := ?_) #[true, false, false, false, false, false, false, false, false, false, false, false, false, false, false, false, false, false, false, false, false] rfl rfl (any_of HT_.out (by kernel_rfl)) (fun _ _ _ h => h) (Or.inl ⟨by rfl, ?_⟩) ?_ ?_
  rotate_left
  · intro w'
    go_simp
    with_reducible rfl
  rotate_left
  · simp only [Act.put, List.setIfInBounds_toArray, List.set_cons_zero, List.set_cons_succ, i64_w, i32_w]
    rfl
  refine pure_ (i := 1) (N := some 10) (v := ?_) (a' := ?_) #[true, true, false, false, false, false, false, false, false, false, false, false, false, false, false, false, false, false, false, false, false] rfl rfl (any_of HT_.out (by kernel_rfl)) (fun _ _ _ h => h) (Or.inl ⟨by rfl, ?_⟩) ?_ ?_
  rotate_left
  · intro w'
    go_simp
    with_reducible rfl
  rotate_left
  · simp only [Act.put, List.setIfInBounds_toArray, List.set_cons_zero, List.set_cons_succ, i64_w, i32_w]
    rfl
  refine pure_ (i := 3) (N := some 12) (v := ?_) (a' := ?_) #[true, true, false, true, false, false, false, false, false, false, false, false, false, false, false, false, false, false, false, false, false] rfl rfl (any_of HT_.out (by kernel_rfl)) (fun _ _ _ h => h) (Or.inl ⟨by rfl, ?_⟩) ?_ ?_
  rotate_left
  · intro w'
    go_simp
    with_reducible rfl
  rotate_left
  · simp only [Act.put, List.setIfInBounds_toArray, List.set_cons_zero, List.set_cons_succ, i64_w, i32_w]
    rfl
  refine pure_ (i := 4) (N := some 13) (v := ?_) (a' := ?_) #[true, true, false, true, true, false, false, false, false, false, false, false, false, false, false, false, false, false, false, false, false] rfl rfl (any_of HT_.out (by kernel_rfl)) (fun _ _ _ h => h) (Or.inl ⟨by rfl, ?_⟩) ?_ ?_
  rotate_left
  · intro w'
    go_simp
    with_reducible rfl
  rotate_left
  · simp only [Act.put, List.setIfInBounds_toArray, List.set_cons_zero, List.set_cons_succ, i64_w, i32_w]
    rfl
  refine pure_ (i := 6) (N := some 15) (v := ?_) (a' := ?_) #[true, true, false, true, true, false, true, false, false, false, false, false, false, false, false, false, false, false, false, false, false] rfl rfl (any_of HT_.out (by kernel_rfl)) (fun _ _ _ h => h) (Or.inl ⟨by rfl, ?_⟩) ?_ ?_
  rotate_left
  · intro w'
    go_simp
    with_reducible rfl
  rotate_left
  · simp only [Act.put, List.setIfInBounds_toArray, List.set_cons_zero, List.set_cons_succ, i64_w, i32_w]
    rfl
  refine pure_ (i := 7) (N := some 16) (v := ?_) (a' := ?_) #[true, true, false, true, true, false, true, true, false, false, false, false, false, false, false, false, false, false, false, false, false] rfl rfl (any_of HT_.out (by kernel_rfl)) (fun _ _ _ h => h) (Or.inl ⟨by rfl, ?_⟩) ?_ ?_
  rotate_left
  · intro w'
    go_simp
    with_reducible rfl
  rotate_left
  · simp only [Act.put, List.setIfInBounds_toArray, List.set_cons_zero, List.set_cons_succ, i64_w, i32_w]
    rfl
  refine pure_ (i := 9) (N := some 18) (v := ?_) (a' := ?_) #[true, true, false, true, true, false, true, true, false, true, false, false, false, false, false, false, false, false, false, false, false] rfl rfl (any_of HT_.out (by kernel_rfl)) (fun _ _ _ h => h) (Or.inl ⟨by rfl, ?_⟩) ?_ ?_
  rotate_left
  · intro w'
    go_simp
    with_reducible rfl
  rotate_left
  · simp only [Act.put, List.setIfInBounds_toArray, List.set_cons_zero, List.set_cons_succ, i64_w, i32_w]
    rfl
  refine pure_ (i := 10) (N := some 19) (v := ?_) (a' := ?_) #[true, true, false, true, true, false, true, true, false, true, true, false, false, false, false, false, false, false, false, false, false] rfl rfl (any_of HT_.out (by kernel_rfl)) (fun _ _ _ h => h) (Or.inl ⟨by rfl, ?_⟩) ?_ ?_
  rotate_left
  · intro w'
    go_simp
    with_reducible rfl
  rotate_left
  · simp only [Act.put, List.setIfInBounds_toArray, List.set_cons_zero, List.set_cons_succ, i64_w, i32_w]
    rfl
  refine pure_ (i := 12) (N := some 21) (v := ?_) (a' := ?_) #[true, true, false, true, true, false, true, true, false, true, true, false, true, false, false, false, false, false, false, false, false] rfl rfl (any_of HT_.out (by kernel_rfl)) (fun _ _ _ h => h) (Or.inl ⟨by rfl, ?_⟩) ?_ ?_
  rotate_left
  · intro w'
    go_simp
    with_reducible rfl
  rotate_left
  · simp only [Act.put, List.setIfInBounds_toArray, List.set_cons_zero, List.set_cons_succ, i64_w, i32_w]
    rfl
  refine pure_ (i := 13) (N := some 22) (v := ?_) (a' := ?_) #[true, true, false, true, true, false, true, true, false, true, true, false, true, true, false, false, false, false, false, false, false] rfl rfl (any_of HT_.out (by kernel_rfl)) (fun _ _ _ h => h) (Or.inl ⟨by rfl, ?_⟩) ?_ ?_
  rotate_left
  · intro w'
    go_simp
    with_reducible rfl
  rotate_left
  · simp only [Act.put, List.setIfInBounds_toArray, List.set_cons_zero, List.set_cons_succ, i64_w, i32_w]
    rfl
  refine pure_ (i := 15) (N := some 24) (v := ?_) (a' := ?_) #[true, true, false, true, true, false, true, true, false, true, true, false, true, true, false, true, false, false, false, false, false] rfl rfl (any_of HT_.out (by kernel_rfl)) (fun _ _ _ h => h) (Or.inl ⟨by rfl, ?_⟩) ?_ ?_
  rotate_left
  · intro w'
    go_simp
    with_reducible rfl
  rotate_left
  · simp only [Act.put, List.setIfInBounds_toArray, List.set_cons_zero, List.set_cons_succ, i64_w, i32_w]
    rfl
  refine pure_ (i := 16) (N := some 25) (v := ?_) (a' := ?_) #[true, true, false, true, true, false, true, true, false, true, true, false, true, true, false, true, true, false, false, false, false] rfl rfl (any_of HT_.out (by kernel_rfl)) (fun _ _ _ h => h) (Or.inl ⟨by rfl, ?_⟩) ?_ ?_
  rotate_left
  · intro w'
    go_simp
    with_reducible rfl
  rotate_left
  · simp only [Act.put, List.setIfInBounds_toArray, List.set_cons_zero, List.set_cons_succ, i64_w, i32_w]
    rfl
  refine join_ (σ := Nat) 1 #[true, true, true, true, true, true, true, true, true, true, true, true, true, true, true, true, true, true, true, true, false] (fun s_ => [(11, .int .i64 t252), (14, .int .i64 t253), (17, .int .i64 t254), (20, .int .i64 t255), (23, .int .i64 t256), (26, .int .i64 t257), (4, .pointer (some ⟨s_, 0, none⟩)), (27, .agg #[.int .i64 t252, .int .i64 t253, .int .i64 t254, .int .i64 t255, .int .i64 t256, .int .i64 t257])]) (fun s_ w' => (w'.heap[gb251]? = some (.cells #[.int .i64 0, .int .i64 0, .int .i64 0, .int .i64 0, .int .i64 0, .int .i64 0] 38 (0, 0))) ∧ (w'.heap[s_]? = some (.cells #[.int .i64 0, .int .i64 0, .int .i64 0, .int .i64 0, .int .i64 0, .int .i64 0] 38 (0, 0))) ∧ (w.heap.size ≤ s_) ∧ (w.heap.size ≤ s_) ∧ (gb251 ≠ s_) ∧ (s_ ≠ gb251) ∧ (Below w.heap.size w w')) ?_ ?_
  rotate_left
  · intro hJ2_5_8_11_14_17_19
    refine join_ (σ := Unit) 2 #[true, true, true, true, true, true, true, true, true, true, true, true, true, true, true, true, true, true, true, false, false] (fun s_ => [(11, .int .i64 t252), (14, .int .i64 t253), (17, .int .i64 t254), (20, .int .i64 t255), (23, .int .i64 t256), (26, .int .i64 t257), (27, .agg #[.int .i64 t252, .int .i64 t253, .int .i64 t254, .int .i64 t255, .int .i64 t256, .int .i64 t257])]) (fun s_ w' => (w'.heap[gb251]? = some (.cells #[.int .i64 0, .int .i64 0, .int .i64 0, .int .i64 0, .int .i64 0, .int .i64 0] 38 (0, 0))) ∧ (Below w.heap.size w w')) ?_ ?_
    rotate_left
    · intro hJ2_5_8_11_14_17
      refine join_ (σ := Nat) 3 #[true, true, true, true, true, true, true, true, true, true, true, true, true, true, true, true, true, false, false, true, false] (fun s_ => [(11, .int .i64 t252), (14, .int .i64 t253), (17, .int .i64 t254), (20, .int .i64 t255), (23, .int .i64 t256), (4, .pointer (some ⟨s_, 0, none⟩))]) (fun s_ w' => (w'.heap[gb251]? = some (.cells #[.int .i64 0, .int .i64 0, .int .i64 0, .int .i64 0, .int .i64 0, .int .i64 0] 38 (0, 0))) ∧ (w'.heap[s_]? = some (.cells #[.int .i64 0, .int .i64 0, .int .i64 0, .int .i64 0, .int .i64 0, .int .i64 0] 38 (0, 0))) ∧ (w.heap.size ≤ s_) ∧ (w.heap.size ≤ s_) ∧ (gb251 ≠ s_) ∧ (s_ ≠ gb251) ∧ (Below w.heap.size w w')) ?_ ?_
      rotate_left
      · intro hJ2_5_8_11_14_19
        refine join_ (σ := Unit) 4 #[true, true, true, true, true, true, true, true, true, true, true, true, true, true, true, true, true, false, false, false, false] (fun s_ => [(11, .int .i64 t252), (14, .int .i64 t253), (17, .int .i64 t254), (20, .int .i64 t255), (23, .int .i64 t256)]) (fun s_ w' => (w'.heap[gb251]? = some (.cells #[.int .i64 0, .int .i64 0, .int .i64 0, .int .i64 0, .int .i64 0, .int .i64 0] 38 (0, 0))) ∧ (Below w.heap.size w w')) ?_ ?_
        rotate_left
        · intro hJ2_5_8_11_14
          refine join_ (σ := Nat) 4 #[true, true, true, true, true, true, true, true, true, true, true, true, true, true, false, true, true, false, false, true, false] (fun s_ => [(11, .int .i64 t252), (14, .int .i64 t253), (17, .int .i64 t254), (20, .int .i64 t255), (4, .pointer (some ⟨s_, 0, none⟩))]) (fun s_ w' => (w'.heap[gb251]? = some (.cells #[.int .i64 0, .int .i64 0, .int .i64 0, .int .i64 0, .int .i64 0, .int .i64 0] 38 (0, 0))) ∧ (w'.heap[s_]? = some (.cells #[.int .i64 0, .int .i64 0, .int .i64 0, .int .i64 0, .int .i64 0, .int .i64 0] 38 (0, 0))) ∧ (w.heap.size ≤ s_) ∧ (w.heap.size ≤ s_) ∧ (gb251 ≠ s_) ∧ (s_ ≠ gb251) ∧ (Below w.heap.size w w')) ?_ ?_
          rotate_left
          · intro hJ2_5_8_11_19
            refine join_ (σ := Unit) 5 #[true, true, true, true, true, true, true, true, true, true, true, true, true, true, false, true, true, false, false, false, false] (fun s_ => [(11, .int .i64 t252), (14, .int .i64 t253), (17, .int .i64 t254), (20, .int .i64 t255)]) (fun s_ w' => (w'.heap[gb251]? = some (.cells #[.int .i64 0, .int .i64 0, .int .i64 0, .int .i64 0, .int .i64 0, .int .i64 0] 38 (0, 0))) ∧ (Below w.heap.size w w')) ?_ ?_
            rotate_left
            · intro hJ2_5_8_11
              refine join_ (σ := Nat) 5 #[true, true, true, true, true, true, true, true, true, true, true, false, true, true, false, true, true, false, false, true, false] (fun s_ => [(11, .int .i64 t252), (14, .int .i64 t253), (17, .int .i64 t254), (4, .pointer (some ⟨s_, 0, none⟩))]) (fun s_ w' => (w'.heap[gb251]? = some (.cells #[.int .i64 0, .int .i64 0, .int .i64 0, .int .i64 0, .int .i64 0, .int .i64 0] 38 (0, 0))) ∧ (w'.heap[s_]? = some (.cells #[.int .i64 0, .int .i64 0, .int .i64 0, .int .i64 0, .int .i64 0, .int .i64 0] 38 (0, 0))) ∧ (w.heap.size ≤ s_) ∧ (w.heap.size ≤ s_) ∧ (gb251 ≠ s_) ∧ (s_ ≠ gb251) ∧ (Below w.heap.size w w')) ?_ ?_
              rotate_left
              · intro hJ2_5_8_19
                refine join_ (σ := Unit) 6 #[true, true, true, true, true, true, true, true, true, true, true, false, true, true, false, true, true, false, false, false, false] (fun s_ => [(11, .int .i64 t252), (14, .int .i64 t253), (17, .int .i64 t254)]) (fun s_ w' => (w'.heap[gb251]? = some (.cells #[.int .i64 0, .int .i64 0, .int .i64 0, .int .i64 0, .int .i64 0, .int .i64 0] 38 (0, 0))) ∧ (Below w.heap.size w w')) ?_ ?_
                rotate_left
                · intro hJ2_5_8
                  refine join_ (σ := Nat) 6 #[true, true, true, true, true, true, true, true, false, true, true, false, true, true, false, true, true, false, false, true, false] (fun s_ => [(11, .int .i64 t252), (14, .int .i64 t253), (4, .pointer (some ⟨s_, 0, none⟩))]) (fun s_ w' => (w'.heap[gb251]? = some (.cells #[.int .i64 0, .int .i64 0, .int .i64 0, .int .i64 0, .int .i64 0, .int .i64 0] 38 (0, 0))) ∧ (w'.heap[s_]? = some (.cells #[.int .i64 0, .int .i64 0, .int .i64 0, .int .i64 0, .int .i64 0, .int .i64 0] 38 (0, 0))) ∧ (w.heap.size ≤ s_) ∧ (w.heap.size ≤ s_) ∧ (gb251 ≠ s_) ∧ (s_ ≠ gb251) ∧ (Below w.heap.size w w')) ?_ ?_
                  rotate_left
                  · intro hJ2_5_19
                    refine join_ (σ := Unit) 7 #[true, true, true, true, true, true, true, true, false, true, true, false, true, true, false, true, true, false, false, false, false] (fun s_ => [(11, .int .i64 t252), (14, .int .i64 t253)]) (fun s_ w' => (w'.heap[gb251]? = some (.cells #[.int .i64 0, .int .i64 0, .int .i64 0, .int .i64 0, .int .i64 0, .int .i64 0] 38 (0, 0))) ∧ (Below w.heap.size w w')) ?_ ?_
                    rotate_left
                    · intro hJ2_5
                      refine join_ (σ := Nat) 7 #[true, true, true, true, true, false, true, true, false, true, true, false, true, true, false, true, true, false, false, true, false] (fun s_ => [(11, .int .i64 t252), (4, .pointer (some ⟨s_, 0, none⟩))]) (fun s_ w' => (w'.heap[gb251]? = some (.cells #[.int .i64 0, .int .i64 0, .int .i64 0, .int .i64 0, .int .i64 0, .int .i64 0] 38 (0, 0))) ∧ (w'.heap[s_]? = some (.cells #[.int .i64 0, .int .i64 0, .int .i64 0, .int .i64 0, .int .i64 0, .int .i64 0] 38 (0, 0))) ∧ (w.heap.size ≤ s_) ∧ (w.heap.size ≤ s_) ∧ (gb251 ≠ s_) ∧ (s_ ≠ gb251) ∧ (Below w.heap.size w w')) ?_ ?_
                      rotate_left
                      · intro hJ2_19
                        refine join_ (σ := Unit) 8 #[true, true, true, true, true, false, true, true, false, true, true, false, true, true, false, true, true, false, false, false, false] (fun s_ => [(11, .int .i64 t252)]) (fun s_ w' => (w'.heap[gb251]? = some (.cells #[.int .i64 0, .int .i64 0, .int .i64 0, .int .i64 0, .int .i64 0, .int .i64 0] 38 (0, 0))) ∧ (Below w.heap.size w w')) ?_ ?_
                        rotate_left
                        · intro hJ2
                          refine join_ (σ := Nat) 8 #[true, true, false, true, true, false, true, true, false, true, true, false, true, true, false, true, true, false, false, true, false] (fun s_ => [(4, .pointer (some ⟨s_, 0, none⟩))]) (fun s_ w' => (w'.heap[gb251]? = some (.cells #[.int .i64 0, .int .i64 0, .int .i64 0, .int .i64 0, .int .i64 0, .int .i64 0] 38 (0, 0))) ∧ (w'.heap[s_]? = some (.cells #[.int .i64 0, .int .i64 0, .int .i64 0, .int .i64 0, .int .i64 0, .int .i64 0] 38 (0, 0))) ∧ (w.heap.size ≤ s_) ∧ (w.heap.size ≤ s_) ∧ (gb251 ≠ s_) ∧ (s_ ≠ gb251) ∧ (Below w.heap.size w w')) ?_ ?_
                          rotate_left
                          · intro hJ19
                            refine two_ (i := 2) (j := 19) (Ni := some 11) (Nj := some 4) #[true, true, true, true, true, false, true, true, false, true, true, false, true, true, false, true, true, false, false, false, false] #[true, true, false, true, true, false, true, true, false, true, true, false, true, true, false, true, true, false, false, true, false] rfl rfl rfl rfl (two_of HT_.out (by kernel_rfl)) (by decide) (by decide) (fun K hK => ?_) (fun K hK => ?_)
                            · skip
                              refine goes_ Tryd.func88 (by kernel_rfl) rfl #[.string (a0.extract 0 4)] (by rfl) rfl rfl (by (try simp only [List.map_toArray, List.map_cons, List.map_nil]); first | done | rfl | (simp only [List.length_drop, List.length_take]; rfl)) ?_
                              with_reducible refine (montageref41_number.calls k (a0.extract 0 4) t252 _ A5.out).mono ?_
                              rintro e w' ⟨rfl, ⟨nd, rfl⟩⟩
                              refine ⟨_, rfl, ?_⟩
                              refine hK.out _ _ trivial (fun hHeld => ?_)
                              clear hK K
                              refine norm_ (a' := ?_) ?_ ?_
                              rotate_left
                              · show Act.put _ (some 11) _ = _
                                simp only [Act.put, List.setIfInBounds_toArray, List.set_cons_zero, List.set_cons_succ, i64_w, i32_w]
                                rfl
                              exact norm_ (by first | (simp only [putAll, Act.put, List.setIfInBounds_toArray, List.set_cons_zero, List.set_cons_succ]; done) | (simp only [putAll, Act.put, List.setIfInBounds_toArray, List.set_cons_zero, List.set_cons_succ]; rfl)) (hJ2 () _ ⟨(by (with_reducible repeat (first | refine blk_drewN ?_ _ | refine blk_drew ?_ | refine blk_alloc ?_ _)); exact BK251.out), (by repeat (first | (with_reducible first | exact HB.out | apply below_alloc | apply pw_below_drewN | apply below_drew1 | refine below_set ?_ GE251.out) | exact HB.out))⟩)
                            · skip
                              refine box_step ?hg (N := 4) ?hd (cs := #[.int .i64 0, .int .i64 0, .int .i64 0, .int .i64 0, .int .i64 0, .int .i64 0]) (t := 38) ?hr ?_; (case hd => rfl); (case hg => rfl); (case hr => first | (go_simp; done) | (go_simp; rfl))
                              intro gb258 hg w26 hbox hb
                              have n0_ := Aside0.mk (blk_below (g := gb251) (o := .cells #[.int .i64 0, .int .i64 0, .int .i64 0, .int .i64 0, .int .i64 0, .int .i64 0] 38 (0, 0)) (by (with_reducible repeat (first | refine blk_drewN ?_ _ | refine blk_drew ?_ | refine blk_alloc ?_ _)); exact BK251.out) hb)
                              have n1_ := Aside0.mk (below_step (by repeat (first | (with_reducible first | exact HB.out | apply below_alloc | apply pw_below_drewN | apply below_drew1 | refine below_set ?_ GE251.out) | exact HB.out)) hb)
                              have n2_ := Aside0.mk (hbox)
                              have n3_ := Aside0.mk ((by rw [hg]; exact (below_size (by repeat (first | (with_reducible first | exact HB.out | apply below_alloc | apply pw_below_drewN | apply below_drew1 | refine below_set ?_ GE251.out) | exact HB.out))) : w.heap.size ≤ gb258))
                              have n4_ := Aside0.mk ((by rw [hg]; exact (below_size (by repeat (first | (with_reducible first | exact HB.out | apply below_alloc | apply pw_below_drewN | apply below_drew1 | refine below_set ?_ GE251.out) | exact HB.out))) : w.heap.size ≤ gb258))
                              have n5_ := Aside0.mk ((by rw [hg]; exact Nat.ne_of_lt (blk_lt (g := gb251) (o := .cells #[.int .i64 0, .int .i64 0, .int .i64 0, .int .i64 0, .int .i64 0, .int .i64 0] 38 (0, 0)) (by (with_reducible repeat (first | refine blk_drewN ?_ _ | refine blk_drew ?_ | refine blk_alloc ?_ _)); exact BK251.out)) : gb251 ≠ gb258))
                              have n6_ := Aside0.mk ((by rw [hg]; exact Nat.ne_of_gt (blk_lt (g := gb251) (o := .cells #[.int .i64 0, .int .i64 0, .int .i64 0, .int .i64 0, .int .i64 0, .int .i64 0] 38 (0, 0)) (by (with_reducible repeat (first | refine blk_drewN ?_ _ | refine blk_drew ?_ | refine blk_alloc ?_ _)); exact BK251.out)) : gb258 ≠ gb251))
                              clear BK251
                              clear HB
                              have BK251 := n0_
                              have HB := n1_
                              have BK258 := n2_
                              have GW258 := n3_
                              have GE258 := n4_
                              have NB251_258 := n5_
                              have NB258_251 := n6_
                              clear n0_ n1_ n2_ n3_ n4_ n5_ n6_
                              clear hb hbox hg
                              refine hK.out _ _ trivial (fun hHeld => ?_)
                              clear hK K
                              refine norm_ (a' := ?_) ?_ ?_
                              rotate_left
                              · show Act.put _ (some 4) _ = _
                                simp only [Act.put, List.setIfInBounds_toArray, List.set_cons_zero, List.set_cons_succ, i64_w, i32_w]
                                rfl
                              exact norm_ (by first | (simp only [putAll, Act.put, List.setIfInBounds_toArray, List.set_cons_zero, List.set_cons_succ]; done) | (simp only [putAll, Act.put, List.setIfInBounds_toArray, List.set_cons_zero, List.set_cons_succ]; rfl)) (hJ19 (gb258) _ ⟨(by (with_reducible repeat (first | refine blk_drewN ?_ _ | refine blk_drew ?_ | refine blk_alloc ?_ _)); exact BK251.out), (by (with_reducible repeat (first | refine blk_drewN ?_ _ | refine blk_drew ?_ | refine blk_alloc ?_ _)); exact BK258.out), GW258.out, GE258.out, NB251_258.out, NB258_251.out, (by repeat (first | (with_reducible first | exact HB.out | apply below_alloc | apply pw_below_drewN | apply below_drew1 | refine below_set ?_ GE251.out | refine below_set ?_ GE258.out) | exact HB.out))⟩)
                          · skip
                            rintro gb258 w27 ⟨h0_, h1_, h2_, h3_, h4_, h5_, h6_⟩
                            have n0_ : Aside0 (w27.heap[gb251]? = some (.cells #[.int .i64 0, .int .i64 0, .int .i64 0, .int .i64 0, .int .i64 0, .int .i64 0] 38 (0, 0))) := ⟨h0_⟩
                            have n1_ : Aside0 (w27.heap[gb258]? = some (.cells #[.int .i64 0, .int .i64 0, .int .i64 0, .int .i64 0, .int .i64 0, .int .i64 0] 38 (0, 0))) := ⟨h1_⟩
                            have n2_ : Aside0 (w.heap.size ≤ gb258) := ⟨h2_⟩
                            have n3_ : Aside0 (w.heap.size ≤ gb258) := ⟨h3_⟩
                            have n4_ : Aside0 (gb251 ≠ gb258) := ⟨h4_⟩
                            have n5_ : Aside0 (gb258 ≠ gb251) := ⟨h5_⟩
                            have n6_ : Aside0 (Below w.heap.size w w27) := ⟨h6_⟩
                            clear BK251
                            clear HB
                            clear h0_ h1_ h2_ h3_ h4_ h5_ h6_
                            have BK251 := n0_
                            have BK258 := n1_
                            have GW258 := n2_
                            have GE258 := n3_
                            have NB251_258 := n4_
                            have NB258_251 := n5_
                            have HB := n6_
                            clear n0_ n1_ n2_ n3_ n4_ n5_ n6_
                            have hHeld := trivial
                            refine norm_ (a' := ?_) ?_ ?_
                            rotate_left
                            · simp only [putAll, Act.put, List.setIfInBounds_toArray, List.set_cons_zero, List.set_cons_succ]
                              rfl
                            refine one_ (i := 2) (N := some 11) #[true, true, true, true, true, false, true, true, false, true, true, false, true, true, false, true, true, false, false, true, false] rfl rfl (one_of HT_.out (by kernel_rfl)) (by decide) (fun K hK => ?_)
                            refine goes_ Tryd.func88 (by kernel_rfl) rfl #[.string (a0.extract 0 4)] (by rfl) rfl rfl (by (try simp only [List.map_toArray, List.map_cons, List.map_nil]); first | done | rfl | (simp only [List.length_drop, List.length_take]; rfl)) ?_
                            with_reducible refine (montageref41_number.calls k (a0.extract 0 4) t252 _ A5.out).mono ?_
                            rintro e w' ⟨rfl, ⟨nd, rfl⟩⟩
                            refine ⟨_, rfl, ?_⟩
                            refine hK.out _ _ trivial (fun hHeld => ?_)
                            clear hK K
                            refine norm_ (a' := ?_) ?_ ?_
                            rotate_left
                            · show Act.put _ (some 11) _ = _
                              simp only [Act.put, List.setIfInBounds_toArray, List.set_cons_zero, List.set_cons_succ, i64_w, i32_w]
                              rfl
                            exact norm_ (by first | (simp only [putAll, Act.put, List.setIfInBounds_toArray, List.set_cons_zero, List.set_cons_succ]; done) | (simp only [putAll, Act.put, List.setIfInBounds_toArray, List.set_cons_zero, List.set_cons_succ]; rfl)) (hJ2_19 (gb258) _ ⟨(by (with_reducible repeat (first | refine blk_drewN ?_ _ | refine blk_drew ?_ | refine blk_alloc ?_ _)); exact BK251.out), (by (with_reducible repeat (first | refine blk_drewN ?_ _ | refine blk_drew ?_ | refine blk_alloc ?_ _)); exact BK258.out), GW258.out, GE258.out, NB251_258.out, NB258_251.out, (by repeat (first | (with_reducible first | exact HB.out | apply below_alloc | apply pw_below_drewN | apply below_drew1 | refine below_set ?_ GE251.out | refine below_set ?_ GE258.out) | exact HB.out))⟩)
                        · skip
                          rintro _ w26 ⟨h0_, h1_⟩
                          have n0_ : Aside0 (w26.heap[gb251]? = some (.cells #[.int .i64 0, .int .i64 0, .int .i64 0, .int .i64 0, .int .i64 0, .int .i64 0] 38 (0, 0))) := ⟨h0_⟩
                          have n1_ : Aside0 (Below w.heap.size w w26) := ⟨h1_⟩
                          clear BK251
                          clear HB
                          clear h0_ h1_
                          have BK251 := n0_
                          have HB := n1_
                          clear n0_ n1_
                          have hHeld := trivial
                          refine norm_ (a' := ?_) ?_ ?_
                          rotate_left
                          · simp only [putAll, Act.put, List.setIfInBounds_toArray, List.set_cons_zero, List.set_cons_succ]
                            rfl
                          refine two_ (i := 5) (j := 19) (Ni := some 14) (Nj := some 4) #[true, true, true, true, true, true, true, true, false, true, true, false, true, true, false, true, true, false, false, false, false] #[true, true, true, true, true, false, true, true, false, true, true, false, true, true, false, true, true, false, false, true, false] rfl rfl rfl rfl (two_of HT_.out (by kernel_rfl)) (by decide) (by decide) (fun K hK => ?_) (fun K hK => ?_)
                          · skip
                            refine goes_ Tryd.func88 (by kernel_rfl) rfl #[.string (a0.extract 5 7)] (by rfl) rfl rfl (by (try simp only [List.map_toArray, List.map_cons, List.map_nil]); first | done | rfl | (simp only [List.length_drop, List.length_take]; rfl)) ?_
                            with_reducible refine (montageref41_number.calls k (a0.extract 5 7) t253 _ A8.out).mono ?_
                            rintro e w' ⟨rfl, ⟨nd, rfl⟩⟩
                            refine ⟨_, rfl, ?_⟩
                            refine hK.out _ _ trivial (fun hHeld => ?_)
                            clear hK K
                            refine norm_ (a' := ?_) ?_ ?_
                            rotate_left
                            · show Act.put _ (some 14) _ = _
                              simp only [Act.put, List.setIfInBounds_toArray, List.set_cons_zero, List.set_cons_succ, i64_w, i32_w]
                              rfl
                            exact norm_ (by first | (simp only [putAll, Act.put, List.setIfInBounds_toArray, List.set_cons_zero, List.set_cons_succ]; done) | (simp only [putAll, Act.put, List.setIfInBounds_toArray, List.set_cons_zero, List.set_cons_succ]; rfl)) (hJ2_5 () _ ⟨(by (with_reducible repeat (first | refine blk_drewN ?_ _ | refine blk_drew ?_ | refine blk_alloc ?_ _)); exact BK251.out), (by repeat (first | (with_reducible first | exact HB.out | apply below_alloc | apply pw_below_drewN | apply below_drew1 | refine below_set ?_ GE251.out) | exact HB.out))⟩)
                          · skip
                            refine box_step ?hg (N := 4) ?hd (cs := #[.int .i64 0, .int .i64 0, .int .i64 0, .int .i64 0, .int .i64 0, .int .i64 0]) (t := 38) ?hr ?_; (case hd => rfl); (case hg => rfl); (case hr => first | (go_simp; done) | (go_simp; rfl))
                            intro gb258 hg w27 hbox hb
                            have n0_ := Aside0.mk (blk_below (g := gb251) (o := .cells #[.int .i64 0, .int .i64 0, .int .i64 0, .int .i64 0, .int .i64 0, .int .i64 0] 38 (0, 0)) (by (with_reducible repeat (first | refine blk_drewN ?_ _ | refine blk_drew ?_ | refine blk_alloc ?_ _)); exact BK251.out) hb)
                            have n1_ := Aside0.mk (below_step (by repeat (first | (with_reducible first | exact HB.out | apply below_alloc | apply pw_below_drewN | apply below_drew1 | refine below_set ?_ GE251.out) | exact HB.out)) hb)
                            have n2_ := Aside0.mk (hbox)
                            have n3_ := Aside0.mk ((by rw [hg]; exact (below_size (by repeat (first | (with_reducible first | exact HB.out | apply below_alloc | apply pw_below_drewN | apply below_drew1 | refine below_set ?_ GE251.out) | exact HB.out))) : w.heap.size ≤ gb258))
                            have n4_ := Aside0.mk ((by rw [hg]; exact (below_size (by repeat (first | (with_reducible first | exact HB.out | apply below_alloc | apply pw_below_drewN | apply below_drew1 | refine below_set ?_ GE251.out) | exact HB.out))) : w.heap.size ≤ gb258))
                            have n5_ := Aside0.mk ((by rw [hg]; exact Nat.ne_of_lt (blk_lt (g := gb251) (o := .cells #[.int .i64 0, .int .i64 0, .int .i64 0, .int .i64 0, .int .i64 0, .int .i64 0] 38 (0, 0)) (by (with_reducible repeat (first | refine blk_drewN ?_ _ | refine blk_drew ?_ | refine blk_alloc ?_ _)); exact BK251.out)) : gb251 ≠ gb258))
                            have n6_ := Aside0.mk ((by rw [hg]; exact Nat.ne_of_gt (blk_lt (g := gb251) (o := .cells #[.int .i64 0, .int .i64 0, .int .i64 0, .int .i64 0, .int .i64 0, .int .i64 0] 38 (0, 0)) (by (with_reducible repeat (first | refine blk_drewN ?_ _ | refine blk_drew ?_ | refine blk_alloc ?_ _)); exact BK251.out)) : gb258 ≠ gb251))
                            clear BK251
                            clear HB
                            have BK251 := n0_
                            have HB := n1_
                            have BK258 := n2_
                            have GW258 := n3_
                            have GE258 := n4_
                            have NB251_258 := n5_
                            have NB258_251 := n6_
                            clear n0_ n1_ n2_ n3_ n4_ n5_ n6_
                            clear hb hbox hg
                            refine hK.out _ _ trivial (fun hHeld => ?_)
                            clear hK K
                            refine norm_ (a' := ?_) ?_ ?_
                            rotate_left
                            · show Act.put _ (some 4) _ = _
                              simp only [Act.put, List.setIfInBounds_toArray, List.set_cons_zero, List.set_cons_succ, i64_w, i32_w]
                              rfl
                            exact norm_ (by first | (simp only [putAll, Act.put, List.setIfInBounds_toArray, List.set_cons_zero, List.set_cons_succ]; done) | (simp only [putAll, Act.put, List.setIfInBounds_toArray, List.set_cons_zero, List.set_cons_succ]; rfl)) (hJ2_19 (gb258) _ ⟨(by (with_reducible repeat (first | refine blk_drewN ?_ _ | refine blk_drew ?_ | refine blk_alloc ?_ _)); exact BK251.out), (by (with_reducible repeat (first | refine blk_drewN ?_ _ | refine blk_drew ?_ | refine blk_alloc ?_ _)); exact BK258.out), GW258.out, GE258.out, NB251_258.out, NB258_251.out, (by repeat (first | (with_reducible first | exact HB.out | apply below_alloc | apply pw_below_drewN | apply below_drew1 | refine below_set ?_ GE251.out | refine below_set ?_ GE258.out) | exact HB.out))⟩)
                      · skip
                        rintro gb258 w27 ⟨h0_, h1_, h2_, h3_, h4_, h5_, h6_⟩
                        have n0_ : Aside0 (w27.heap[gb251]? = some (.cells #[.int .i64 0, .int .i64 0, .int .i64 0, .int .i64 0, .int .i64 0, .int .i64 0] 38 (0, 0))) := ⟨h0_⟩
                        have n1_ : Aside0 (w27.heap[gb258]? = some (.cells #[.int .i64 0, .int .i64 0, .int .i64 0, .int .i64 0, .int .i64 0, .int .i64 0] 38 (0, 0))) := ⟨h1_⟩
                        have n2_ : Aside0 (w.heap.size ≤ gb258) := ⟨h2_⟩
                        have n3_ : Aside0 (w.heap.size ≤ gb258) := ⟨h3_⟩
                        have n4_ : Aside0 (gb251 ≠ gb258) := ⟨h4_⟩
                        have n5_ : Aside0 (gb258 ≠ gb251) := ⟨h5_⟩
                        have n6_ : Aside0 (Below w.heap.size w w27) := ⟨h6_⟩
                        clear BK251
                        clear HB
                        clear h0_ h1_ h2_ h3_ h4_ h5_ h6_
                        have BK251 := n0_
                        have BK258 := n1_
                        have GW258 := n2_
                        have GE258 := n3_
                        have NB251_258 := n4_
                        have NB258_251 := n5_
                        have HB := n6_
                        clear n0_ n1_ n2_ n3_ n4_ n5_ n6_
                        have hHeld := trivial
                        refine norm_ (a' := ?_) ?_ ?_
                        rotate_left
                        · simp only [putAll, Act.put, List.setIfInBounds_toArray, List.set_cons_zero, List.set_cons_succ]
                          rfl
                        refine one_ (i := 5) (N := some 14) #[true, true, true, true, true, true, true, true, false, true, true, false, true, true, false, true, true, false, false, true, false] rfl rfl (one_of HT_.out (by kernel_rfl)) (by decide) (fun K hK => ?_)
                        refine goes_ Tryd.func88 (by kernel_rfl) rfl #[.string (a0.extract 5 7)] (by rfl) rfl rfl (by (try simp only [List.map_toArray, List.map_cons, List.map_nil]); first | done | rfl | (simp only [List.length_drop, List.length_take]; rfl)) ?_
                        with_reducible refine (montageref41_number.calls k (a0.extract 5 7) t253 _ A8.out).mono ?_
                        rintro e w' ⟨rfl, ⟨nd, rfl⟩⟩
                        refine ⟨_, rfl, ?_⟩
                        refine hK.out _ _ trivial (fun hHeld => ?_)
                        clear hK K
                        refine norm_ (a' := ?_) ?_ ?_
                        rotate_left
                        · show Act.put _ (some 14) _ = _
                          simp only [Act.put, List.setIfInBounds_toArray, List.set_cons_zero, List.set_cons_succ, i64_w, i32_w]
                          rfl
                        exact norm_ (by first | (simp only [putAll, Act.put, List.setIfInBounds_toArray, List.set_cons_zero, List.set_cons_succ]; done) | (simp only [putAll, Act.put, List.setIfInBounds_toArray, List.set_cons_zero, List.set_cons_succ]; rfl)) (hJ2_5_19 (gb258) _ ⟨(by (with_reducible repeat (first | refine blk_drewN ?_ _ | refine blk_drew ?_ | refine blk_alloc ?_ _)); exact BK251.out), (by (with_reducible repeat (first | refine blk_drewN ?_ _ | refine blk_drew ?_ | refine blk_alloc ?_ _)); exact BK258.out), GW258.out, GE258.out, NB251_258.out, NB258_251.out, (by repeat (first | (with_reducible first | exact HB.out | apply below_alloc | apply pw_below_drewN | apply below_drew1 | refine below_set ?_ GE251.out | refine below_set ?_ GE258.out) | exact HB.out))⟩)
                    · skip
                      rintro _ w26 ⟨h0_, h1_⟩
                      have n0_ : Aside0 (w26.heap[gb251]? = some (.cells #[.int .i64 0, .int .i64 0, .int .i64 0, .int .i64 0, .int .i64 0, .int .i64 0] 38 (0, 0))) := ⟨h0_⟩
                      have n1_ : Aside0 (Below w.heap.size w w26) := ⟨h1_⟩
                      clear BK251
                      clear HB
                      clear h0_ h1_
                      have BK251 := n0_
                      have HB := n1_
                      clear n0_ n1_
                      have hHeld := trivial
                      refine norm_ (a' := ?_) ?_ ?_
                      rotate_left
                      · simp only [putAll, Act.put, List.setIfInBounds_toArray, List.set_cons_zero, List.set_cons_succ]
                        rfl
                      refine two_ (i := 8) (j := 19) (Ni := some 17) (Nj := some 4) #[true, true, true, true, true, true, true, true, true, true, true, false, true, true, false, true, true, false, false, false, false] #[true, true, true, true, true, true, true, true, false, true, true, false, true, true, false, true, true, false, false, true, false] rfl rfl rfl rfl (two_of HT_.out (by kernel_rfl)) (by decide) (by decide) (fun K hK => ?_) (fun K hK => ?_)
                      · skip
                        refine goes_ Tryd.func88 (by kernel_rfl) rfl #[.string (a0.extract 8 10)] (by rfl) rfl rfl (by (try simp only [List.map_toArray, List.map_cons, List.map_nil]); first | done | rfl | (simp only [List.length_drop, List.length_take]; rfl)) ?_
                        with_reducible refine (montageref41_number.calls k (a0.extract 8 10) t254 _ A11.out).mono ?_
                        rintro e w' ⟨rfl, ⟨nd, rfl⟩⟩
                        refine ⟨_, rfl, ?_⟩
                        refine hK.out _ _ trivial (fun hHeld => ?_)
                        clear hK K
                        refine norm_ (a' := ?_) ?_ ?_
                        rotate_left
                        · show Act.put _ (some 17) _ = _
                          simp only [Act.put, List.setIfInBounds_toArray, List.set_cons_zero, List.set_cons_succ, i64_w, i32_w]
                          rfl
                        exact norm_ (by first | (simp only [putAll, Act.put, List.setIfInBounds_toArray, List.set_cons_zero, List.set_cons_succ]; done) | (simp only [putAll, Act.put, List.setIfInBounds_toArray, List.set_cons_zero, List.set_cons_succ]; rfl)) (hJ2_5_8 () _ ⟨(by (with_reducible repeat (first | refine blk_drewN ?_ _ | refine blk_drew ?_ | refine blk_alloc ?_ _)); exact BK251.out), (by repeat (first | (with_reducible first | exact HB.out | apply below_alloc | apply pw_below_drewN | apply below_drew1 | refine below_set ?_ GE251.out) | exact HB.out))⟩)
                      · skip
                        refine box_step ?hg (N := 4) ?hd (cs := #[.int .i64 0, .int .i64 0, .int .i64 0, .int .i64 0, .int .i64 0, .int .i64 0]) (t := 38) ?hr ?_; (case hd => rfl); (case hg => rfl); (case hr => first | (go_simp; done) | (go_simp; rfl))
                        intro gb258 hg w27 hbox hb
                        have n0_ := Aside0.mk (blk_below (g := gb251) (o := .cells #[.int .i64 0, .int .i64 0, .int .i64 0, .int .i64 0, .int .i64 0, .int .i64 0] 38 (0, 0)) (by (with_reducible repeat (first | refine blk_drewN ?_ _ | refine blk_drew ?_ | refine blk_alloc ?_ _)); exact BK251.out) hb)
                        have n1_ := Aside0.mk (below_step (by repeat (first | (with_reducible first | exact HB.out | apply below_alloc | apply pw_below_drewN | apply below_drew1 | refine below_set ?_ GE251.out) | exact HB.out)) hb)
                        have n2_ := Aside0.mk (hbox)
                        have n3_ := Aside0.mk ((by rw [hg]; exact (below_size (by repeat (first | (with_reducible first | exact HB.out | apply below_alloc | apply pw_below_drewN | apply below_drew1 | refine below_set ?_ GE251.out) | exact HB.out))) : w.heap.size ≤ gb258))
                        have n4_ := Aside0.mk ((by rw [hg]; exact (below_size (by repeat (first | (with_reducible first | exact HB.out | apply below_alloc | apply pw_below_drewN | apply below_drew1 | refine below_set ?_ GE251.out) | exact HB.out))) : w.heap.size ≤ gb258))
                        have n5_ := Aside0.mk ((by rw [hg]; exact Nat.ne_of_lt (blk_lt (g := gb251) (o := .cells #[.int .i64 0, .int .i64 0, .int .i64 0, .int .i64 0, .int .i64 0, .int .i64 0] 38 (0, 0)) (by (with_reducible repeat (first | refine blk_drewN ?_ _ | refine blk_drew ?_ | refine blk_alloc ?_ _)); exact BK251.out)) : gb251 ≠ gb258))
                        have n6_ := Aside0.mk ((by rw [hg]; exact Nat.ne_of_gt (blk_lt (g := gb251) (o := .cells #[.int .i64 0, .int .i64 0, .int .i64 0, .int .i64 0, .int .i64 0, .int .i64 0] 38 (0, 0)) (by (with_reducible repeat (first | refine blk_drewN ?_ _ | refine blk_drew ?_ | refine blk_alloc ?_ _)); exact BK251.out)) : gb258 ≠ gb251))
                        clear BK251
                        clear HB
                        have BK251 := n0_
                        have HB := n1_
                        have BK258 := n2_
                        have GW258 := n3_
                        have GE258 := n4_
                        have NB251_258 := n5_
                        have NB258_251 := n6_
                        clear n0_ n1_ n2_ n3_ n4_ n5_ n6_
                        clear hb hbox hg
                        refine hK.out _ _ trivial (fun hHeld => ?_)
                        clear hK K
                        refine norm_ (a' := ?_) ?_ ?_
                        rotate_left
                        · show Act.put _ (some 4) _ = _
                          simp only [Act.put, List.setIfInBounds_toArray, List.set_cons_zero, List.set_cons_succ, i64_w, i32_w]
                          rfl
                        exact norm_ (by first | (simp only [putAll, Act.put, List.setIfInBounds_toArray, List.set_cons_zero, List.set_cons_succ]; done) | (simp only [putAll, Act.put, List.setIfInBounds_toArray, List.set_cons_zero, List.set_cons_succ]; rfl)) (hJ2_5_19 (gb258) _ ⟨(by (with_reducible repeat (first | refine blk_drewN ?_ _ | refine blk_drew ?_ | refine blk_alloc ?_ _)); exact BK251.out), (by (with_reducible repeat (first | refine blk_drewN ?_ _ | refine blk_drew ?_ | refine blk_alloc ?_ _)); exact BK258.out), GW258.out, GE258.out, NB251_258.out, NB258_251.out, (by repeat (first | (with_reducible first | exact HB.out | apply below_alloc | apply pw_below_drewN | apply below_drew1 | refine below_set ?_ GE251.out | refine below_set ?_ GE258.out) | exact HB.out))⟩)
                  · skip
                    rintro gb258 w27 ⟨h0_, h1_, h2_, h3_, h4_, h5_, h6_⟩
                    have n0_ : Aside0 (w27.heap[gb251]? = some (.cells #[.int .i64 0, .int .i64 0, .int .i64 0, .int .i64 0, .int .i64 0, .int .i64 0] 38 (0, 0))) := ⟨h0_⟩
                    have n1_ : Aside0 (w27.heap[gb258]? = some (.cells #[.int .i64 0, .int .i64 0, .int .i64 0, .int .i64 0, .int .i64 0, .int .i64 0] 38 (0, 0))) := ⟨h1_⟩
                    have n2_ : Aside0 (w.heap.size ≤ gb258) := ⟨h2_⟩
                    have n3_ : Aside0 (w.heap.size ≤ gb258) := ⟨h3_⟩
                    have n4_ : Aside0 (gb251 ≠ gb258) := ⟨h4_⟩
                    have n5_ : Aside0 (gb258 ≠ gb251) := ⟨h5_⟩
                    have n6_ : Aside0 (Below w.heap.size w w27) := ⟨h6_⟩
                    clear BK251
                    clear HB
                    clear h0_ h1_ h2_ h3_ h4_ h5_ h6_
                    have BK251 := n0_
                    have BK258 := n1_
                    have GW258 := n2_
                    have GE258 := n3_
                    have NB251_258 := n4_
                    have NB258_251 := n5_
                    have HB := n6_
                    clear n0_ n1_ n2_ n3_ n4_ n5_ n6_
                    have hHeld := trivial
                    refine norm_ (a' := ?_) ?_ ?_
                    rotate_left
                    · simp only [putAll, Act.put, List.setIfInBounds_toArray, List.set_cons_zero, List.set_cons_succ]
                      rfl
                    refine one_ (i := 8) (N := some 17) #[true, true, true, true, true, true, true, true, true, true, true, false, true, true, false, true, true, false, false, true, false] rfl rfl (one_of HT_.out (by kernel_rfl)) (by decide) (fun K hK => ?_)
                    refine goes_ Tryd.func88 (by kernel_rfl) rfl #[.string (a0.extract 8 10)] (by rfl) rfl rfl (by (try simp only [List.map_toArray, List.map_cons, List.map_nil]); first | done | rfl | (simp only [List.length_drop, List.length_take]; rfl)) ?_
                    with_reducible refine (montageref41_number.calls k (a0.extract 8 10) t254 _ A11.out).mono ?_
                    rintro e w' ⟨rfl, ⟨nd, rfl⟩⟩
                    refine ⟨_, rfl, ?_⟩
                    refine hK.out _ _ trivial (fun hHeld => ?_)
                    clear hK K
                    refine norm_ (a' := ?_) ?_ ?_
                    rotate_left
                    · show Act.put _ (some 17) _ = _
                      simp only [Act.put, List.setIfInBounds_toArray, List.set_cons_zero, List.set_cons_succ, i64_w, i32_w]
                      rfl
                    exact norm_ (by first | (simp only [putAll, Act.put, List.setIfInBounds_toArray, List.set_cons_zero, List.set_cons_succ]; done) | (simp only [putAll, Act.put, List.setIfInBounds_toArray, List.set_cons_zero, List.set_cons_succ]; rfl)) (hJ2_5_8_19 (gb258) _ ⟨(by (with_reducible repeat (first | refine blk_drewN ?_ _ | refine blk_drew ?_ | refine blk_alloc ?_ _)); exact BK251.out), (by (with_reducible repeat (first | refine blk_drewN ?_ _ | refine blk_drew ?_ | refine blk_alloc ?_ _)); exact BK258.out), GW258.out, GE258.out, NB251_258.out, NB258_251.out, (by repeat (first | (with_reducible first | exact HB.out | apply below_alloc | apply pw_below_drewN | apply below_drew1 | refine below_set ?_ GE251.out | refine below_set ?_ GE258.out) | exact HB.out))⟩)
                · skip
                  rintro _ w26 ⟨h0_, h1_⟩
                  have n0_ : Aside0 (w26.heap[gb251]? = some (.cells #[.int .i64 0, .int .i64 0, .int .i64 0, .int .i64 0, .int .i64 0, .int .i64 0] 38 (0, 0))) := ⟨h0_⟩
                  have n1_ : Aside0 (Below w.heap.size w w26) := ⟨h1_⟩
                  clear BK251
                  clear HB
                  clear h0_ h1_
                  have BK251 := n0_
                  have HB := n1_
                  clear n0_ n1_
                  have hHeld := trivial
                  refine norm_ (a' := ?_) ?_ ?_
                  rotate_left
                  · simp only [putAll, Act.put, List.setIfInBounds_toArray, List.set_cons_zero, List.set_cons_succ]
                    rfl
                  refine two_ (i := 11) (j := 19) (Ni := some 20) (Nj := some 4) #[true, true, true, true, true, true, true, true, true, true, true, true, true, true, false, true, true, false, false, false, false] #[true, true, true, true, true, true, true, true, true, true, true, false, true, true, false, true, true, false, false, true, false] rfl rfl rfl rfl (two_of HT_.out (by kernel_rfl)) (by decide) (by decide) (fun K hK => ?_) (fun K hK => ?_)
                  · skip
                    refine goes_ Tryd.func88 (by kernel_rfl) rfl #[.string (a0.extract 11 13)] (by rfl) rfl rfl (by (try simp only [List.map_toArray, List.map_cons, List.map_nil]); first | done | rfl | (simp only [List.length_drop, List.length_take]; rfl)) ?_
                    with_reducible refine (montageref41_number.calls k (a0.extract 11 13) t255 _ A14.out).mono ?_
                    rintro e w' ⟨rfl, ⟨nd, rfl⟩⟩
                    refine ⟨_, rfl, ?_⟩
                    refine hK.out _ _ trivial (fun hHeld => ?_)
                    clear hK K
                    refine norm_ (a' := ?_) ?_ ?_
                    rotate_left
                    · show Act.put _ (some 20) _ = _
                      simp only [Act.put, List.setIfInBounds_toArray, List.set_cons_zero, List.set_cons_succ, i64_w, i32_w]
                      rfl
                    exact norm_ (by first | (simp only [putAll, Act.put, List.setIfInBounds_toArray, List.set_cons_zero, List.set_cons_succ]; done) | (simp only [putAll, Act.put, List.setIfInBounds_toArray, List.set_cons_zero, List.set_cons_succ]; rfl)) (hJ2_5_8_11 () _ ⟨(by (with_reducible repeat (first | refine blk_drewN ?_ _ | refine blk_drew ?_ | refine blk_alloc ?_ _)); exact BK251.out), (by repeat (first | (with_reducible first | exact HB.out | apply below_alloc | apply pw_below_drewN | apply below_drew1 | refine below_set ?_ GE251.out) | exact HB.out))⟩)
                  · skip
                    refine box_step ?hg (N := 4) ?hd (cs := #[.int .i64 0, .int .i64 0, .int .i64 0, .int .i64 0, .int .i64 0, .int .i64 0]) (t := 38) ?hr ?_; (case hd => rfl); (case hg => rfl); (case hr => first | (go_simp; done) | (go_simp; rfl))
                    intro gb258 hg w27 hbox hb
                    have n0_ := Aside0.mk (blk_below (g := gb251) (o := .cells #[.int .i64 0, .int .i64 0, .int .i64 0, .int .i64 0, .int .i64 0, .int .i64 0] 38 (0, 0)) (by (with_reducible repeat (first | refine blk_drewN ?_ _ | refine blk_drew ?_ | refine blk_alloc ?_ _)); exact BK251.out) hb)
                    have n1_ := Aside0.mk (below_step (by repeat (first | (with_reducible first | exact HB.out | apply below_alloc | apply pw_below_drewN | apply below_drew1 | refine below_set ?_ GE251.out) | exact HB.out)) hb)
                    have n2_ := Aside0.mk (hbox)
                    have n3_ := Aside0.mk ((by rw [hg]; exact (below_size (by repeat (first | (with_reducible first | exact HB.out | apply below_alloc | apply pw_below_drewN | apply below_drew1 | refine below_set ?_ GE251.out) | exact HB.out))) : w.heap.size ≤ gb258))
                    have n4_ := Aside0.mk ((by rw [hg]; exact (below_size (by repeat (first | (with_reducible first | exact HB.out | apply below_alloc | apply pw_below_drewN | apply below_drew1 | refine below_set ?_ GE251.out) | exact HB.out))) : w.heap.size ≤ gb258))
                    have n5_ := Aside0.mk ((by rw [hg]; exact Nat.ne_of_lt (blk_lt (g := gb251) (o := .cells #[.int .i64 0, .int .i64 0, .int .i64 0, .int .i64 0, .int .i64 0, .int .i64 0] 38 (0, 0)) (by (with_reducible repeat (first | refine blk_drewN ?_ _ | refine blk_drew ?_ | refine blk_alloc ?_ _)); exact BK251.out)) : gb251 ≠ gb258))
                    have n6_ := Aside0.mk ((by rw [hg]; exact Nat.ne_of_gt (blk_lt (g := gb251) (o := .cells #[.int .i64 0, .int .i64 0, .int .i64 0, .int .i64 0, .int .i64 0, .int .i64 0] 38 (0, 0)) (by (with_reducible repeat (first | refine blk_drewN ?_ _ | refine blk_drew ?_ | refine blk_alloc ?_ _)); exact BK251.out)) : gb258 ≠ gb251))
                    clear BK251
                    clear HB
                    have BK251 := n0_
                    have HB := n1_
                    have BK258 := n2_
                    have GW258 := n3_
                    have GE258 := n4_
                    have NB251_258 := n5_
                    have NB258_251 := n6_
                    clear n0_ n1_ n2_ n3_ n4_ n5_ n6_
                    clear hb hbox hg
                    refine hK.out _ _ trivial (fun hHeld => ?_)
                    clear hK K
                    refine norm_ (a' := ?_) ?_ ?_
                    rotate_left
                    · show Act.put _ (some 4) _ = _
                      simp only [Act.put, List.setIfInBounds_toArray, List.set_cons_zero, List.set_cons_succ, i64_w, i32_w]
                      rfl
                    exact norm_ (by first | (simp only [putAll, Act.put, List.setIfInBounds_toArray, List.set_cons_zero, List.set_cons_succ]; done) | (simp only [putAll, Act.put, List.setIfInBounds_toArray, List.set_cons_zero, List.set_cons_succ]; rfl)) (hJ2_5_8_19 (gb258) _ ⟨(by (with_reducible repeat (first | refine blk_drewN ?_ _ | refine blk_drew ?_ | refine blk_alloc ?_ _)); exact BK251.out), (by (with_reducible repeat (first | refine blk_drewN ?_ _ | refine blk_drew ?_ | refine blk_alloc ?_ _)); exact BK258.out), GW258.out, GE258.out, NB251_258.out, NB258_251.out, (by repeat (first | (with_reducible first | exact HB.out | apply below_alloc | apply pw_below_drewN | apply below_drew1 | refine below_set ?_ GE251.out | refine below_set ?_ GE258.out) | exact HB.out))⟩)
              · skip
                rintro gb258 w27 ⟨h0_, h1_, h2_, h3_, h4_, h5_, h6_⟩
                have n0_ : Aside0 (w27.heap[gb251]? = some (.cells #[.int .i64 0, .int .i64 0, .int .i64 0, .int .i64 0, .int .i64 0, .int .i64 0] 38 (0, 0))) := ⟨h0_⟩
                have n1_ : Aside0 (w27.heap[gb258]? = some (.cells #[.int .i64 0, .int .i64 0, .int .i64 0, .int .i64 0, .int .i64 0, .int .i64 0] 38 (0, 0))) := ⟨h1_⟩
                have n2_ : Aside0 (w.heap.size ≤ gb258) := ⟨h2_⟩
                have n3_ : Aside0 (w.heap.size ≤ gb258) := ⟨h3_⟩
                have n4_ : Aside0 (gb251 ≠ gb258) := ⟨h4_⟩
                have n5_ : Aside0 (gb258 ≠ gb251) := ⟨h5_⟩
                have n6_ : Aside0 (Below w.heap.size w w27) := ⟨h6_⟩
                clear BK251
                clear HB
                clear h0_ h1_ h2_ h3_ h4_ h5_ h6_
                have BK251 := n0_
                have BK258 := n1_
                have GW258 := n2_
                have GE258 := n3_
                have NB251_258 := n4_
                have NB258_251 := n5_
                have HB := n6_
                clear n0_ n1_ n2_ n3_ n4_ n5_ n6_
                have hHeld := trivial
                refine norm_ (a' := ?_) ?_ ?_
                rotate_left
                · simp only [putAll, Act.put, List.setIfInBounds_toArray, List.set_cons_zero, List.set_cons_succ]
                  rfl
                refine one_ (i := 11) (N := some 20) #[true, true, true, true, true, true, true, true, true, true, true, true, true, true, false, true, true, false, false, true, false] rfl rfl (one_of HT_.out (by kernel_rfl)) (by decide) (fun K hK => ?_)
                refine goes_ Tryd.func88 (by kernel_rfl) rfl #[.string (a0.extract 11 13)] (by rfl) rfl rfl (by (try simp only [List.map_toArray, List.map_cons, List.map_nil]); first | done | rfl | (simp only [List.length_drop, List.length_take]; rfl)) ?_
                with_reducible refine (montageref41_number.calls k (a0.extract 11 13) t255 _ A14.out).mono ?_
                rintro e w' ⟨rfl, ⟨nd, rfl⟩⟩
                refine ⟨_, rfl, ?_⟩
                refine hK.out _ _ trivial (fun hHeld => ?_)
                clear hK K
                refine norm_ (a' := ?_) ?_ ?_
                rotate_left
                · show Act.put _ (some 20) _ = _
                  simp only [Act.put, List.setIfInBounds_toArray, List.set_cons_zero, List.set_cons_succ, i64_w, i32_w]
                  rfl
                exact norm_ (by first | (simp only [putAll, Act.put, List.setIfInBounds_toArray, List.set_cons_zero, List.set_cons_succ]; done) | (simp only [putAll, Act.put, List.setIfInBounds_toArray, List.set_cons_zero, List.set_cons_succ]; rfl)) (hJ2_5_8_11_19 (gb258) _ ⟨(by (with_reducible repeat (first | refine blk_drewN ?_ _ | refine blk_drew ?_ | refine blk_alloc ?_ _)); exact BK251.out), (by (with_reducible repeat (first | refine blk_drewN ?_ _ | refine blk_drew ?_ | refine blk_alloc ?_ _)); exact BK258.out), GW258.out, GE258.out, NB251_258.out, NB258_251.out, (by repeat (first | (with_reducible first | exact HB.out | apply below_alloc | apply pw_below_drewN | apply below_drew1 | refine below_set ?_ GE251.out | refine below_set ?_ GE258.out) | exact HB.out))⟩)
            · skip
              rintro _ w26 ⟨h0_, h1_⟩
              have n0_ : Aside0 (w26.heap[gb251]? = some (.cells #[.int .i64 0, .int .i64 0, .int .i64 0, .int .i64 0, .int .i64 0, .int .i64 0] 38 (0, 0))) := ⟨h0_⟩
              have n1_ : Aside0 (Below w.heap.size w w26) := ⟨h1_⟩
              clear BK251
              clear HB
              clear h0_ h1_
              have BK251 := n0_
              have HB := n1_
              clear n0_ n1_
              have hHeld := trivial
              refine norm_ (a' := ?_) ?_ ?_
              rotate_left
              · simp only [putAll, Act.put, List.setIfInBounds_toArray, List.set_cons_zero, List.set_cons_succ]
                rfl
              refine two_ (i := 14) (j := 19) (Ni := some 23) (Nj := some 4) #[true, true, true, true, true, true, true, true, true, true, true, true, true, true, true, true, true, false, false, false, false] #[true, true, true, true, true, true, true, true, true, true, true, true, true, true, false, true, true, false, false, true, false] rfl rfl rfl rfl (two_of HT_.out (by kernel_rfl)) (by decide) (by decide) (fun K hK => ?_) (fun K hK => ?_)
              · skip
                refine goes_ Tryd.func88 (by kernel_rfl) rfl #[.string (a0.extract 14 16)] (by rfl) rfl rfl (by (try simp only [List.map_toArray, List.map_cons, List.map_nil]); first | done | rfl | (simp only [List.length_drop, List.length_take]; rfl)) ?_
                with_reducible refine (montageref41_number.calls k (a0.extract 14 16) t256 _ A17.out).mono ?_
                rintro e w' ⟨rfl, ⟨nd, rfl⟩⟩
                refine ⟨_, rfl, ?_⟩
                refine hK.out _ _ trivial (fun hHeld => ?_)
                clear hK K
                refine norm_ (a' := ?_) ?_ ?_
                rotate_left
                · show Act.put _ (some 23) _ = _
                  simp only [Act.put, List.setIfInBounds_toArray, List.set_cons_zero, List.set_cons_succ, i64_w, i32_w]
                  rfl
                exact norm_ (by first | (simp only [putAll, Act.put, List.setIfInBounds_toArray, List.set_cons_zero, List.set_cons_succ]; done) | (simp only [putAll, Act.put, List.setIfInBounds_toArray, List.set_cons_zero, List.set_cons_succ]; rfl)) (hJ2_5_8_11_14 () _ ⟨(by (with_reducible repeat (first | refine blk_drewN ?_ _ | refine blk_drew ?_ | refine blk_alloc ?_ _)); exact BK251.out), (by repeat (first | (with_reducible first | exact HB.out | apply below_alloc | apply pw_below_drewN | apply below_drew1 | refine below_set ?_ GE251.out) | exact HB.out))⟩)
              · skip
                refine box_step ?hg (N := 4) ?hd (cs := #[.int .i64 0, .int .i64 0, .int .i64 0, .int .i64 0, .int .i64 0, .int .i64 0]) (t := 38) ?hr ?_; (case hd => rfl); (case hg => rfl); (case hr => first | (go_simp; done) | (go_simp; rfl))
                intro gb258 hg w27 hbox hb
                have n0_ := Aside0.mk (blk_below (g := gb251) (o := .cells #[.int .i64 0, .int .i64 0, .int .i64 0, .int .i64 0, .int .i64 0, .int .i64 0] 38 (0, 0)) (by (with_reducible repeat (first | refine blk_drewN ?_ _ | refine blk_drew ?_ | refine blk_alloc ?_ _)); exact BK251.out) hb)
                have n1_ := Aside0.mk (below_step (by repeat (first | (with_reducible first | exact HB.out | apply below_alloc | apply pw_below_drewN | apply below_drew1 | refine below_set ?_ GE251.out) | exact HB.out)) hb)
                have n2_ := Aside0.mk (hbox)
                have n3_ := Aside0.mk ((by rw [hg]; exact (below_size (by repeat (first | (with_reducible first | exact HB.out | apply below_alloc | apply pw_below_drewN | apply below_drew1 | refine below_set ?_ GE251.out) | exact HB.out))) : w.heap.size ≤ gb258))
                have n4_ := Aside0.mk ((by rw [hg]; exact (below_size (by repeat (first | (with_reducible first | exact HB.out | apply below_alloc | apply pw_below_drewN | apply below_drew1 | refine below_set ?_ GE251.out) | exact HB.out))) : w.heap.size ≤ gb258))
                have n5_ := Aside0.mk ((by rw [hg]; exact Nat.ne_of_lt (blk_lt (g := gb251) (o := .cells #[.int .i64 0, .int .i64 0, .int .i64 0, .int .i64 0, .int .i64 0, .int .i64 0] 38 (0, 0)) (by (with_reducible repeat (first | refine blk_drewN ?_ _ | refine blk_drew ?_ | refine blk_alloc ?_ _)); exact BK251.out)) : gb251 ≠ gb258))
                have n6_ := Aside0.mk ((by rw [hg]; exact Nat.ne_of_gt (blk_lt (g := gb251) (o := .cells #[.int .i64 0, .int .i64 0, .int .i64 0, .int .i64 0, .int .i64 0, .int .i64 0] 38 (0, 0)) (by (with_reducible repeat (first | refine blk_drewN ?_ _ | refine blk_drew ?_ | refine blk_alloc ?_ _)); exact BK251.out)) : gb258 ≠ gb251))
                clear BK251
                clear HB
                have BK251 := n0_
                have HB := n1_
                have BK258 := n2_
                have GW258 := n3_
                have GE258 := n4_
                have NB251_258 := n5_
                have NB258_251 := n6_
                clear n0_ n1_ n2_ n3_ n4_ n5_ n6_
                clear hb hbox hg
                refine hK.out _ _ trivial (fun hHeld => ?_)
                clear hK K
                refine norm_ (a' := ?_) ?_ ?_
                rotate_left
                · show Act.put _ (some 4) _ = _
                  simp only [Act.put, List.setIfInBounds_toArray, List.set_cons_zero, List.set_cons_succ, i64_w, i32_w]
                  rfl
                exact norm_ (by first | (simp only [putAll, Act.put, List.setIfInBounds_toArray, List.set_cons_zero, List.set_cons_succ]; done) | (simp only [putAll, Act.put, List.setIfInBounds_toArray, List.set_cons_zero, List.set_cons_succ]; rfl)) (hJ2_5_8_11_19 (gb258) _ ⟨(by (with_reducible repeat (first | refine blk_drewN ?_ _ | refine blk_drew ?_ | refine blk_alloc ?_ _)); exact BK251.out), (by (with_reducible repeat (first | refine blk_drewN ?_ _ | refine blk_drew ?_ | refine blk_alloc ?_ _)); exact BK258.out), GW258.out, GE258.out, NB251_258.out, NB258_251.out, (by repeat (first | (with_reducible first | exact HB.out | apply below_alloc | apply pw_below_drewN | apply below_drew1 | refine below_set ?_ GE251.out | refine below_set ?_ GE258.out) | exact HB.out))⟩)
          · skip
            rintro gb258 w27 ⟨h0_, h1_, h2_, h3_, h4_, h5_, h6_⟩
            have n0_ : Aside0 (w27.heap[gb251]? = some (.cells #[.int .i64 0, .int .i64 0, .int .i64 0, .int .i64 0, .int .i64 0, .int .i64 0] 38 (0, 0))) := ⟨h0_⟩
            have n1_ : Aside0 (w27.heap[gb258]? = some (.cells #[.int .i64 0, .int .i64 0, .int .i64 0, .int .i64 0, .int .i64 0, .int .i64 0] 38 (0, 0))) := ⟨h1_⟩
            have n2_ : Aside0 (w.heap.size ≤ gb258) := ⟨h2_⟩
            have n3_ : Aside0 (w.heap.size ≤ gb258) := ⟨h3_⟩
            have n4_ : Aside0 (gb251 ≠ gb258) := ⟨h4_⟩
            have n5_ : Aside0 (gb258 ≠ gb251) := ⟨h5_⟩
            have n6_ : Aside0 (Below w.heap.size w w27) := ⟨h6_⟩
            clear BK251
            clear HB
            clear h0_ h1_ h2_ h3_ h4_ h5_ h6_
            have BK251 := n0_
            have BK258 := n1_
            have GW258 := n2_
            have GE258 := n3_
            have NB251_258 := n4_
            have NB258_251 := n5_
            have HB := n6_
            clear n0_ n1_ n2_ n3_ n4_ n5_ n6_
            have hHeld := trivial
            refine norm_ (a' := ?_) ?_ ?_
            rotate_left
            · simp only [putAll, Act.put, List.setIfInBounds_toArray, List.set_cons_zero, List.set_cons_succ]
              rfl
            refine one_ (i := 14) (N := some 23) #[true, true, true, true, true, true, true, true, true, true, true, true, true, true, true, true, true, false, false, true, false] rfl rfl (one_of HT_.out (by kernel_rfl)) (by decide) (fun K hK => ?_)
            refine goes_ Tryd.func88 (by kernel_rfl) rfl #[.string (a0.extract 14 16)] (by rfl) rfl rfl (by (try simp only [List.map_toArray, List.map_cons, List.map_nil]); first | done | rfl | (simp only [List.length_drop, List.length_take]; rfl)) ?_
            with_reducible refine (montageref41_number.calls k (a0.extract 14 16) t256 _ A17.out).mono ?_
            rintro e w' ⟨rfl, ⟨nd, rfl⟩⟩
            refine ⟨_, rfl, ?_⟩
            refine hK.out _ _ trivial (fun hHeld => ?_)
            clear hK K
            refine norm_ (a' := ?_) ?_ ?_
            rotate_left
            · show Act.put _ (some 23) _ = _
              simp only [Act.put, List.setIfInBounds_toArray, List.set_cons_zero, List.set_cons_succ, i64_w, i32_w]
              rfl
            exact norm_ (by first | (simp only [putAll, Act.put, List.setIfInBounds_toArray, List.set_cons_zero, List.set_cons_succ]; done) | (simp only [putAll, Act.put, List.setIfInBounds_toArray, List.set_cons_zero, List.set_cons_succ]; rfl)) (hJ2_5_8_11_14_19 (gb258) _ ⟨(by (with_reducible repeat (first | refine blk_drewN ?_ _ | refine blk_drew ?_ | refine blk_alloc ?_ _)); exact BK251.out), (by (with_reducible repeat (first | refine blk_drewN ?_ _ | refine blk_drew ?_ | refine blk_alloc ?_ _)); exact BK258.out), GW258.out, GE258.out, NB251_258.out, NB258_251.out, (by repeat (first | (with_reducible first | exact HB.out | apply below_alloc | apply pw_below_drewN | apply below_drew1 | refine below_set ?_ GE251.out | refine below_set ?_ GE258.out) | exact HB.out))⟩)
        · skip
          rintro _ w26 ⟨h0_, h1_⟩
          have n0_ : Aside0 (w26.heap[gb251]? = some (.cells #[.int .i64 0, .int .i64 0, .int .i64 0, .int .i64 0, .int .i64 0, .int .i64 0] 38 (0, 0))) := ⟨h0_⟩
          have n1_ : Aside0 (Below w.heap.size w w26) := ⟨h1_⟩
          clear BK251
          clear HB
          clear h0_ h1_
          have BK251 := n0_
          have HB := n1_
          clear n0_ n1_
          have hHeld := trivial
          refine norm_ (a' := ?_) ?_ ?_
          rotate_left
          · simp only [putAll, Act.put, List.setIfInBounds_toArray, List.set_cons_zero, List.set_cons_succ]
            rfl
          refine two_ (i := 17) (j := 19) (Ni := some 26) (Nj := some 4) #[true, true, true, true, true, true, true, true, true, true, true, true, true, true, true, true, true, true, false, false, false] #[true, true, true, true, true, true, true, true, true, true, true, true, true, true, true, true, true, false, false, true, false] rfl rfl rfl rfl (two_of HT_.out (by kernel_rfl)) (by decide) (by decide) (fun K hK => ?_) (fun K hK => ?_)
          · skip
            refine goes_ Tryd.func88 (by kernel_rfl) rfl #[.string (a0.extract 17 a0.size)] (by rfl) rfl rfl (by (try simp only [List.map_toArray, List.map_cons, List.map_nil]); first | done | rfl | (simp only [List.length_drop, List.length_take]; rfl)) ?_
            with_reducible refine (montageref41_number.calls k (a0.extract 17 a0.size) t257 _ A19.out).mono ?_
            rintro e w' ⟨rfl, ⟨nd, rfl⟩⟩
            refine ⟨_, rfl, ?_⟩
            refine hK.out _ _ trivial (fun hHeld => ?_)
            clear hK K
            refine norm_ (a' := ?_) ?_ ?_
            rotate_left
            · show Act.put _ (some 26) _ = _
              simp only [Act.put, List.setIfInBounds_toArray, List.set_cons_zero, List.set_cons_succ, i64_w, i32_w]
              rfl
            refine pure_ (i := 18) (N := some 27) (v := ?_) (a' := ?_) #[true, true, true, true, true, true, true, true, true, true, true, true, true, true, true, true, true, true, true, false, false] rfl rfl (any_of HT_.out (by kernel_rfl)) (fun _ _ _ h => h) (Or.inl ⟨by rfl, ?_⟩) ?_ ?_
            rotate_left
            · intro w'
              go_simp
              with_reducible rfl
            rotate_left
            · simp only [Act.put, List.setIfInBounds_toArray, List.set_cons_zero, List.set_cons_succ, i64_w, i32_w]
              rfl
            exact norm_ (by first | (simp only [putAll, Act.put, List.setIfInBounds_toArray, List.set_cons_zero, List.set_cons_succ]; done) | (simp only [putAll, Act.put, List.setIfInBounds_toArray, List.set_cons_zero, List.set_cons_succ]; rfl)) (hJ2_5_8_11_14_17 () _ ⟨(by (with_reducible repeat (first | refine blk_drewN ?_ _ | refine blk_drew ?_ | refine blk_alloc ?_ _)); exact BK251.out), (by repeat (first | (with_reducible first | exact HB.out | apply below_alloc | apply pw_below_drewN | apply below_drew1 | refine below_set ?_ GE251.out) | exact HB.out))⟩)
          · skip
            refine box_step ?hg (N := 4) ?hd (cs := #[.int .i64 0, .int .i64 0, .int .i64 0, .int .i64 0, .int .i64 0, .int .i64 0]) (t := 38) ?hr ?_; (case hd => rfl); (case hg => rfl); (case hr => first | (go_simp; done) | (go_simp; rfl))
            intro gb258 hg w27 hbox hb
            have n0_ := Aside0.mk (blk_below (g := gb251) (o := .cells #[.int .i64 0, .int .i64 0, .int .i64 0, .int .i64 0, .int .i64 0, .int .i64 0] 38 (0, 0)) (by (with_reducible repeat (first | refine blk_drewN ?_ _ | refine blk_drew ?_ | refine blk_alloc ?_ _)); exact BK251.out) hb)
            have n1_ := Aside0.mk (below_step (by repeat (first | (with_reducible first | exact HB.out | apply below_alloc | apply pw_below_drewN | apply below_drew1 | refine below_set ?_ GE251.out) | exact HB.out)) hb)
            have n2_ := Aside0.mk (hbox)
            have n3_ := Aside0.mk ((by rw [hg]; exact (below_size (by repeat (first | (with_reducible first | exact HB.out | apply below_alloc | apply pw_below_drewN | apply below_drew1 | refine below_set ?_ GE251.out) | exact HB.out))) : w.heap.size ≤ gb258))
            have n4_ := Aside0.mk ((by rw [hg]; exact (below_size (by repeat (first | (with_reducible first | exact HB.out | apply below_alloc | apply pw_below_drewN | apply below_drew1 | refine below_set ?_ GE251.out) | exact HB.out))) : w.heap.size ≤ gb258))
            have n5_ := Aside0.mk ((by rw [hg]; exact Nat.ne_of_lt (blk_lt (g := gb251) (o := .cells #[.int .i64 0, .int .i64 0, .int .i64 0, .int .i64 0, .int .i64 0, .int .i64 0] 38 (0, 0)) (by (with_reducible repeat (first | refine blk_drewN ?_ _ | refine blk_drew ?_ | refine blk_alloc ?_ _)); exact BK251.out)) : gb251 ≠ gb258))
            have n6_ := Aside0.mk ((by rw [hg]; exact Nat.ne_of_gt (blk_lt (g := gb251) (o := .cells #[.int .i64 0, .int .i64 0, .int .i64 0, .int .i64 0, .int .i64 0, .int .i64 0] 38 (0, 0)) (by (with_reducible repeat (first | refine blk_drewN ?_ _ | refine blk_drew ?_ | refine blk_alloc ?_ _)); exact BK251.out)) : gb258 ≠ gb251))
            clear BK251
            clear HB
            have BK251 := n0_
            have HB := n1_
            have BK258 := n2_
            have GW258 := n3_
            have GE258 := n4_
            have NB251_258 := n5_
            have NB258_251 := n6_
            clear n0_ n1_ n2_ n3_ n4_ n5_ n6_
            clear hb hbox hg
            refine hK.out _ _ trivial (fun hHeld => ?_)
            clear hK K
            refine norm_ (a' := ?_) ?_ ?_
            rotate_left
            · show Act.put _ (some 4) _ = _
              simp only [Act.put, List.setIfInBounds_toArray, List.set_cons_zero, List.set_cons_succ, i64_w, i32_w]
              rfl
            exact norm_ (by first | (simp only [putAll, Act.put, List.setIfInBounds_toArray, List.set_cons_zero, List.set_cons_succ]; done) | (simp only [putAll, Act.put, List.setIfInBounds_toArray, List.set_cons_zero, List.set_cons_succ]; rfl)) (hJ2_5_8_11_14_19 (gb258) _ ⟨(by (with_reducible repeat (first | refine blk_drewN ?_ _ | refine blk_drew ?_ | refine blk_alloc ?_ _)); exact BK251.out), (by (with_reducible repeat (first | refine blk_drewN ?_ _ | refine blk_drew ?_ | refine blk_alloc ?_ _)); exact BK258.out), GW258.out, GE258.out, NB251_258.out, NB258_251.out, (by repeat (first | (with_reducible first | exact HB.out | apply below_alloc | apply pw_below_drewN | apply below_drew1 | refine below_set ?_ GE251.out | refine below_set ?_ GE258.out) | exact HB.out))⟩)
      · skip
        rintro gb258 w27 ⟨h0_, h1_, h2_, h3_, h4_, h5_, h6_⟩
        have n0_ : Aside0 (w27.heap[gb251]? = some (.cells #[.int .i64 0, .int .i64 0, .int .i64 0, .int .i64 0, .int .i64 0, .int .i64 0] 38 (0, 0))) := ⟨h0_⟩
        have n1_ : Aside0 (w27.heap[gb258]? = some (.cells #[.int .i64 0, .int .i64 0, .int .i64 0, .int .i64 0, .int .i64 0, .int .i64 0] 38 (0, 0))) := ⟨h1_⟩
        have n2_ : Aside0 (w.heap.size ≤ gb258) := ⟨h2_⟩
        have n3_ : Aside0 (w.heap.size ≤ gb258) := ⟨h3_⟩
        have n4_ : Aside0 (gb251 ≠ gb258) := ⟨h4_⟩
        have n5_ : Aside0 (gb258 ≠ gb251) := ⟨h5_⟩
        have n6_ : Aside0 (Below w.heap.size w w27) := ⟨h6_⟩
        clear BK251
        clear HB
        clear h0_ h1_ h2_ h3_ h4_ h5_ h6_
        have BK251 := n0_
        have BK258 := n1_
        have GW258 := n2_
        have GE258 := n3_
        have NB251_258 := n4_
        have NB258_251 := n5_
        have HB := n6_
        clear n0_ n1_ n2_ n3_ n4_ n5_ n6_
        have hHeld := trivial
        refine norm_ (a' := ?_) ?_ ?_
        rotate_left
        · simp only [putAll, Act.put, List.setIfInBounds_toArray, List.set_cons_zero, List.set_cons_succ]
          rfl
        refine one_ (i := 17) (N := some 26) #[true, true, true, true, true, true, true, true, true, true, true, true, true, true, true, true, true, true, false, true, false] rfl rfl (one_of HT_.out (by kernel_rfl)) (by decide) (fun K hK => ?_)
        refine goes_ Tryd.func88 (by kernel_rfl) rfl #[.string (a0.extract 17 a0.size)] (by rfl) rfl rfl (by (try simp only [List.map_toArray, List.map_cons, List.map_nil]); first | done | rfl | (simp only [List.length_drop, List.length_take]; rfl)) ?_
        with_reducible refine (montageref41_number.calls k (a0.extract 17 a0.size) t257 _ A19.out).mono ?_
        rintro e w' ⟨rfl, ⟨nd, rfl⟩⟩
        refine ⟨_, rfl, ?_⟩
        refine hK.out _ _ trivial (fun hHeld => ?_)
        clear hK K
        refine norm_ (a' := ?_) ?_ ?_
        rotate_left
        · show Act.put _ (some 26) _ = _
          simp only [Act.put, List.setIfInBounds_toArray, List.set_cons_zero, List.set_cons_succ, i64_w, i32_w]
          rfl
        refine pure_ (i := 18) (N := some 27) (v := ?_) (a' := ?_) #[true, true, true, true, true, true, true, true, true, true, true, true, true, true, true, true, true, true, true, true, false] rfl rfl (any_of HT_.out (by kernel_rfl)) (fun _ _ _ h => h) (Or.inl ⟨by rfl, ?_⟩) ?_ ?_
        rotate_left
        · intro w'
          go_simp
          with_reducible rfl
        rotate_left
        · simp only [Act.put, List.setIfInBounds_toArray, List.set_cons_zero, List.set_cons_succ, i64_w, i32_w]
          rfl
        exact norm_ (by first | (simp only [putAll, Act.put, List.setIfInBounds_toArray, List.set_cons_zero, List.set_cons_succ]; done) | (simp only [putAll, Act.put, List.setIfInBounds_toArray, List.set_cons_zero, List.set_cons_succ]; rfl)) (hJ2_5_8_11_14_17_19 (gb258) _ ⟨(by (with_reducible repeat (first | refine blk_drewN ?_ _ | refine blk_drew ?_ | refine blk_alloc ?_ _)); exact BK251.out), (by (with_reducible repeat (first | refine blk_drewN ?_ _ | refine blk_drew ?_ | refine blk_alloc ?_ _)); exact BK258.out), GW258.out, GE258.out, NB251_258.out, NB258_251.out, (by repeat (first | (with_reducible first | exact HB.out | apply below_alloc | apply pw_below_drewN | apply below_drew1 | refine below_set ?_ GE251.out | refine below_set ?_ GE258.out) | exact HB.out))⟩)
    · skip
      rintro _ w26 ⟨h0_, h1_⟩
      have n0_ : Aside0 (w26.heap[gb251]? = some (.cells #[.int .i64 0, .int .i64 0, .int .i64 0, .int .i64 0, .int .i64 0, .int .i64 0] 38 (0, 0))) := ⟨h0_⟩
      have n1_ : Aside0 (Below w.heap.size w w26) := ⟨h1_⟩
      clear BK251
      clear HB
      clear h0_ h1_
      have BK251 := n0_
      have HB := n1_
      clear n0_ n1_
      have hHeld := trivial
      refine norm_ (a' := ?_) ?_ ?_
      rotate_left
      · simp only [putAll, Act.put, List.setIfInBounds_toArray, List.set_cons_zero, List.set_cons_succ]
        rfl
      refine one_ (i := 19) (N := some 4) #[true, true, true, true, true, true, true, true, true, true, true, true, true, true, true, true, true, true, true, true, false] rfl rfl (one_of HT_.out (by kernel_rfl)) (by decide) (fun K hK => ?_)
      refine box_step ?hg (N := 4) ?hd (cs := #[.int .i64 0, .int .i64 0, .int .i64 0, .int .i64 0, .int .i64 0, .int .i64 0]) (t := 38) ?hr ?_; (case hd => rfl); (case hg => rfl); (case hr => first | (go_simp; done) | (go_simp; rfl))
      intro gb258 hg w27 hbox hb
      have n0_ := Aside0.mk (blk_below (g := gb251) (o := .cells #[.int .i64 0, .int .i64 0, .int .i64 0, .int .i64 0, .int .i64 0, .int .i64 0] 38 (0, 0)) (by (with_reducible repeat (first | refine blk_drewN ?_ _ | refine blk_drew ?_ | refine blk_alloc ?_ _)); exact BK251.out) hb)
      have n1_ := Aside0.mk (below_step (by repeat (first | (with_reducible first | exact HB.out | apply below_alloc | apply pw_below_drewN | apply below_drew1 | refine below_set ?_ GE251.out) | exact HB.out)) hb)
      have n2_ := Aside0.mk (hbox)
      have n3_ := Aside0.mk ((by rw [hg]; exact (below_size (by repeat (first | (with_reducible first | exact HB.out | apply below_alloc | apply pw_below_drewN | apply below_drew1 | refine below_set ?_ GE251.out) | exact HB.out))) : w.heap.size ≤ gb258))
      have n4_ := Aside0.mk ((by rw [hg]; exact (below_size (by repeat (first | (with_reducible first | exact HB.out | apply below_alloc | apply pw_below_drewN | apply below_drew1 | refine below_set ?_ GE251.out) | exact HB.out))) : w.heap.size ≤ gb258))
      have n5_ := Aside0.mk ((by rw [hg]; exact Nat.ne_of_lt (blk_lt (g := gb251) (o := .cells #[.int .i64 0, .int .i64 0, .int .i64 0, .int .i64 0, .int .i64 0, .int .i64 0] 38 (0, 0)) (by (with_reducible repeat (first | refine blk_drewN ?_ _ | refine blk_drew ?_ | refine blk_alloc ?_ _)); exact BK251.out)) : gb251 ≠ gb258))
      have n6_ := Aside0.mk ((by rw [hg]; exact Nat.ne_of_gt (blk_lt (g := gb251) (o := .cells #[.int .i64 0, .int .i64 0, .int .i64 0, .int .i64 0, .int .i64 0, .int .i64 0] 38 (0, 0)) (by (with_reducible repeat (first | refine blk_drewN ?_ _ | refine blk_drew ?_ | refine blk_alloc ?_ _)); exact BK251.out)) : gb258 ≠ gb251))
      clear BK251
      clear HB
      have BK251 := n0_
      have HB := n1_
      have BK258 := n2_
      have GW258 := n3_
      have GE258 := n4_
      have NB251_258 := n5_
      have NB258_251 := n6_
      clear n0_ n1_ n2_ n3_ n4_ n5_ n6_
      clear hb hbox hg
      refine hK.out _ _ trivial (fun hHeld => ?_)
      clear hK K
      refine norm_ (a' := ?_) ?_ ?_
      rotate_left
      · show Act.put _ (some 4) _ = _
        simp only [Act.put, List.setIfInBounds_toArray, List.set_cons_zero, List.set_cons_succ, i64_w, i32_w]
        rfl
      exact norm_ (by first | (simp only [putAll, Act.put, List.setIfInBounds_toArray, List.set_cons_zero, List.set_cons_succ]; done) | (simp only [putAll, Act.put, List.setIfInBounds_toArray, List.set_cons_zero, List.set_cons_succ]; rfl)) (hJ2_5_8_11_14_17_19 (gb258) _ ⟨(by (with_reducible repeat (first | refine blk_drewN ?_ _ | refine blk_drew ?_ | refine blk_alloc ?_ _)); exact BK251.out), (by (with_reducible repeat (first | refine blk_drewN ?_ _ | refine blk_drew ?_ | refine blk_alloc ?_ _)); exact BK258.out), GW258.out, GE258.out, NB251_258.out, NB258_251.out, (by repeat (first | (with_reducible first | exact HB.out | apply below_alloc | apply pw_below_drewN | apply below_drew1 | refine below_set ?_ GE251.out | refine below_set ?_ GE258.out) | exact HB.out))⟩)
  rintro gb258 w27 ⟨h0_, h1_, h2_, h3_, h4_, h5_, h6_⟩
  have n0_ : Aside0 (w27.heap[gb251]? = some (.cells #[.int .i64 0, .int .i64 0, .int .i64 0, .int .i64 0, .int .i64 0, .int .i64 0] 38 (0, 0))) := ⟨h0_⟩
  have n1_ : Aside0 (w27.heap[gb258]? = some (.cells #[.int .i64 0, .int .i64 0, .int .i64 0, .int .i64 0, .int .i64 0, .int .i64 0] 38 (0, 0))) := ⟨h1_⟩
  have n2_ : Aside0 (w.heap.size ≤ gb258) := ⟨h2_⟩
  have n3_ : Aside0 (w.heap.size ≤ gb258) := ⟨h3_⟩
  have n4_ : Aside0 (gb251 ≠ gb258) := ⟨h4_⟩
  have n5_ : Aside0 (gb258 ≠ gb251) := ⟨h5_⟩
  have n6_ : Aside0 (Below w.heap.size w w27) := ⟨h6_⟩
  clear BK251
  clear HB
  clear h0_ h1_ h2_ h3_ h4_ h5_ h6_
  have BK251 := n0_
  have BK258 := n1_
  have GW258 := n2_
  have GE258 := n3_
  have NB251_258 := n4_
  have NB258_251 := n5_
  have HB := n6_
  clear n0_ n1_ n2_ n3_ n4_ n5_ n6_
  have hHeld := trivial
  refine norm_ (a' := ?_) ?_ ?_
  rotate_left
  · simp only [putAll, Act.put, List.setIfInBounds_toArray, List.set_cons_zero, List.set_cons_succ]
    rfl
  refine one_ (i := 20) (N := none) #[true, true, true, true, true, true, true, true, true, true, true, true, true, true, true, true, true, true, true, true, true] rfl rfl (one_of HT_.out (by kernel_rfl)) (by decide) (fun K hK => ?_)
  have hs28 : w27.cell? ⟨gb258, 0, none⟩ = some (.int .i64 0) := (blk_cell BK258.out 0).trans rfl
  have hfs28 := blk_frozen BK258.out 0
  have hns28_0 := NB251_258.out
  have hms28_0 := NB258_251.out
  have hs29 : w27.cell? ⟨gb258, 1, none⟩ = some (.int .i64 0) := (blk_cell BK258.out 1).trans rfl
  have hfs29 := blk_frozen BK258.out 1
  have hns29_0 := NB251_258.out
  have hms29_0 := NB258_251.out
  have hs30 : w27.cell? ⟨gb258, 2, none⟩ = some (.int .i64 0) := (blk_cell BK258.out 2).trans rfl
  have hfs30 := blk_frozen BK258.out 2
  have hns30_0 := NB251_258.out
  have hms30_0 := NB258_251.out
  have hs31 : w27.cell? ⟨gb258, 3, none⟩ = some (.int .i64 0) := (blk_cell BK258.out 3).trans rfl
  have hfs31 := blk_frozen BK258.out 3
  have hns31_0 := NB251_258.out
  have hms31_0 := NB258_251.out
  have hs32 : w27.cell? ⟨gb258, 4, none⟩ = some (.int .i64 0) := (blk_cell BK258.out 4).trans rfl
  have hfs32 := blk_frozen BK258.out 4
  have hns32_0 := NB251_258.out
  have hms32_0 := NB258_251.out
  have hs33 : w27.cell? ⟨gb258, 5, none⟩ = some (.int .i64 0) := (blk_cell BK258.out 5).trans rfl
  have hfs33 := blk_frozen BK258.out 5
  have hns33_0 := NB251_258.out
  have hms33_0 := NB258_251.out
  refine skip_ (w1 := ?_) (by rfl) rfl ?_ ?_
  rotate_left
  · go_simp
    rfl
  refine hK.out _ _ trivial (fun hHeld => ?_)
  clear hK K
  refine done_ (done_of HT_.out (by kernel_rfl)) ?_
  have hnb34 := NB258_251.out
  have hnc34 := NB251_258.out
  have hcz35_0 : w27.cell? ⟨gb258, 0, none⟩ = some (.int .i64 0) := (blk_cell BK258.out 0).trans rfl
  have hcz35_1 : w27.cell? ⟨gb258, 1, none⟩ = some (.int .i64 0) := (blk_cell BK258.out 1).trans rfl
  have hcz35_2 : w27.cell? ⟨gb258, 2, none⟩ = some (.int .i64 0) := (blk_cell BK258.out 2).trans rfl
  have hcz35_3 : w27.cell? ⟨gb258, 3, none⟩ = some (.int .i64 0) := (blk_cell BK258.out 3).trans rfl
  have hcz35_4 : w27.cell? ⟨gb258, 4, none⟩ = some (.int .i64 0) := (blk_cell BK258.out 4).trans rfl
  have hcz35_5 : w27.cell? ⟨gb258, 5, none⟩ = some (.int .i64 0) := (blk_cell BK258.out 5).trans rfl
  have hfz35_0 := blk_frozen BK258.out 0
  have hfz35_1 := blk_frozen BK258.out 1
  have hfz35_2 := blk_frozen BK258.out 2
  have hfz35_3 := blk_frozen BK258.out 3
  have hfz35_4 := blk_frozen BK258.out 4
  have hfz35_5 := blk_frozen BK258.out 5
  cases t259 with
  | true =>
    have A22 := A22_.out rfl
    clear A22_
    by_cases c23 : t260.toList = a0.toList
    · have eok := hok.out.2 ⟨rfl, c23⟩
      subst eok
      clear hok
      have c23b0 : (t260.toList == a0.toList) = true := beq_iff_eq.mpr c23
      have c23b1 : (t260.toList != a0.toList) = false := bne_eq_false_iff_eq.mpr c23
      clear c23
      try go_wp2_with (first | ((with_reducible refine gate_callee (f := 34) rfl ?_); refine goesL_ (some 29) rfl rfl Tryd.func34 (by kernel_rfl) rfl #[.agg #[.int .i64 t252, .int .i64 t253, .int .i64 t254, .int .i64 t255, .int .i64 t256, .int .i64 t257]] rfl (by (try simp only [List.map_toArray, List.map_cons, List.map_nil]); first | done | rfl | (simp only [List.length_drop, List.length_take]; rfl)) ?_; (with_reducible refine (montageref41_May.calls k t252 t253 t254 t255 t256 t257 true _ A20.out).mono ?_); rintro e w36 ⟨rfl, hb⟩; refine ⟨_, rfl, ?_⟩; have n0_ := Aside0.mk (blk_below (g := gb251) (o := .cells #[.int .i64 0, .int .i64 0, .int .i64 0, .int .i64 0, .int .i64 0, .int .i64 0] 38 (0, 0)) (by (with_reducible repeat (first | refine blk_drewN ?_ _ | refine blk_drew ?_ | refine blk_alloc ?_ _)); refine blk_far ?_ NB251_258.out _; (with_reducible repeat (first | refine blk_drewN ?_ _ | refine blk_drew ?_ | refine blk_alloc ?_ _)); refine blk_far ?_ NB251_258.out _; (with_reducible repeat (first | refine blk_drewN ?_ _ | refine blk_drew ?_ | refine blk_alloc ?_ _)); refine blk_far ?_ NB251_258.out _; (with_reducible repeat (first | refine blk_drewN ?_ _ | refine blk_drew ?_ | refine blk_alloc ?_ _)); refine blk_far ?_ NB251_258.out _; (with_reducible repeat (first | refine blk_drewN ?_ _ | refine blk_drew ?_ | refine blk_alloc ?_ _)); refine blk_far ?_ NB251_258.out _; (with_reducible repeat (first | refine blk_drewN ?_ _ | refine blk_drew ?_ | refine blk_alloc ?_ _)); refine blk_far ?_ NB251_258.out _; (with_reducible repeat (first | refine blk_drewN ?_ _ | refine blk_drew ?_ | refine blk_alloc ?_ _)); exact BK251.out) hb); have n1_ := Aside0.mk (blk_below (g := gb258) (o := .cells #[.int .i64 t252, .int .i64 t253, .int .i64 t254, .int .i64 t255, .int .i64 t256, .int .i64 t257] 38 (0, 0)) (by (with_reducible repeat (first | refine blk_drewN ?_ _ | refine blk_drew ?_ | refine blk_alloc ?_ _)); refine blk_put (cs := #[.int .i64 t252, .int .i64 t253, .int .i64 t254, .int .i64 t255, .int .i64 t256, .int .i64 0]) ?_ 5 _ rfl; (with_reducible repeat (first | refine blk_drewN ?_ _ | refine blk_drew ?_ | refine blk_alloc ?_ _)); refine blk_put (cs := #[.int .i64 t252, .int .i64 t253, .int .i64 t254, .int .i64 t255, .int .i64 0, .int .i64 0]) ?_ 4 _ rfl; (with_reducible repeat (first | refine blk_drewN ?_ _ | refine blk_drew ?_ | refine blk_alloc ?_ _)); refine blk_put (cs := #[.int .i64 t252, .int .i64 t253, .int .i64 t254, .int .i64 0, .int .i64 0, .int .i64 0]) ?_ 3 _ rfl; (with_reducible repeat (first | refine blk_drewN ?_ _ | refine blk_drew ?_ | refine blk_alloc ?_ _)); refine blk_put (cs := #[.int .i64 t252, .int .i64 t253, .int .i64 0, .int .i64 0, .int .i64 0, .int .i64 0]) ?_ 2 _ rfl; (with_reducible repeat (first | refine blk_drewN ?_ _ | refine blk_drew ?_ | refine blk_alloc ?_ _)); refine blk_put (cs := #[.int .i64 t252, .int .i64 0, .int .i64 0, .int .i64 0, .int .i64 0, .int .i64 0]) ?_ 1 _ rfl; (with_reducible repeat (first | refine blk_drewN ?_ _ | refine blk_drew ?_ | refine blk_alloc ?_ _)); refine blk_put (cs := #[.int .i64 0, .int .i64 0, .int .i64 0, .int .i64 0, .int .i64 0, .int .i64 0]) ?_ 0 _ rfl; (with_reducible repeat (first | refine blk_drewN ?_ _ | refine blk_drew ?_ | refine blk_alloc ?_ _)); exact BK258.out) hb); have n2_ := Aside0.mk (below_step (by repeat (first | (with_reducible first | exact HB.out | apply below_alloc | apply pw_below_drewN | apply below_drew1 | refine below_set ?_ GE251.out | refine below_set ?_ GE258.out) | exact HB.out)) hb); clear BK251; clear BK258; clear HB; have BK251 := n0_; have BK258 := n1_; have HB := n2_; clear n0_ n1_ n2_; (try clear hb); (try clear hb2); (try clear hk); (try clear hi); have hcz37_0 : w36.cell? ⟨gb258, 0, none⟩ = some (.int .i64 t252) := (blk_cell BK258.out 0).trans rfl; have hcz37_1 : w36.cell? ⟨gb258, 1, none⟩ = some (.int .i64 t253) := (blk_cell BK258.out 1).trans rfl; have hcz37_2 : w36.cell? ⟨gb258, 2, none⟩ = some (.int .i64 t254) := (blk_cell BK258.out 2).trans rfl; have hcz37_3 : w36.cell? ⟨gb258, 3, none⟩ = some (.int .i64 t255) := (blk_cell BK258.out 3).trans rfl; have hcz37_4 : w36.cell? ⟨gb258, 4, none⟩ = some (.int .i64 t256) := (blk_cell BK258.out 4).trans rfl; have hcz37_5 : w36.cell? ⟨gb258, 5, none⟩ = some (.int .i64 t257) := (blk_cell BK258.out 5).trans rfl; have hfz37_0 := blk_frozen BK258.out 0; have hfz37_1 := blk_frozen BK258.out 1; have hfz37_2 := blk_frozen BK258.out 2; have hfz37_3 := blk_frozen BK258.out 3; have hfz37_4 := blk_frozen BK258.out 4; have hfz37_5 := blk_frozen BK258.out 5) | (go_at_call 37; (with_reducible refine (montageref41_Text.calls k t252 t253 t254 t255 t256 t257 t260 _ A22.out).mono ?_); rintro e w38 ⟨rfl, hb⟩; have n0_ := Aside0.mk (blk_below (g := gb251) (o := .cells #[.int .i64 0, .int .i64 0, .int .i64 0, .int .i64 0, .int .i64 0, .int .i64 0] 38 (0, 0)) (by (with_reducible repeat (first | refine blk_drewN ?_ _ | refine blk_drew ?_ | refine blk_alloc ?_ _)); exact BK251.out) hb); have n1_ := Aside0.mk (blk_below (g := gb258) (o := .cells #[.int .i64 t252, .int .i64 t253, .int .i64 t254, .int .i64 t255, .int .i64 t256, .int .i64 t257] 38 (0, 0)) (by (with_reducible repeat (first | refine blk_drewN ?_ _ | refine blk_drew ?_ | refine blk_alloc ?_ _)); exact BK258.out) hb); have n2_ := Aside0.mk (below_step (by repeat (first | (with_reducible first | exact HB.out | apply below_alloc | apply pw_below_drewN | apply below_drew1 | refine below_set ?_ GE251.out | refine below_set ?_ GE258.out) | exact HB.out)) hb); clear BK251; clear BK258; clear HB; have BK251 := n0_; have BK258 := n1_; have HB := n2_; clear n0_ n1_ n2_; (try clear hb); (try clear hb2); (try clear hk); (try clear hi); have hcz39_0 : w38.cell? ⟨gb258, 0, none⟩ = some (.int .i64 t252) := (blk_cell BK258.out 0).trans rfl; have hcz39_1 : w38.cell? ⟨gb258, 1, none⟩ = some (.int .i64 t253) := (blk_cell BK258.out 1).trans rfl; have hcz39_2 : w38.cell? ⟨gb258, 2, none⟩ = some (.int .i64 t254) := (blk_cell BK258.out 2).trans rfl; have hcz39_3 : w38.cell? ⟨gb258, 3, none⟩ = some (.int .i64 t255) := (blk_cell BK258.out 3).trans rfl; have hcz39_4 : w38.cell? ⟨gb258, 4, none⟩ = some (.int .i64 t256) := (blk_cell BK258.out 4).trans rfl; have hcz39_5 : w38.cell? ⟨gb258, 5, none⟩ = some (.int .i64 t257) := (blk_cell BK258.out 5).trans rfl; have hfz39_0 := blk_frozen BK258.out 0; have hfz39_1 := blk_frozen BK258.out 1; have hfz39_2 := blk_frozen BK258.out 2; have hfz39_3 := blk_frozen BK258.out 3; have hfz39_4 := blk_frozen BK258.out 4; have hfz39_5 := blk_frozen BK258.out 5; have hcz40_0 : w38.cell? ⟨gb251, 0, none⟩ = some (.int .i64 0) := (blk_cell BK251.out 0).trans rfl; have hcz40_1 : w38.cell? ⟨gb251, 1, none⟩ = some (.int .i64 0) := (blk_cell BK251.out 1).trans rfl; have hcz40_2 : w38.cell? ⟨gb251, 2, none⟩ = some (.int .i64 0) := (blk_cell BK251.out 2).trans rfl; have hcz40_3 : w38.cell? ⟨gb251, 3, none⟩ = some (.int .i64 0) := (blk_cell BK251.out 3).trans rfl; have hcz40_4 : w38.cell? ⟨gb251, 4, none⟩ = some (.int .i64 0) := (blk_cell BK251.out 4).trans rfl; have hcz40_5 : w38.cell? ⟨gb251, 5, none⟩ = some (.int .i64 0) := (blk_cell BK251.out 5).trans rfl; have hfz40_0 := blk_frozen BK251.out 0; have hfz40_1 := blk_frozen BK251.out 1; have hfz40_2 := blk_frozen BK251.out 2; have hfz40_3 := blk_frozen BK251.out 3; have hfz40_4 := blk_frozen BK251.out 4; have hfz40_5 := blk_frozen BK251.out 5))
      refine bodyPost_ret (results_ct rfl _ _ gb251 38 #[.int .i64 t252, .int .i64 t253, .int .i64 t254, .int .i64 t255, .int .i64 t256, .int .i64 t257] (0, 0) _ rfl (by (with_reducible repeat (first | refine blk_drewN ?_ _ | refine blk_drew ?_ | refine blk_alloc ?_ _)); refine blk_put (cs := #[.int .i64 t252, .int .i64 t253, .int .i64 t254, .int .i64 t255, .int .i64 t256, .int .i64 0]) ?_ 5 _ rfl; (with_reducible repeat (first | refine blk_drewN ?_ _ | refine blk_drew ?_ | refine blk_alloc ?_ _)); refine blk_put (cs := #[.int .i64 t252, .int .i64 t253, .int .i64 t254, .int .i64 t255, .int .i64 0, .int .i64 0]) ?_ 4 _ rfl; (with_reducible repeat (first | refine blk_drewN ?_ _ | refine blk_drew ?_ | refine blk_alloc ?_ _)); refine blk_put (cs := #[.int .i64 t252, .int .i64 t253, .int .i64 t254, .int .i64 0, .int .i64 0, .int .i64 0]) ?_ 3 _ rfl; (with_reducible repeat (first | refine blk_drewN ?_ _ | refine blk_drew ?_ | refine blk_alloc ?_ _)); refine blk_put (cs := #[.int .i64 t252, .int .i64 t253, .int .i64 0, .int .i64 0, .int .i64 0, .int .i64 0]) ?_ 2 _ rfl; (with_reducible repeat (first | refine blk_drewN ?_ _ | refine blk_drew ?_ | refine blk_alloc ?_ _)); refine blk_put (cs := #[.int .i64 t252, .int .i64 0, .int .i64 0, .int .i64 0, .int .i64 0, .int .i64 0]) ?_ 1 _ rfl; (with_reducible repeat (first | refine blk_drewN ?_ _ | refine blk_drew ?_ | refine blk_alloc ?_ _)); refine blk_put (cs := #[.int .i64 0, .int .i64 0, .int .i64 0, .int .i64 0, .int .i64 0, .int .i64 0]) ?_ 0 _ rfl; (with_reducible repeat (first | refine blk_drewN ?_ _ | refine blk_drew ?_ | refine blk_alloc ?_ _)); exact BK251.out) Tryd.underlying38 rfl (by kernel_rfl)) rfl ?_
      exact ⟨by first | rfl | (simp [errW_none, errW_some] <;> rfl) | (simp [*, errW_none, errW_some] <;> rfl), by repeat (first | (with_reducible first | exact HB.out | apply below_alloc | apply pw_below_drewN | apply below_drew1 | refine below_set ?_ GE251.out | refine below_set ?_ GE258.out) | exact HB.out)⟩
    · have eok : ok = false := Bool.eq_false_iff.mpr (fun e => c23 (hok.out.1 e).2)
      subst eok
      clear hok
      have c23b0 : (t260.toList == a0.toList) = false := beq_eq_false_iff_ne.mpr c23
      have c23b1 : (t260.toList != a0.toList) = true := bne_iff_ne.mpr c23
      clear c23
      try go_wp2_with (first | ((with_reducible refine gate_callee (f := 34) rfl ?_); refine goesL_ (some 29) rfl rfl Tryd.func34 (by kernel_rfl) rfl #[.agg #[.int .i64 t252, .int .i64 t253, .int .i64 t254, .int .i64 t255, .int .i64 t256, .int .i64 t257]] rfl (by (try simp only [List.map_toArray, List.map_cons, List.map_nil]); first | done | rfl | (simp only [List.length_drop, List.length_take]; rfl)) ?_; (with_reducible refine (montageref41_May.calls k t252 t253 t254 t255 t256 t257 true _ A20.out).mono ?_); rintro e w53 ⟨rfl, hb⟩; refine ⟨_, rfl, ?_⟩; have n0_ := Aside0.mk (blk_below (g := gb251) (o := .cells #[.int .i64 0, .int .i64 0, .int .i64 0, .int .i64 0, .int .i64 0, .int .i64 0] 38 (0, 0)) (by (with_reducible repeat (first | refine blk_drewN ?_ _ | refine blk_drew ?_ | refine blk_alloc ?_ _)); refine blk_far ?_ NB251_258.out _; (with_reducible repeat (first | refine blk_drewN ?_ _ | refine blk_drew ?_ | refine blk_alloc ?_ _)); refine blk_far ?_ NB251_258.out _; (with_reducible repeat (first | refine blk_drewN ?_ _ | refine blk_drew ?_ | refine blk_alloc ?_ _)); refine blk_far ?_ NB251_258.out _; (with_reducible repeat (first | refine blk_drewN ?_ _ | refine blk_drew ?_ | refine blk_alloc ?_ _)); refine blk_far ?_ NB251_258.out _; (with_reducible repeat (first | refine blk_drewN ?_ _ | refine blk_drew ?_ | refine blk_alloc ?_ _)); refine blk_far ?_ NB251_258.out _; (with_reducible repeat (first | refine blk_drewN ?_ _ | refine blk_drew ?_ | refine blk_alloc ?_ _)); refine blk_far ?_ NB251_258.out _; (with_reducible repeat (first | refine blk_drewN ?_ _ | refine blk_drew ?_ | refine blk_alloc ?_ _)); exact BK251.out) hb); have n1_ := Aside0.mk (blk_below (g := gb258) (o := .cells #[.int .i64 t252, .int .i64 t253, .int .i64 t254, .int .i64 t255, .int .i64 t256, .int .i64 t257] 38 (0, 0)) (by (with_reducible repeat (first | refine blk_drewN ?_ _ | refine blk_drew ?_ | refine blk_alloc ?_ _)); refine blk_put (cs := #[.int .i64 t252, .int .i64 t253, .int .i64 t254, .int .i64 t255, .int .i64 t256, .int .i64 0]) ?_ 5 _ rfl; (with_reducible repeat (first | refine blk_drewN ?_ _ | refine blk_drew ?_ | refine blk_alloc ?_ _)); refine blk_put (cs := #[.int .i64 t252, .int .i64 t253, .int .i64 t254, .int .i64 t255, .int .i64 0, .int .i64 0]) ?_ 4 _ rfl; (with_reducible repeat (first | refine blk_drewN ?_ _ | refine blk_drew ?_ | refine blk_alloc ?_ _)); refine blk_put (cs := #[.int .i64 t252, .int .i64 t253, .int .i64 t254, .int .i64 0, .int .i64 0, .int .i64 0]) ?_ 3 _ rfl; (with_reducible repeat (first | refine blk_drewN ?_ _ | refine blk_drew ?_ | refine blk_alloc ?_ _)); refine blk_put (cs := #[.int .i64 t252, .int .i64 t253, .int .i64 0, .int .i64 0, .int .i64 0, .int .i64 0]) ?_ 2 _ rfl; (with_reducible repeat (first | refine blk_drewN ?_ _ | refine blk_drew ?_ | refine blk_alloc ?_ _)); refine blk_put (cs := #[.int .i64 t252, .int .i64 0, .int .i64 0, .int .i64 0, .int .i64 0, .int .i64 0]) ?_ 1 _ rfl; (with_reducible repeat (first | refine blk_drewN ?_ _ | refine blk_drew ?_ | refine blk_alloc ?_ _)); refine blk_put (cs := #[.int .i64 0, .int .i64 0, .int .i64 0, .int .i64 0, .int .i64 0, .int .i64 0]) ?_ 0 _ rfl; (with_reducible repeat (first | refine blk_drewN ?_ _ | refine blk_drew ?_ | refine blk_alloc ?_ _)); exact BK258.out) hb); have n2_ := Aside0.mk (below_step (by repeat (first | (with_reducible first | exact HB.out | apply below_alloc | apply pw_below_drewN | apply below_drew1 | refine below_set ?_ GE251.out | refine below_set ?_ GE258.out) | exact HB.out)) hb); clear BK251; clear BK258; clear HB; have BK251 := n0_; have BK258 := n1_; have HB := n2_; clear n0_ n1_ n2_; (try clear hb); (try clear hb2); (try clear hk); (try clear hi); have hcz54_0 : w53.cell? ⟨gb258, 0, none⟩ = some (.int .i64 t252) := (blk_cell BK258.out 0).trans rfl; have hcz54_1 : w53.cell? ⟨gb258, 1, none⟩ = some (.int .i64 t253) := (blk_cell BK258.out 1).trans rfl; have hcz54_2 : w53.cell? ⟨gb258, 2, none⟩ = some (.int .i64 t254) := (blk_cell BK258.out 2).trans rfl; have hcz54_3 : w53.cell? ⟨gb258, 3, none⟩ = some (.int .i64 t255) := (blk_cell BK258.out 3).trans rfl; have hcz54_4 : w53.cell? ⟨gb258, 4, none⟩ = some (.int .i64 t256) := (blk_cell BK258.out 4).trans rfl; have hcz54_5 : w53.cell? ⟨gb258, 5, none⟩ = some (.int .i64 t257) := (blk_cell BK258.out 5).trans rfl; have hfz54_0 := blk_frozen BK258.out 0; have hfz54_1 := blk_frozen BK258.out 1; have hfz54_2 := blk_frozen BK258.out 2; have hfz54_3 := blk_frozen BK258.out 3; have hfz54_4 := blk_frozen BK258.out 4; have hfz54_5 := blk_frozen BK258.out 5) | (go_at_call 37; (with_reducible refine (montageref41_Text.calls k t252 t253 t254 t255 t256 t257 t260 _ A22.out).mono ?_); rintro e w55 ⟨rfl, hb⟩; have n0_ := Aside0.mk (blk_below (g := gb251) (o := .cells #[.int .i64 0, .int .i64 0, .int .i64 0, .int .i64 0, .int .i64 0, .int .i64 0] 38 (0, 0)) (by (with_reducible repeat (first | refine blk_drewN ?_ _ | refine blk_drew ?_ | refine blk_alloc ?_ _)); exact BK251.out) hb); have n1_ := Aside0.mk (blk_below (g := gb258) (o := .cells #[.int .i64 t252, .int .i64 t253, .int .i64 t254, .int .i64 t255, .int .i64 t256, .int .i64 t257] 38 (0, 0)) (by (with_reducible repeat (first | refine blk_drewN ?_ _ | refine blk_drew ?_ | refine blk_alloc ?_ _)); exact BK258.out) hb); have n2_ := Aside0.mk (below_step (by repeat (first | (with_reducible first | exact HB.out | apply below_alloc | apply pw_below_drewN | apply below_drew1 | refine below_set ?_ GE251.out | refine below_set ?_ GE258.out) | exact HB.out)) hb); clear BK251; clear BK258; clear HB; have BK251 := n0_; have BK258 := n1_; have HB := n2_; clear n0_ n1_ n2_; (try clear hb); (try clear hb2); (try clear hk); (try clear hi); have hcz56_0 : w55.cell? ⟨gb251, 0, none⟩ = some (.int .i64 0) := (blk_cell BK251.out 0).trans rfl; have hcz56_1 : w55.cell? ⟨gb251, 1, none⟩ = some (.int .i64 0) := (blk_cell BK251.out 1).trans rfl; have hcz56_2 : w55.cell? ⟨gb251, 2, none⟩ = some (.int .i64 0) := (blk_cell BK251.out 2).trans rfl; have hcz56_3 : w55.cell? ⟨gb251, 3, none⟩ = some (.int .i64 0) := (blk_cell BK251.out 3).trans rfl; have hcz56_4 : w55.cell? ⟨gb251, 4, none⟩ = some (.int .i64 0) := (blk_cell BK251.out 4).trans rfl; have hcz56_5 : w55.cell? ⟨gb251, 5, none⟩ = some (.int .i64 0) := (blk_cell BK251.out 5).trans rfl; have hfz56_0 := blk_frozen BK251.out 0; have hfz56_1 := blk_frozen BK251.out 1; have hfz56_2 := blk_frozen BK251.out 2; have hfz56_3 := blk_frozen BK251.out 3; have hfz56_4 := blk_frozen BK251.out 4; have hfz56_5 := blk_frozen BK251.out 5))
      refine bodyPost_ret (results_ct rfl _ _ gb251 38 #[.int .i64 0, .int .i64 0, .int .i64 0, .int .i64 0, .int .i64 0, .int .i64 0] (0, 0) _ rfl (by (with_reducible repeat (first | refine blk_drewN ?_ _ | refine blk_drew ?_ | refine blk_alloc ?_ _)); refine blk_put (cs := #[.int .i64 0, .int .i64 0, .int .i64 0, .int .i64 0, .int .i64 0, .int .i64 0]) ?_ 5 _ rfl; (with_reducible repeat (first | refine blk_drewN ?_ _ | refine blk_drew ?_ | refine blk_alloc ?_ _)); refine blk_put (cs := #[.int .i64 0, .int .i64 0, .int .i64 0, .int .i64 0, .int .i64 0, .int .i64 0]) ?_ 4 _ rfl; (with_reducible repeat (first | refine blk_drewN ?_ _ | refine blk_drew ?_ | refine blk_alloc ?_ _)); refine blk_put (cs := #[.int .i64 0, .int .i64 0, .int .i64 0, .int .i64 0, .int .i64 0, .int .i64 0]) ?_ 3 _ rfl; (with_reducible repeat (first | refine blk_drewN ?_ _ | refine blk_drew ?_ | refine blk_alloc ?_ _)); refine blk_put (cs := #[.int .i64 0, .int .i64 0, .int .i64 0, .int .i64 0, .int .i64 0, .int .i64 0]) ?_ 2 _ rfl; (with_reducible repeat (first | refine blk_drewN ?_ _ | refine blk_drew ?_ | refine blk_alloc ?_ _)); refine blk_put (cs := #[.int .i64 0, .int .i64 0, .int .i64 0, .int .i64 0, .int .i64 0, .int .i64 0]) ?_ 1 _ rfl; (with_reducible repeat (first | refine blk_drewN ?_ _ | refine blk_drew ?_ | refine blk_alloc ?_ _)); refine blk_put (cs := #[.int .i64 0, .int .i64 0, .int .i64 0, .int .i64 0, .int .i64 0, .int .i64 0]) ?_ 0 _ rfl; (with_reducible repeat (first | refine blk_drewN ?_ _ | refine blk_drew ?_ | refine blk_alloc ?_ _)); exact BK251.out) Tryd.underlying38 rfl (by kernel_rfl)) rfl ?_
      exact ⟨by first | rfl | (simp [errW_none, errW_some] <;> rfl) | (simp [*, errW_none, errW_some] <;> rfl), by repeat (first | (with_reducible first | exact HB.out | apply below_alloc | apply pw_below_drewN | apply below_drew1 | refine below_set ?_ GE251.out | refine below_set ?_ GE258.out) | exact HB.out)⟩
  | false =>
    have eok : ok = false := Bool.eq_false_iff.mpr (fun e => by have := (hok.out.1 e).1; cases this)
    subst eok
    clear hok A22_
    try go_wp2_with (first | ((with_reducible refine gate_callee (f := 34) rfl ?_); refine goesL_ (some 29) rfl rfl Tryd.func34 (by kernel_rfl) rfl #[.agg #[.int .i64 t252, .int .i64 t253, .int .i64 t254, .int .i64 t255, .int .i64 t256, .int .i64 t257]] rfl (by (try simp only [List.map_toArray, List.map_cons, List.map_nil]); first | done | rfl | (simp only [List.length_drop, List.length_take]; rfl)) ?_; (with_reducible refine (montageref41_May.calls k t252 t253 t254 t255 t256 t257 false _ A20.out).mono ?_); rintro e w69 ⟨rfl, hb⟩; refine ⟨_, rfl, ?_⟩; have n0_ := Aside0.mk (blk_below (g := gb251) (o := .cells #[.int .i64 0, .int .i64 0, .int .i64 0, .int .i64 0, .int .i64 0, .int .i64 0] 38 (0, 0)) (by (with_reducible repeat (first | refine blk_drewN ?_ _ | refine blk_drew ?_ | refine blk_alloc ?_ _)); refine blk_far ?_ NB251_258.out _; (with_reducible repeat (first | refine blk_drewN ?_ _ | refine blk_drew ?_ | refine blk_alloc ?_ _)); refine blk_far ?_ NB251_258.out _; (with_reducible repeat (first | refine blk_drewN ?_ _ | refine blk_drew ?_ | refine blk_alloc ?_ _)); refine blk_far ?_ NB251_258.out _; (with_reducible repeat (first | refine blk_drewN ?_ _ | refine blk_drew ?_ | refine blk_alloc ?_ _)); refine blk_far ?_ NB251_258.out _; (with_reducible repeat (first | refine blk_drewN ?_ _ | refine blk_drew ?_ | refine blk_alloc ?_ _)); refine blk_far ?_ NB251_258.out _; (with_reducible repeat (first | refine blk_drewN ?_ _ | refine blk_drew ?_ | refine blk_alloc ?_ _)); refine blk_far ?_ NB251_258.out _; (with_reducible repeat (first | refine blk_drewN ?_ _ | refine blk_drew ?_ | refine blk_alloc ?_ _)); exact BK251.out) hb); have n1_ := Aside0.mk (blk_below (g := gb258) (o := .cells #[.int .i64 t252, .int .i64 t253, .int .i64 t254, .int .i64 t255, .int .i64 t256, .int .i64 t257] 38 (0, 0)) (by (with_reducible repeat (first | refine blk_drewN ?_ _ | refine blk_drew ?_ | refine blk_alloc ?_ _)); refine blk_put (cs := #[.int .i64 t252, .int .i64 t253, .int .i64 t254, .int .i64 t255, .int .i64 t256, .int .i64 0]) ?_ 5 _ rfl; (with_reducible repeat (first | refine blk_drewN ?_ _ | refine blk_drew ?_ | refine blk_alloc ?_ _)); refine blk_put (cs := #[.int .i64 t252, .int .i64 t253, .int .i64 t254, .int .i64 t255, .int .i64 0, .int .i64 0]) ?_ 4 _ rfl; (with_reducible repeat (first | refine blk_drewN ?_ _ | refine blk_drew ?_ | refine blk_alloc ?_ _)); refine blk_put (cs := #[.int .i64 t252, .int .i64 t253, .int .i64 t254, .int .i64 0, .int .i64 0, .int .i64 0]) ?_ 3 _ rfl; (with_reducible repeat (first | refine blk_drewN ?_ _ | refine blk_drew ?_ | refine blk_alloc ?_ _)); refine blk_put (cs := #[.int .i64 t252, .int .i64 t253, .int .i64 0, .int .i64 0, .int .i64 0, .int .i64 0]) ?_ 2 _ rfl; (with_reducible repeat (first | refine blk_drewN ?_ _ | refine blk_drew ?_ | refine blk_alloc ?_ _)); refine blk_put (cs := #[.int .i64 t252, .int .i64 0, .int .i64 0, .int .i64 0, .int .i64 0, .int .i64 0]) ?_ 1 _ rfl; (with_reducible repeat (first | refine blk_drewN ?_ _ | refine blk_drew ?_ | refine blk_alloc ?_ _)); refine blk_put (cs := #[.int .i64 0, .int .i64 0, .int .i64 0, .int .i64 0, .int .i64 0, .int .i64 0]) ?_ 0 _ rfl; (with_reducible repeat (first | refine blk_drewN ?_ _ | refine blk_drew ?_ | refine blk_alloc ?_ _)); exact BK258.out) hb); have n2_ := Aside0.mk (below_step (by repeat (first | (with_reducible first | exact HB.out | apply below_alloc | apply pw_below_drewN | apply below_drew1 | refine below_set ?_ GE251.out | refine below_set ?_ GE258.out) | exact HB.out)) hb); clear BK251; clear BK258; clear HB; have BK251 := n0_; have BK258 := n1_; have HB := n2_; clear n0_ n1_ n2_; (try clear hb); (try clear hb2); (try clear hk); (try clear hi); have hcz70_0 : w69.cell? ⟨gb251, 0, none⟩ = some (.int .i64 0) := (blk_cell BK251.out 0).trans rfl; have hcz70_1 : w69.cell? ⟨gb251, 1, none⟩ = some (.int .i64 0) := (blk_cell BK251.out 1).trans rfl; have hcz70_2 : w69.cell? ⟨gb251, 2, none⟩ = some (.int .i64 0) := (blk_cell BK251.out 2).trans rfl; have hcz70_3 : w69.cell? ⟨gb251, 3, none⟩ = some (.int .i64 0) := (blk_cell BK251.out 3).trans rfl; have hcz70_4 : w69.cell? ⟨gb251, 4, none⟩ = some (.int .i64 0) := (blk_cell BK251.out 4).trans rfl; have hcz70_5 : w69.cell? ⟨gb251, 5, none⟩ = some (.int .i64 0) := (blk_cell BK251.out 5).trans rfl; have hfz70_0 := blk_frozen BK251.out 0; have hfz70_1 := blk_frozen BK251.out 1; have hfz70_2 := blk_frozen BK251.out 2; have hfz70_3 := blk_frozen BK251.out 3; have hfz70_4 := blk_frozen BK251.out 4; have hfz70_5 := blk_frozen BK251.out 5))
    refine bodyPost_ret (results_ct rfl _ _ gb251 38 #[.int .i64 0, .int .i64 0, .int .i64 0, .int .i64 0, .int .i64 0, .int .i64 0] (0, 0) _ rfl (by (with_reducible repeat (first | refine blk_drewN ?_ _ | refine blk_drew ?_ | refine blk_alloc ?_ _)); refine blk_put (cs := #[.int .i64 0, .int .i64 0, .int .i64 0, .int .i64 0, .int .i64 0, .int .i64 0]) ?_ 5 _ rfl; (with_reducible repeat (first | refine blk_drewN ?_ _ | refine blk_drew ?_ | refine blk_alloc ?_ _)); refine blk_put (cs := #[.int .i64 0, .int .i64 0, .int .i64 0, .int .i64 0, .int .i64 0, .int .i64 0]) ?_ 4 _ rfl; (with_reducible repeat (first | refine blk_drewN ?_ _ | refine blk_drew ?_ | refine blk_alloc ?_ _)); refine blk_put (cs := #[.int .i64 0, .int .i64 0, .int .i64 0, .int .i64 0, .int .i64 0, .int .i64 0]) ?_ 3 _ rfl; (with_reducible repeat (first | refine blk_drewN ?_ _ | refine blk_drew ?_ | refine blk_alloc ?_ _)); refine blk_put (cs := #[.int .i64 0, .int .i64 0, .int .i64 0, .int .i64 0, .int .i64 0, .int .i64 0]) ?_ 2 _ rfl; (with_reducible repeat (first | refine blk_drewN ?_ _ | refine blk_drew ?_ | refine blk_alloc ?_ _)); refine blk_put (cs := #[.int .i64 0, .int .i64 0, .int .i64 0, .int .i64 0, .int .i64 0, .int .i64 0]) ?_ 1 _ rfl; (with_reducible repeat (first | refine blk_drewN ?_ _ | refine blk_drew ?_ | refine blk_alloc ?_ _)); refine blk_put (cs := #[.int .i64 0, .int .i64 0, .int .i64 0, .int .i64 0, .int .i64 0, .int .i64 0]) ?_ 0 _ rfl; (with_reducible repeat (first | refine blk_drewN ?_ _ | refine blk_drew ?_ | refine blk_alloc ?_ _)); exact BK251.out) Tryd.underlying38 rfl (by kernel_rfl)) rfl ?_
    exact ⟨by first | rfl | (simp [errW_none, errW_some] <;> rfl) | (simp [*, errW_none, errW_some] <;> rfl), by repeat (first | (with_reducible first | exact HB.out | apply below_alloc | apply pw_below_drewN | apply below_drew1 | refine below_set ?_ GE251.out | refine below_set ?_ GE258.out) | exact HB.out)⟩
set_option maxHeartbeats 8000000 in
set_option maxRecDepth 100000 in
theorem refparse_no (a0 : ByteArray) (w : World) (c2 : ¬ (a0.size : Int) = 19) :
    Calls Tryd.prog 43 #[.string a0] w fun e w' => e = .returned (.tuple #[.agg #[.int .i64 0, .int .i64 0, .int .i64 0, .int .i64 0, .int .i64 0, .int .i64 0], .int .i64 2]) ∧ Below w.heap.size w w' := by
  have hu38 := Tryd.underlying38
  have HB := Aside0.mk (Below.refl w.heap.size w)
  have c2b0 : ((a0.size : Int) == 19) = false := beq_eq_false_iff_ne.mpr c2
  have c2b1 : ((a0.size : Int) != 19) = true := bne_iff_ne.mpr c2
  clear c2
  go_enter Tryd.func43, Tryd.ntmps43
  go_wp2_with (first | ((with_reducible refine gate_dst (N := 2) rfl ?_); refine box_event ?hg (N := 2) ?hd (cs := #[.int .i64 0, .int .i64 0, .int .i64 0, .int .i64 0, .int .i64 0, .int .i64 0]) (t := 38) ?hr ?_; (case hd => rfl); (case hg => rfl); (case hr => first | (go_simp; done) | (go_simp; rfl)); intro gb251 hg w71 hbox hb; have n0_ := Aside0.mk (below_step (by repeat (first | (with_reducible first | exact HB.out | apply below_alloc | apply pw_below_drewN | apply below_drew1) | exact HB.out)) hb); have n1_ := Aside0.mk (hbox); have n2_ := Aside0.mk ((by rw [hg]; exact (below_size (by repeat (first | (with_reducible first | exact HB.out | apply below_alloc | apply pw_below_drewN | apply below_drew1) | exact HB.out))) : w.heap.size ≤ gb251)); have n3_ := Aside0.mk ((by rw [hg]; exact (below_size (by repeat (first | (with_reducible first | exact HB.out | apply below_alloc | apply pw_below_drewN | apply below_drew1) | exact HB.out))) : w.heap.size ≤ gb251)); clear HB; have HB := n0_; have BK251 := n1_; have GW251 := n2_; have GE251 := n3_; clear n0_ n1_ n2_ n3_; clear hb hbox hg; have hcz72_0 : w71.cell? ⟨gb251, 0, none⟩ = some (.int .i64 0) := (blk_cell BK251.out 0).trans rfl; have hcz72_1 : w71.cell? ⟨gb251, 1, none⟩ = some (.int .i64 0) := (blk_cell BK251.out 1).trans rfl; have hcz72_2 : w71.cell? ⟨gb251, 2, none⟩ = some (.int .i64 0) := (blk_cell BK251.out 2).trans rfl; have hcz72_3 : w71.cell? ⟨gb251, 3, none⟩ = some (.int .i64 0) := (blk_cell BK251.out 3).trans rfl; have hcz72_4 : w71.cell? ⟨gb251, 4, none⟩ = some (.int .i64 0) := (blk_cell BK251.out 4).trans rfl; have hcz72_5 : w71.cell? ⟨gb251, 5, none⟩ = some (.int .i64 0) := (blk_cell BK251.out 5).trans rfl; have hfz72_0 := blk_frozen BK251.out 0; have hfz72_1 := blk_frozen BK251.out 1; have hfz72_2 := blk_frozen BK251.out 2; have hfz72_3 := blk_frozen BK251.out 3; have hfz72_4 := blk_frozen BK251.out 4; have hfz72_5 := blk_frozen BK251.out 5))
  refine bodyPost_ret (results_ct rfl _ _ gb251 38 #[.int .i64 0, .int .i64 0, .int .i64 0, .int .i64 0, .int .i64 0, .int .i64 0] (0, 0) _ rfl (by (with_reducible repeat (first | refine blk_drewN ?_ _ | refine blk_drew ?_ | refine blk_alloc ?_ _)); refine blk_put (cs := #[.int .i64 0, .int .i64 0, .int .i64 0, .int .i64 0, .int .i64 0, .int .i64 0]) ?_ 5 _ rfl; (with_reducible repeat (first | refine blk_drewN ?_ _ | refine blk_drew ?_ | refine blk_alloc ?_ _)); refine blk_put (cs := #[.int .i64 0, .int .i64 0, .int .i64 0, .int .i64 0, .int .i64 0, .int .i64 0]) ?_ 4 _ rfl; (with_reducible repeat (first | refine blk_drewN ?_ _ | refine blk_drew ?_ | refine blk_alloc ?_ _)); refine blk_put (cs := #[.int .i64 0, .int .i64 0, .int .i64 0, .int .i64 0, .int .i64 0, .int .i64 0]) ?_ 3 _ rfl; (with_reducible repeat (first | refine blk_drewN ?_ _ | refine blk_drew ?_ | refine blk_alloc ?_ _)); refine blk_put (cs := #[.int .i64 0, .int .i64 0, .int .i64 0, .int .i64 0, .int .i64 0, .int .i64 0]) ?_ 2 _ rfl; (with_reducible repeat (first | refine blk_drewN ?_ _ | refine blk_drew ?_ | refine blk_alloc ?_ _)); refine blk_put (cs := #[.int .i64 0, .int .i64 0, .int .i64 0, .int .i64 0, .int .i64 0, .int .i64 0]) ?_ 1 _ rfl; (with_reducible repeat (first | refine blk_drewN ?_ _ | refine blk_drew ?_ | refine blk_alloc ?_ _)); refine blk_put (cs := #[.int .i64 0, .int .i64 0, .int .i64 0, .int .i64 0, .int .i64 0, .int .i64 0]) ?_ 0 _ rfl; (with_reducible repeat (first | refine blk_drewN ?_ _ | refine blk_drew ?_ | refine blk_alloc ?_ _)); exact BK251.out) Tryd.underlying38 rfl (by kernel_rfl)) rfl ?_
  exact ⟨by first | rfl | (simp [errW_none, errW_some] <;> rfl) | (simp [*, errW_none, errW_some] <;> rfl), by repeat (first | (with_reducible first | exact HB.out | apply below_alloc | apply pw_below_drewN | apply below_drew1 | refine below_set ?_ GE251.out) | exact HB.out)⟩
def docParse (k : Nat) (a0 : ByteArray) (t252 t253 t254 t255 t256 t257 : Int) : Option (Int × Int × Int × Int × Int × Int × Int) := (montageref41_May.f k t252 t253 t254 t255 t256 t257).bind fun m => if m = true then (montageref41_Text.f k t252 t253 t254 t255 t256 t257).bind fun t => if t.toList = a0.toList then some (t252, t253, t254, t255, t256, t257, 0) else some (0, 0, 0, 0, 0, 0, 2) else some (0, 0, 0, 0, 0, 0, 2)
def montageref41_Parse.f (k : Nat) (a0 : ByteArray) : Option (Int × Int × Int × Int × Int × Int × Int) := if (a0.size : Int) = 19 then ((montageref41_number.f k (a0.extract 0 4)).bind fun t252 => (montageref41_number.f k (a0.extract 5 7)).bind fun t253 => (montageref41_number.f k (a0.extract 8 10)).bind fun t254 => (montageref41_number.f k (a0.extract 11 13)).bind fun t255 => (montageref41_number.f k (a0.extract 14 16)).bind fun t256 => (montageref41_number.f k (a0.extract 17 a0.size)).bind fun t257 => docParse k a0 t252 t253 t254 t255 t256 t257) else some (0, 0, 0, 0, 0, 0, 2)
theorem docParse_mono (k : Nat) (a0 : ByteArray) (t252 t253 t254 t255 t256 t257 : Int) : LeO (docParse k a0 t252 t253 t254 t255 t256 t257) (docParse (k + 1) a0 t252 t253 t254 t255 t256 t257) :=
  LeO.bind (montageref41_May.mono _ _ _ _ _ _ _) fun _ => LeO.ite (LeO.bind (montageref41_Text.mono _ _ _ _ _ _ _) fun _ => LeO.refl _) (LeO.refl _)
theorem montageref41_Parse.mono : ∀ a0 k, LeO (montageref41_Parse.f k a0) (montageref41_Parse.f (k + 1) a0) := by
  intro a0 k
  unfold montageref41_Parse.f
  exact LeO.ite (LeO.bind (montageref41_number.mono _ _) fun _ => LeO.bind (montageref41_number.mono _ _) fun _ => LeO.bind (montageref41_number.mono _ _) fun _ => LeO.bind (montageref41_number.mono _ _) fun _ => LeO.bind (montageref41_number.mono _ _) fun _ => LeO.bind (montageref41_number.mono _ _) fun _ => docParse_mono _ _ _ _ _ _ _ _) (LeO.refl _)
theorem montageref41_Parse.calls (k : Nat) (a0 : ByteArray) (r1 : Int) (r2 : Int) (r3 : Int) (r4 : Int) (r5 : Int) (r6 : Int) (r7 : Int) (w : World) (h : montageref41_Parse.f k a0 = some (r1, r2, r3, r4, r5, r6, r7)) :
    Calls Tryd.prog 43 #[.string a0] w fun e w' => e = .returned (.tuple #[.agg #[.int .i64 r1, .int .i64 r2, .int .i64 r3, .int .i64 r4, .int .i64 r5, .int .i64 r6], .int .i64 r7]) ∧ Below w.heap.size w w' := by
  unfold montageref41_Parse.f at h
  by_cases hs : (a0.size : Int) = 19
  · rw [if_pos hs] at h
    obtain ⟨z0, h0, h⟩ := Option.bind_eq_some_iff.1 h
    obtain ⟨z1, h1, h⟩ := Option.bind_eq_some_iff.1 h
    obtain ⟨z2, h2, h⟩ := Option.bind_eq_some_iff.1 h
    obtain ⟨z3, h3, h⟩ := Option.bind_eq_some_iff.1 h
    obtain ⟨z4, h4, h⟩ := Option.bind_eq_some_iff.1 h
    obtain ⟨z5, h5, h⟩ := Option.bind_eq_some_iff.1 h
    unfold docParse at h
    obtain ⟨m, hm, h⟩ := Option.bind_eq_some_iff.1 h
    cases m with
    | true =>
      rw [if_pos rfl] at h
      obtain ⟨t, ht, h⟩ := Option.bind_eq_some_iff.1 h
      by_cases he : t.toList = a0.toList
      · rw [if_pos he] at h
        have h6 := Option.some.inj h
        simp only [Prod.mk.injEq] at h6
        obtain ⟨rfl, rfl, rfl, rfl, rfl, rfl, rfl⟩ := h6
        exact refparse_19 k a0 _ _ _ _ _ _ true t w hs ⟨h0⟩ ⟨h1⟩ ⟨h2⟩ ⟨h3⟩ ⟨h4⟩ ⟨h5⟩ ⟨hm⟩ (fun _ => ⟨ht⟩) true ⟨⟨fun _ => ⟨rfl, he⟩, fun _ => rfl⟩⟩
      · rw [if_neg he] at h
        have h6 := Option.some.inj h
        simp only [Prod.mk.injEq] at h6
        obtain ⟨rfl, rfl, rfl, rfl, rfl, rfl, rfl⟩ := h6
        exact refparse_19 k a0 _ _ _ _ _ _ true t w hs ⟨h0⟩ ⟨h1⟩ ⟨h2⟩ ⟨h3⟩ ⟨h4⟩ ⟨h5⟩ ⟨hm⟩ (fun _ => ⟨ht⟩) false ⟨⟨fun e => (by cases e), fun e => absurd e.2 he⟩⟩
    | false =>
      rw [if_neg (by simp)] at h
      have h6 := Option.some.inj h
      simp only [Prod.mk.injEq] at h6
      obtain ⟨rfl, rfl, rfl, rfl, rfl, rfl, rfl⟩ := h6
      exact refparse_19 k a0 _ _ _ _ _ _ false a0 w hs ⟨h0⟩ ⟨h1⟩ ⟨h2⟩ ⟨h3⟩ ⟨h4⟩ ⟨h5⟩ ⟨hm⟩ (fun e => (by cases e)) false ⟨⟨fun e => (by cases e), fun e => (by cases e.1)⟩⟩
  · rw [if_neg hs] at h
    have h6 := Option.some.inj h
    simp only [Prod.mk.injEq] at h6
    obtain ⟨rfl, rfl, rfl, rfl, rfl, rfl, rfl⟩ := h6
    exact refparse_no a0 w hs


end Go.Proofs.YtdaofffedfccmaaDoor.XClockDates
