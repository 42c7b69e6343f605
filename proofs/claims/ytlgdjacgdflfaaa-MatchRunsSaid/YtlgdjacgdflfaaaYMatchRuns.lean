/- MatchRuns: the walk of the law. It has no conditions. -/
import Derived.Test.YtlgdjacgdflfaaaYMatchLaw
import Derived.Test.YtlgdjacgdflfaaaYMatchRun
namespace Go.Proofs.Ytlgdjacgdflfaaa.XMatchTokens
set_option linter.unusedVariables false
set_option linter.unusedSimpArgs false
open Go.RowKit Go.Proofs.YtlgdjacgdflfaaaW.PrintWords Go.Proofs.YtlgdjacgdflfaaaW.PrintLast Go.Proofs.YtlgdjacgdflfaaaW.PrintMore
attribute [local go_sem ↓] Go.wp_at_zero Go.wp_at_succ
def rowU (n : Nat) (f : Nat → Int) : Array Value := ((List.range n).map fun i => Value.int .u8 (f i)).toArray
theorem rowU_get (n : Nat) (f : Nat → Int) (i : Nat) (h : i < n) : (rowU n f)[i]? = some (.int .u8 (f i)) := by
  unfold rowU
  rw [List.getElem?_toArray, List.getElem?_map, List.getElem?_range h]
  rfl
theorem rowU_set (n : Nat) (f : Nat → Int) (i : Nat) (x : Int) : (rowU n f).setIfInBounds i (.int .u8 x) = rowU n (upd f i x) := by
  apply Array.ext'
  apply List.ext_getElem
  · simp [rowU]
  · intro j h1 h2
    simp [rowU] at h1 h2
    simp [rowU, upd, List.getElem_set]
    by_cases h : i = j
    · subst h; simp
    · rw [if_neg h, if_neg (fun e => h e.symm)]
theorem rowU_made (m : Nat) : madeCells #[Value.int .u8 0] m = rowU m (fun _ => 0) := by
  apply Array.ext'
  have hl : (madeCells #[Value.int .u8 0] m).toList = nums .u8 (List.replicate m 0) := by
    apply List.ext_getElem
    · simp [nums, madeCells]
    · intro i h1 h2
      simp [nums, madeCells, Nat.mod_one]
  rw [hl]
  apply List.ext_getElem
  · simp [nums, rowU]
  · intro i h1 h2
    simp [nums, rowU]
theorem rowU_congr (n : Nat) (f g : Nat → Int) (h : ∀ i, i < n → f i = g i) : rowU n f = rowU n g := by
  unfold rowU
  congr 1
  apply List.map_congr_left
  intro i hi
  rw [h i (by simpa using hi)]
theorem rowU_reads (W : World) (g n : Nat) (c : Int) (hn : n ≤ 100000) (h : W.heap[g]? = some (.cells (rowU n (fun _ => c)) 5 (0, 0))) : ReadsInt W .u8 (some ⟨g, 0, none⟩) n (List.replicate n c) := by
  refine ⟨by simp, by omega, fun _ => ⟨_, rfl, fun j hj => ?_⟩⟩
  have ha : (⟨g, 0, none⟩ : Addr).add j = ⟨g, j, none⟩ := by unfold Addr.add; split <;> simp_all
  rw [ha]
  refine ((blk_cell h j).trans (rowU_get _ _ _ hj)).trans ?_
  rw [List.getD_eq_getElem?_getD, List.getElem?_replicate, if_pos hj]
  rfl
theorem updc (c : Int) (k : Nat) : upd (fun i => if i < k then c else 0) k c = fun i => if i < k + 1 then c else 0 := by
  funext i
  unfold upd
  by_cases h : i = k
  · rw [if_pos h, if_pos (by omega)]
  · rw [if_neg h]
    show (if i < k then c else 0) = _
    by_cases h2 : i < k
    · rw [if_pos h2, if_pos (by omega)]
    · rw [if_neg h2, if_neg (by omega)]
set_option maxHeartbeats 3200000 in
set_option maxRecDepth 100000 in
theorem matchRuns_main (c n lv : Int) (hc : 0 ≤ c ∧ c < 256) (hn : 0 ≤ n ∧ n < 65536) (hlv : 0 ≤ lv ∧ lv < 256) (w : World) :
    Calls Try.prog 8 #[.int .u8 c, .int .u16 n, .int .u8 lv] w fun e w' => e = .returned (.bool true) ∧ Below w.heap.size w w' := by
  obtain ⟨k, hk⟩ := Int.eq_ofNat_of_zero_le (Int.emod_nonneg n (show (5001 : Int) ≠ 0 by decide))
  have hk5 : k ≤ 5000 := by have := Int.emod_lt_of_pos n (show (0 : Int) < 5001 by decide); omega
  have hkt : Int.tmod (wrap64 n) 5001 = (k : Int) := by rw [w64 (by omega) (by omega), Int.tmod_eq_emod_of_nonneg hn.1]; exact hk
  have hl3 : Int.tmod lv 3 = 0 ∨ Int.tmod lv 3 = 1 ∨ Int.tmod lv 3 = 2 := by rw [Int.tmod_eq_emod_of_nonneg hlv.1]; omega
  obtain ⟨S, hS⟩ : ∃ S, strOfNums (List.replicate k c) = S := ⟨_, rfl⟩
  have hsz : S.size = k := by rw [← hS, str_size]; simp
  have hone : One S c := fun i hi => by
    rw [← hS, str_get _ _ (by rw [← hS, str_size] at hi; exact hi) (fun b hb => by rw [List.eq_of_mem_replicate hb]; exact hc)]
    rw [List.getD_eq_getElem?_getD, List.getElem?_replicate, if_pos (by rw [hsz] at hi; exact hi)]
    rfl
  have SS := Aside0.mk hS
  have SZ := Aside0.mk hsz
  have ON := Aside0.mk hone
  have hmk : ∀ W : World, (Instr.makeSlice 45 (.int .i64 (k : Int)) (.int .i64 (k : Int))).run Try.prog W = .ok (.slice (some ⟨W.heap.size, 0, none⟩) k k) (W.alloc (.cells (rowU k (fun _ => 0)) 5)) := by
    have h := print_make (P := Try.prog) 45 5 .u8 1 Try.underlying45 info5 (by omega) k (by omega)
    rw [rowU_made] at h
    exact h
  have b1 : (k : Int) ≤ 5000 := by omega
  have b0 : 0 ≤ (k : Int) := by omega
  clear hS hsz hone hk hn hlv hc
  rcases hl3 with t3 | t3 | t3
  all_goals
    go_enter Try.func8, Try.ntmps8
    go_wp2_with fail
    refine (awake_match w).mono ?_
    rintro e w1 ⟨rfl, hb⟩
    have HB := Aside0.mk hb
    clear hb
    go_wp2_with fail
    have F0 := Aside0.mk (heap_alloc_new w1 (.cells (rowU k (fun _ => 0)) 5))
    have HB0 := Aside0.mk (below_alloc HB.out (.cells (rowU k (fun _ => 0)) 5))
    have GG := Aside0.mk (below_size HB.out)
    generalize w1.alloc (.cells (rowU k (fun _ => 0)) 5) = W0 at F0 HB0 ⊢
    generalize w1.heap.size = gb at F0 GG ⊢
    clear HB hmk hkt
    go_loopw [9, 23] (fun v9 v23 wr => ∃ j : Nat, j ≤ k ∧ v23 = .int .i64 (j : Int) ∧ Aside0 (wr.heap[gb]? = some (.cells (rowU k (fun i => if i < j then c else 0)) 5 (0, 0))) ∧ Aside0 (Below w.heap.size w wr)) (fun _ v23 _ => k - (intOf v23).toNat)
    case atStart => exact ⟨0, by omega, rfl, ⟨by simpa using F0.out⟩, HB0⟩
    case round =>
      clear F0 HB0
      obtain ⟨j, hj, rfl, F, HB⟩ := hrel
      by_cases hlt : j < k
      · have c0 : decide (j < k) = true := decide_eq_true hlt
        have c1 : decide ((j : Int) < (k : Int)) = true := decide_eq_true (by omega)
        have hcl : wr.cell? ⟨gb, j, none⟩ = some (.int .u8 (if j < j then c else 0)) := (blk_cell F.out j).trans (rowU_get _ _ _ hlt)
        have hfl := blk_frozen F.out j
        have x1 : 0 ≤ (j : Int) := by omega
        have x2 : (j : Int) < (k : Int) := by omega
        clear hlt hj
        go_wp2_with fail
        go_roundw
        case rel => exact ⟨j + 1, by omega, by go_num, ⟨by rw [← updc, ← rowU_set]; exact blk_set F.out j _⟩, ⟨below_set HB.out GG.out⟩⟩
        case measure => simp [intOf]; omega
      · have c0 : decide (j < k) = false := decide_eq_false hlt
        have c1 : decide ((j : Int) < (k : Int)) = false := decide_eq_false (by omega)
        have FC := Aside0.mk (show wr.heap[gb]? = some (.cells (rowU k (fun _ => c)) 5 (0, 0)) from by rw [rowU_congr k (fun _ => c) (fun i => if i < j then c else 0) (fun i hi => (if_pos (by omega)).symm)]; exact F.out)
        have hcv : (convert 45 9 (.slice (some ⟨gb, 0, none⟩) k k)).run Try.prog wr = .ok (.string S) wr := by
          have h := string_of_reads (P := Try.prog) (src := 45) (dst := 9) (c := k) Try.underlying45 Try.underlying5 Try.underlying9 (rowU_reads wr gb k c (by omega) FC.out)
          rw [SS.out] at h
          exact h
        have tw1 := tokens_walk 1 (by omega) S (by have := SZ.out; omega)
        rw [show ((1 : Nat) : Int) = (1 : Int) from rfl] at tw1
        have TW1 := Aside0.mk tw1
        have tw2 := tokens_walk 2 (by omega) S (by have := SZ.out; omega)
        rw [show ((2 : Nat) : Int) = (2 : Int) from rfl] at tw2
        have TW2 := Aside0.mk tw2
        have tw3 := tokens_walk 3 (by omega) S (by have := SZ.out; omega)
        rw [show ((3 : Nat) : Int) = (3 : Int) from rfl] at tw3
        have TW3 := Aside0.mk tw3
        clear hlt hj F tw1 tw2 tw3
        go_wp2_with fail
        (first | (with_reducible refine (TW1.out wr).mono ?_) | (with_reducible refine (TW2.out wr).mono ?_) | (with_reducible refine (TW3.out wr).mono ?_))
        rintro e w2 ⟨A, cc, l, LL, AA, rfl, hR, hc, hC, hb⟩
        obtain ⟨⟨ke, hke⟩, _, _, _⟩ := run_says hR (by have := SZ.out; omega)
        have hcnt := run_count (by omega) ON.out hR
        rw [SZ.out] at hcnt hke
        have l1 : decide ((l.length : Int) ≤ 4 + (k : Int) / 258) = true := decide_eq_true (by omega)
        have HE := Aside0.mk hke
        have HC := Aside0.mk hC
        have HCc := Aside0.mk hc
        have HB2 := Aside0.mk (below_step HB.out hb)
        have FC2 := Aside0.mk (blk_below FC.out hb)
        clear hR hc hC hb hke hcnt TW1 TW2 TW3 hcv FC HB
        go_wp2_with fail
        refine (montageref07_Expand.calls ke A cc l _ S 0 _ HC.out HCc.out HE.out).mono ?_
        rintro e w3 ⟨rfl, hb⟩
        have HB3 := Aside0.mk (below_step HB2.out hb)
        have FC3 := Aside0.mk (blk_below FC2.out hb)
        clear hb
        have hcv : (convert 45 9 (.slice (some ⟨gb, 0, none⟩) k k)).run Try.prog w3 = .ok (.string S) w3 := by
          have h := string_of_reads (P := Try.prog) (src := 45) (dst := 9) (c := k) Try.underlying45 Try.underlying5 Try.underlying9 (rowU_reads w3 gb k c (by omega) FC3.out)
          rw [SS.out] at h
          exact h
        go_wp2
        go_ret
        exact ⟨rfl, HB3.out⟩
theorem matchRuns_walk (c n lv : Int) (w : World) (hc : (Lit.int .u8 c).wf = true) (hn : (Lit.int .u16 n).wf = true) (hl : (Lit.int .u8 lv).wf = true) :
    Calls Try.prog 8 #[.int .u8 c, .int .u16 n, .int .u8 lv] w fun e w' => e = .returned (.bool true) ∧ Below w.heap.size w w' := by
  have wf : ∀ c : Int, (Lit.int .u8 c).wf = true → 0 ≤ c ∧ c < 256 := by
    intro c h
    simp only [Lit.wf, IntKind.min, IntKind.max, IntKind.signed, IntKind.bits, Bool.and_eq_true, decide_eq_true_eq] at h
    simp at h
    omega
  refine matchRuns_main c n lv (wf c hc) ?_ (wf lv hl) w
  simp only [Lit.wf, IntKind.min, IntKind.max, IntKind.signed, IntKind.bits, Bool.and_eq_true, decide_eq_true_eq] at hn
  simp at hn
  omega
end Go.Proofs.Ytlgdjacgdflfaaa.XMatchTokens
