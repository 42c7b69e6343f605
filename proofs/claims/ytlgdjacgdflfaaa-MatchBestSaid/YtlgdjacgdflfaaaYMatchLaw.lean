/- MatchTokens: the walk of the law; the law's first lines (awake). It has no conditions. -/
import Derived.Test.YtlgdjacgdflfaaaYMatchPure
namespace Go.Proofs.Ytlgdjacgdflfaaa.XMatchTokens
set_option linter.unusedVariables false
set_option linter.unusedSimpArgs false
open Go.RowKit Go.Proofs.YtlgdjacgdflfaaaW.PrintWords Go.Proofs.YtlgdjacgdflfaaaW.PrintLast Go.Proofs.YtlgdjacgdflfaaaW.PrintMore
attribute [local go_sem ↓] Go.wp_at_zero Go.wp_at_succ
theorem best_awake : match_Best.f 300 ⟨#[97, 98, 99, 97, 98, 99, 97, 98]⟩ 3 = some (5, 3) := by kernel_rfl
set_option maxHeartbeats 800000 in
set_option maxRecDepth 100000 in
theorem awake_match (w : World) : Calls Try.prog 25 #[] w fun e w' => e = .returned (.bool true) ∧ Below w.heap.size w w' := by
  have TW := Aside0.mk (tokens_walk 1 (by omega) ⟨#[97, 98, 99, 97, 98, 99, 97, 98]⟩ (by decide))
  go_enter Try.func25, Try.ntmps25
  go_wp2_with fail
  refine (match_Best.calls 300 ⟨#[97, 98, 99, 97, 98, 99, 97, 98]⟩ 3 5 3 _ best_awake).mono ?_
  rintro e w1 ⟨rfl, hb1⟩
  have HB1 := Aside0.mk hb1
  clear hb1
  go_wp2_with fail
  refine (TW.out w1).mono ?_
  rintro e w2 ⟨A, c, l, LL, AA, rfl, hR, hc, hC, hb⟩
  obtain ⟨_, ⟨ks, hks⟩, _, hpos⟩ := run_says hR (by decide)
  have hl0 : 0 < l.length := hpos (by decide)
  have l1 : decide (0 < l.length) = true := decide_eq_true hl0
  have l2 : decide (0 < (l.length : Int)) = true := decide_eq_true (by omega)
  have HK := Aside0.mk hks
  have HC := Aside0.mk hC
  have HCc := Aside0.mk hc
  have HB := Aside0.mk (below_step HB1.out hb)
  clear hR hc hC hb hks hpos TW
  go_wp2_with fail
  refine (match_Size.calls ks A c l _ _ HC.out HCc.out HK.out).mono ?_
  rintro e w3 ⟨rfl, hb3⟩
  have HB3 := Aside0.mk (below_step HB.out hb3)
  clear hb3
  go_wp2
  go_ret
  exact ⟨rfl, HB3.out⟩
theorem tokens_bad (S : ByteArray) (n : Int) (h : n < 0 ∨ 3 < n) (w : World) : Calls Try.prog 28 #[.string S, .int .i64 n] w fun e w' => e = .returned (.tuple #[.slice none 0 0, .int .i64 1]) ∧ w' = w := by
  by_cases h1 : n < 0
  · have d0 : decide (n < 0) = true := decide_eq_true h1
    clear h
    go_enter Try.func28, Try.ntmps28
    go_wp2
    go_ret2
    exact ⟨rfl, rfl⟩
  · have d0 : decide (n < 0) = false := decide_eq_false h1
    have d1 : decide (3 < n) = true := decide_eq_true (by omega)
    clear h
    go_enter Try.func28, Try.ntmps28
    go_wp2
    go_ret2
    exact ⟨rfl, rfl⟩

set_option maxHeartbeats 800000 in
set_option maxRecDepth 100000 in
theorem tokens_great (S : ByteArray) (n : Int) (hS : 600 < S.size) (w : World) : Calls Try.prog 7 #[.string S, .int .i64 n] w fun e w' => e = .returned (.bool true) ∧ Below w.heap.size w w' := by
  have d0 : decide (600 < (S.size : Int)) = true := decide_eq_true (by omega)
  go_enter Try.func7, Try.ntmps7
  go_wp2_with fail
  refine (awake_match w).mono ?_
  rintro e w1 ⟨rfl, hb⟩
  have HB := Aside0.mk hb
  clear hb
  go_wp2
  go_ret
  exact ⟨rfl, HB.out⟩
set_option maxHeartbeats 800000 in
set_option maxRecDepth 100000 in
theorem tokens_off (S : ByteArray) (n : Int) (hS : S.size ≤ 600) (hn : n < 0 ∨ 3 < n) (w : World) : Calls Try.prog 7 #[.string S, .int .i64 n] w fun e w' => e = .returned (.bool true) ∧ Below w.heap.size w w' := by
  have d0 : decide (600 < (S.size : Int)) = false := decide_eq_false (by omega)
  have TB := Aside0.mk (tokens_bad S n hn)
  have hd : decide (n < 0) = true ∨ (decide (n < 0) = false ∧ decide (3 < n) = true) := by
    by_cases h1 : n < 0
    · exact .inl (decide_eq_true h1)
    · exact .inr ⟨decide_eq_false h1, decide_eq_true (by omega)⟩
  clear hn
  rcases hd with d1 | ⟨d1, d2⟩
  all_goals
    go_enter Try.func7, Try.ntmps7
    go_wp2_with fail
    refine (awake_match w).mono ?_
    rintro e w1 ⟨rfl, hb⟩
    have HB := Aside0.mk hb
    clear hb
    go_wp2_with fail
    refine (TB.out w1).mono ?_
    rintro e w2 ⟨rfl, rfl⟩
    go_wp2
    go_ret
    exact ⟨rfl, HB.out⟩
set_option maxHeartbeats 1600000 in
set_option maxRecDepth 100000 in
theorem tokens_small (S : ByteArray) (level : Nat) (hl : level ≤ 3) (hS : S.size ≤ 600) (w : World) : Calls Try.prog 7 #[.string S, .int .i64 (level : Int)] w fun e w' => e = .returned (.bool true) ∧ Below w.heap.size w w' := by
  have d0 : decide (600 < (S.size : Int)) = false := decide_eq_false (by omega)
  have d1 : decide ((level : Int) < 0) = false := decide_eq_false (by omega)
  have d2 : decide (3 < (level : Int)) = false := decide_eq_false (by omega)
  have TW := Aside0.mk (tokens_walk level hl S (by omega))
  have b0 : 0 ≤ (level : Int) := by omega
  go_enter Try.func7, Try.ntmps7
  go_wp2_with fail
  refine (awake_match w).mono ?_
  rintro e w1 ⟨rfl, hb⟩
  have HB := Aside0.mk hb
  clear hb
  go_wp2_with fail
  refine (TW.out w1).mono ?_
  rintro e w2 ⟨A, c, l, LL, AA, rfl, hR, hc, hC, hb⟩
  obtain ⟨⟨ke, hke⟩, ⟨ks, hks⟩, hle, hpos⟩ := run_says hR (by omega)
  have hz : level = 0 → l.length = S.size := fun e => by subst e; exact run_zero hR
  have l1 : decide (S.size < l.length) = false := decide_eq_false (by omega)
  have l2 : decide ((S.size : Int) < (l.length : Int)) = false := decide_eq_false (by omega)
  have hz2 : decide (0 < (level : Int)) = true ∨ (decide (0 < (level : Int)) = false ∧ ((l.length : Int) == (S.size : Int)) = true) := by
    by_cases h : level = 0
    · exact .inr ⟨decide_eq_false (by omega), beq_iff_eq.mpr (by have := hz h; omega)⟩
    · exact .inl (decide_eq_true (by omega))
  have HE := Aside0.mk hke
  have HK := Aside0.mk hks
  have HC := Aside0.mk hC
  have HCc := Aside0.mk hc
  have HB2 := Aside0.mk (below_step HB.out hb)
  clear hR hc hC hb hke hks hpos hle hz TW HB
  rcases hz2 with e1 | ⟨e1, e2⟩
  · have e0 : decide (0 < level) = true := by simpa using e1
    go_wp2_with fail
    refine (montageref07_Expand.calls ke A c l _ S 0 _ HC.out HCc.out HE.out).mono ?_
    rintro e w3 ⟨rfl, hb⟩
    have HB3 := Aside0.mk (below_step HB2.out hb)
    have HC3 := Aside0.mk (Kd.C_below HC.out hb)
    clear hb
    go_wp2_with fail
    refine (match_Size.calls ks A c l _ _ HC3.out HCc.out HK.out).mono ?_
    rintro e w4 ⟨rfl, hb⟩
    have HB4 := Aside0.mk (below_step HB3.out hb)
    clear hb
    go_wp2
    go_ret
    exact ⟨rfl, HB4.out⟩
  · have e0 : decide (0 < level) = false := by simpa using e1
    have E2 := Aside0.mk e2
    clear e2
    go_wp2_with fail
    refine (montageref07_Expand.calls ke A c l _ S 0 _ HC.out HCc.out HE.out).mono ?_
    rintro e w3 ⟨rfl, hb⟩
    have HB3 := Aside0.mk (below_step HB2.out hb)
    have HC3 := Aside0.mk (Kd.C_below HC.out hb)
    clear hb
    go_wp2_with fail
    refine (match_Size.calls ks A c l _ _ HC3.out HCc.out HK.out).mono ?_
    rintro e w4 ⟨rfl, hb⟩
    have HB4 := Aside0.mk (below_step HB3.out hb)
    clear hb
    go_wp2
    go_ret
    refine ⟨?_, HB4.out⟩
    show Ending.returned (.bool ((l.length : Int) == (S.size : Int))) = _
    rw [E2.out]
theorem matchTokens_walk (S : ByteArray) (n : Int) (w : World) (hs : S.size ≤ 140737488351232) (hn : (Lit.int .i64 n).wf = true) : Calls Try.prog 7 #[.string S, .int .i64 n] w fun e w' => e = .returned (.bool true) ∧ Below w.heap.size w w' := by
  by_cases h : S.size ≤ 600
  · by_cases h2 : n < 0 ∨ 3 < n
    · exact tokens_off S n h h2 w
    · obtain ⟨k, rfl⟩ : ∃ k : Nat, n = k := ⟨n.toNat, by omega⟩
      exact tokens_small S k (by omega) h w
  · exact tokens_great S n (by omega) w
end Go.Proofs.Ytlgdjacgdflfaaa.XMatchTokens
