/- the document: a stream It has no conditions. -/
import Derived.Test.YtmanmjjjepdhlaaYInfR9
import Derived.Test.YtmanmjjjepdhlaaYIC
import Derived.BigRegion
import Derived.RegionTactic
import Derived.ChangeAlike
import Derived.Deep.RegionWith
import Derived.Deep.RegionLaw
import Derived.Laws.Tables
import Derived.Deep.QuietTactic
import Derived.BigQuiet
import Derived.Deep.RegionHeld3
import Derived.Deep.AppendLies
import Derived.Deep.DrawnRows
import Derived.Laws.CopyOwn
import Derived.Deep.MidRow
import Derived.Laws.ResultCell
import Derived.ChangeKeysEq
import Derived.Laws.BitsAllLaws
namespace Go.Proofs.Ytmanmjjjepdhlaa.XPrefix
set_option linter.unusedVariables false
set_option linter.unusedSimpArgs false
open Go.RowKit Go.Proofs.YtmanmjjjepdhlaaW.PrintWords Go.Proofs.YtmanmjjjepdhlaaW.PrintLast Go.Proofs.YtmanmjjjepdhlaaW.PrintMore
attribute [local go_sem] max2_int min2_int max_two min_two max_three min_three max_four min_four

open XInflateAny XTok
theorem results_tmp4 {fn : Func} {t u v x : Tmp} (h : fn.results = #[.tmp t, .tmp u, .tmp v, .tmp x]) (tmps : Array Value) (P : Program) (w : World) :
    (results fn tmps).run P w = .ok (.tuple #[tmps.getD t undef, tmps.getD u undef, tmps.getD v undef, tmps.getD x undef]) w := by
  simp [results, h]
def RSPost (w : World) (R : Except Int (Nat × List Int × List Int)) (e : Ending) (w' : World) : Prop :=
  ∃ vk, e = .returned (.tuple #[.string (strS R).1, .int .i64 (strS R).2.1, vk, .int .i64 (strS R).2.2]) ∧ Kd.R (Kd.int .i64) 3 w' w.heap.size (fun _ => True) vk (kindS R).1 ∧ Below w.heap.size w w'
set_option maxHeartbeats 4000000 in
set_option maxRecDepth 100000 in
theorem rstream_calls (S : ByteArray) (Z : Nat) (most : Int) (w : World) (hZ : IsZ S Z) (hS : S.size ≤ 100000) :
    Calls Try.prog 24 #[.string S, .int .i64 most] w fun e w' => RSPost w (decS S Z most) e w' := by
  unfold decS
  obtain ⟨mm, hmm⟩ : ∃ mm, mostS most = mm := ⟨_, rfl⟩
  have hm4 : mm ≤ 4194304 := by rw [← hmm]; unfold mostS; split <;> omega
  obtain ⟨ko, hko⟩ := (ref_of S Z (by omega) hZ.2).rounds
  have HKO := Aside0.mk hko
  rw [hmm]
  have HMM := Aside0.mk hmm
  clear hZ hmm hko
  go_enter Try.func24, Try.ntmps24
  by_cases hbig : most ≤ 4194304
  · have d0 : decide (4194304 < most) = false := decide_eq_false (by omega)
    obtain rfl : most = mm := by rw [← HMM.out]; unfold mostS; rw [if_neg (by omega)]
    go_wp2_with fail
    refine (montageref01_Of.calls ko S (bl Z (8 * S.size)) _ HKO.out).mono ?_
    rintro e w1 ⟨v0, rfl, hr0, hB1⟩
    obtain ⟨A0, c0, rfl, hcc, hC0⟩ := Kd.R_reads hr0
    rw [bl_len] at hcc hC0
    obtain ⟨N, hN⟩ : ∃ N, 8 * S.size = N := ⟨_, rfl⟩
    have hbl : (bl Z (8 * S.size)).length = N := by rw [bl_len, hN]
    rw [hbl]
    rw [hN] at hcc hC0
    have HNN := Aside0.mk hN
    have HB1 := Aside0.mk hB1
    have HC0 := Aside0.mk hC0
    have HCC := Aside0.mk hcc
    clear hr0 hB1 hC0 hbl hcc
    have HX1 := Aside0.mk (show IsR w1 (w1.alloc (.cells #[.slice A0 N c0, .int .i64 ((0 : Nat) : Int), .slice none 0 0, .int .i64 most, .slice none 0 0] 102)) w1.heap.size A0 c0 Z N 0 (.slice none 0 0) [] most (.slice none 0 0) [] from ⟨heap_alloc_new w1 _, Nat.le_refl _, HCC.out, HC0.out, Kd.own_of_R (enc := Value.int .u8) (h1 := fun _ => rfl) (Kd.R_nil (Kd.int .u8) 5 _ _ (fun _ => True)), Kd.own_of_R (enc := Value.int .i64) (h1 := fun _ => rfl) (Kd.R_nil (Kd.int .i64) 3 _ _ (fun _ => True)), below_alloc (Below.refl _ _) _⟩)
    obtain ⟨R, hR⟩ : ∃ R, streamS Z N most (N + 1) 0 [] [] = R := ⟨_, rfl⟩
    have HR := Aside0.mk hR
    have HSP := Aside0.mk (show ∀ e w', RSPost w R e w' → RSPost w (streamS Z (8 * S.size) most (8 * S.size + 1) 0 [] []) e w' from fun e w' h => by rw [hN, hR]; exact h)
    have hN8 : N ≤ 800000 := by omega
    have h8 : N % 8 = 0 := by omega
    clear hR hN
    go_wp2_with fail
    go_loopg [] (N + 1) (fun f wr => ∃ (p' : Nat) (vo' vk' : Value) (o' k' : List Int), Aside0 (IsR w1 wr w1.heap.size A0 c0 Z N p' vo' o' most vk' k') ∧ Aside0 (streamS Z N most f p' o' k' = R) ∧ Aside0 (p' ≤ N ∧ N < p' + f ∧ o'.length ≤ 4194304 ∧ k'.length ≤ p'))
    case atStart => exact ⟨0, _, _, [], [], HX1, HR, ⟨by omega, by omega, by simp, by simp⟩⟩
    case round =>
      clear HX1 HR
      obtain ⟨p', vo', vk', o', k', HX, HR, HP⟩ := hrel
      cases gk with
      | zero => exact absurd HP.out (by omega)
      | succ f =>
        have hR := HR.out
        rw [streamS] at hR
        have HBC := Aside0.mk (rblock_calls w1.heap.size A0 c0 Z N p' vo' vk' o' k' most w1 wr HX.out hN8 h8 HP.out.1 hm4 HP.out.2.2.1 (by have := HP.out; omega))
        unfold RBKPost at HBC
        obtain ⟨u, hu⟩ : ∃ u, Z / 2 ^ p' % 2 ^ 1 = u := ⟨_, rfl⟩
        obtain ⟨kd, hkd⟩ : ∃ kd, Z / 2 ^ (p' + 1) % 2 ^ 2 = kd := ⟨_, rfl⟩
        rw [hu, hkd] at HBC hR
        clear hu hkd HR
        go_wp2_with fail
        refine HBC.out.mono ?_
        rintro e w2 h2
        rcases h2 with ⟨er, b, hs, rfl, hb, hne⟩ | ⟨q, o2, vo2, vk2, n1, hs, rfl, hX2, hq, ho2⟩
        · have HB2 := Aside0.mk (below_step HB1.out hb)
          have H1 := Aside0.mk hne
          have HRE : Aside0 (R = .error er) := ⟨by
            rcases hs with ⟨a1, rfl⟩ | ⟨a1, a2⟩
            · rw [if_pos a1] at hR; exact hR.symm
            · rw [if_neg a1, a2] at hR; exact hR.symm⟩
          have q0 : (er == 0) = false := beq_eq_false_iff_ne.mpr hne
          have q1 : (er != 0) = true := bne_iff_ne.mpr hne
          clear hs hb hne hR HBC
          go_wp2
          (try simp only [Exit.inBlock, Exit.then])
          refine bodyPost_ret (results_tmp4 rfl _ _ _) rfl ?_
          exact HSP.out _ _ ⟨_, by rw [HRE.out]; rfl, by rw [HRE.out]; exact Kd.R_nil _ _ _ _ _, HB2.out⟩
        · rw [if_neg n1, hs] at hR
          have hR2 : (if u = 1 then Except.ok (q, o2, k' ++ [(kd : Int)]) else streamS Z N most f q o2 (k' ++ [(kd : Int)])) = R := hR
          have HQ := Aside0.mk (bodyS_q (by omega) hs)
          have HX2 := Aside0.mk hX2
          clear hs hR hX2 HBC
          by_cases hu1 : u = 1
          · rw [if_pos hu1] at hR2
            have HRO := Aside0.mk hR2
            have q2 : ((u : Int) == 1) = true := by rw [hu1]; rfl
            have q2b : (u == 1) = true := by rw [hu1]; rfl
            obtain ⟨A', c', rfl⟩ := own_form HX2.out.2.2.2.2.1
            have hc1 : w2.cell? ⟨w1.heap.size, 1, none⟩ = some (.int .i64 (q : Int)) := (blk_cell HX2.out.1 1).trans rfl
            have hc2 : w2.cell? ⟨w1.heap.size, 2, none⟩ = some (.slice A' o2.length c') := (blk_cell HX2.out.1 2).trans rfl
            have hc4 : w2.cell? ⟨w1.heap.size, 4, none⟩ = some vk2 := (blk_cell HX2.out.1 4).trans rfl
            have hcv := own_string (P := Try.prog) Try.underlying52 Try.underlying5 Try.underlying9 HX2.out.2.2.2.2.1
            have hcvd : (convert 52 9 (.slice A' o2.length c')).run Try.prog w2.drew = .ok (.string (strOfNums o2)) w2.drew := own_string (P := Try.prog) Try.underlying52 Try.underlying5 Try.underlying9 (show w2.drew.ownsRow w1.heap.size 5 1 (.slice A' o2.length c') o2.length (nums .u8 o2) from HX2.out.2.2.2.2.1)
            obtain ⟨y, hy⟩ : ∃ y : Int, (((q + 7) / 8 : Nat) : Int) = y := ⟨_, rfl⟩
            have w7 : IntKind.i64.wrap ((q : Int) + 7) = (q : Int) + 7 := by rw [i64_w]; unfold wrap64; omega
            have t8 : Int.tdiv ((q : Int) + 7) 8 = y := by rw [Int.tdiv_eq_ediv_of_nonneg (by omega), ← hy]; omega
            have t8b : ((q : Int) + 7) / 8 = y := by rw [← hy]; omega
            have w8 : IntKind.i64.wrap y = y := by rw [i64_w]; unfold wrap64; omega
            have HY := Aside0.mk hy
            clear hR2 hu1 hy
            go_wp2
            go_region
            all_goals
              go_wp2
              (try simp only [Exit.inBlock, Exit.then])
              refine bodyPost_ret (results_tmp4 rfl _ _ _) rfl ?_
              exact HSP.out _ _ ⟨_, by rw [← HRO.out]; unfold strS; dsimp only; rw [HY.out]; rfl, by rw [← HRO.out]; exact Kd.R_below (Kd.R_lower (Kd.R_of_own (enc := Value.int .i64) (h1 := fun _ => rfl) HX2.out.2.2.2.2.2.1 (fun _ _ => trivial)) HB1.out.size) (below_drew1 (Below.refl _ _)), below_drew1 (below_step HB1.out HX2.out.2.2.2.2.2.2)⟩
          · rw [if_neg hu1] at hR2
            have HRO := Aside0.mk hR2
            have q2 : ((u : Int) == 1) = false := beq_eq_false_iff_ne.mpr (by omega)
            have q2b : (u == 1) = false := beq_eq_false_iff_ne.mpr hu1
            clear hR2 hu1
            go_wp2
            go_roundg f
            case measure => exact Nat.lt_succ_self _
            case rel => exact ⟨q, vo2, vk2, o2, k' ++ [(kd : Int)], HX2, HRO, ⟨hq, by have := HQ.out; have := HP.out; omega, ho2, by have := HQ.out; have := HP.out; simp; omega⟩⟩
  · have d0 : decide (4194304 < most) = true := decide_eq_true (by omega)
    obtain rfl : 4194304 = mm := by
      rw [← HMM.out]; unfold mostS
      rw [if_pos (by omega)]
    go_wp2_with fail
    refine (montageref01_Of.calls ko S (bl Z (8 * S.size)) _ HKO.out).mono ?_
    rintro e w1 ⟨v0, rfl, hr0, hB1⟩
    obtain ⟨A0, c0, rfl, hcc, hC0⟩ := Kd.R_reads hr0
    rw [bl_len] at hcc hC0
    obtain ⟨N, hN⟩ : ∃ N, 8 * S.size = N := ⟨_, rfl⟩
    have hbl : (bl Z (8 * S.size)).length = N := by rw [bl_len, hN]
    rw [hbl]
    rw [hN] at hcc hC0
    have HNN := Aside0.mk hN
    have HB1 := Aside0.mk hB1
    have HC0 := Aside0.mk hC0
    have HCC := Aside0.mk hcc
    clear hr0 hB1 hC0 hbl hcc
    have HX1 := Aside0.mk (show IsR w1 (w1.alloc (.cells #[.slice A0 N c0, .int .i64 ((0 : Nat) : Int), .slice none 0 0, .int .i64 4194304, .slice none 0 0] 102)) w1.heap.size A0 c0 Z N 0 (.slice none 0 0) [] 4194304 (.slice none 0 0) [] from ⟨heap_alloc_new w1 _, Nat.le_refl _, HCC.out, HC0.out, Kd.own_of_R (enc := Value.int .u8) (h1 := fun _ => rfl) (Kd.R_nil (Kd.int .u8) 5 _ _ (fun _ => True)), Kd.own_of_R (enc := Value.int .i64) (h1 := fun _ => rfl) (Kd.R_nil (Kd.int .i64) 3 _ _ (fun _ => True)), below_alloc (Below.refl _ _) _⟩)
    obtain ⟨R, hR⟩ : ∃ R, streamS Z N 4194304 (N + 1) 0 [] [] = R := ⟨_, rfl⟩
    have HR := Aside0.mk hR
    have HSP := Aside0.mk (show ∀ e w', RSPost w R e w' → RSPost w (streamS Z (8 * S.size) 4194304 (8 * S.size + 1) 0 [] []) e w' from fun e w' h => by rw [hN, hR]; exact h)
    have hN8 : N ≤ 800000 := by omega
    have h8 : N % 8 = 0 := by omega
    clear hR hN
    go_wp2_with fail
    go_loopg [] (N + 1) (fun f wr => ∃ (p' : Nat) (vo' vk' : Value) (o' k' : List Int), Aside0 (IsR w1 wr w1.heap.size A0 c0 Z N p' vo' o' 4194304 vk' k') ∧ Aside0 (streamS Z N 4194304 f p' o' k' = R) ∧ Aside0 (p' ≤ N ∧ N < p' + f ∧ o'.length ≤ 4194304 ∧ k'.length ≤ p'))
    case atStart => exact ⟨0, _, _, [], [], HX1, HR, ⟨by omega, by omega, by simp, by simp⟩⟩
    case round =>
      clear HX1 HR
      obtain ⟨p', vo', vk', o', k', HX, HR, HP⟩ := hrel
      cases gk with
      | zero => exact absurd HP.out (by omega)
      | succ f =>
        have hR := HR.out
        rw [streamS] at hR
        have HBC := Aside0.mk (rblock_calls w1.heap.size A0 c0 Z N p' vo' vk' o' k' 4194304 w1 wr HX.out hN8 h8 HP.out.1 hm4 HP.out.2.2.1 (by have := HP.out; omega))
        unfold RBKPost at HBC
        obtain ⟨u, hu⟩ : ∃ u, Z / 2 ^ p' % 2 ^ 1 = u := ⟨_, rfl⟩
        obtain ⟨kd, hkd⟩ : ∃ kd, Z / 2 ^ (p' + 1) % 2 ^ 2 = kd := ⟨_, rfl⟩
        rw [hu, hkd] at HBC hR
        clear hu hkd HR
        go_wp2_with fail
        refine HBC.out.mono ?_
        rintro e w2 h2
        rcases h2 with ⟨er, b, hs, rfl, hb, hne⟩ | ⟨q, o2, vo2, vk2, n1, hs, rfl, hX2, hq, ho2⟩
        · have HB2 := Aside0.mk (below_step HB1.out hb)
          have H1 := Aside0.mk hne
          have HRE : Aside0 (R = .error er) := ⟨by
            rcases hs with ⟨a1, rfl⟩ | ⟨a1, a2⟩
            · rw [if_pos a1] at hR; exact hR.symm
            · rw [if_neg a1, a2] at hR; exact hR.symm⟩
          have q0 : (er == 0) = false := beq_eq_false_iff_ne.mpr hne
          have q1 : (er != 0) = true := bne_iff_ne.mpr hne
          clear hs hb hne hR HBC
          go_wp2
          (try simp only [Exit.inBlock, Exit.then])
          refine bodyPost_ret (results_tmp4 rfl _ _ _) rfl ?_
          exact HSP.out _ _ ⟨_, by rw [HRE.out]; rfl, by rw [HRE.out]; exact Kd.R_nil _ _ _ _ _, HB2.out⟩
        · rw [if_neg n1, hs] at hR
          have hR2 : (if u = 1 then Except.ok (q, o2, k' ++ [(kd : Int)]) else streamS Z N 4194304 f q o2 (k' ++ [(kd : Int)])) = R := hR
          have HQ := Aside0.mk (bodyS_q (by omega) hs)
          have HX2 := Aside0.mk hX2
          clear hs hR hX2 HBC
          by_cases hu1 : u = 1
          · rw [if_pos hu1] at hR2
            have HRO := Aside0.mk hR2
            have q2 : ((u : Int) == 1) = true := by rw [hu1]; rfl
            have q2b : (u == 1) = true := by rw [hu1]; rfl
            obtain ⟨A', c', rfl⟩ := own_form HX2.out.2.2.2.2.1
            have hc1 : w2.cell? ⟨w1.heap.size, 1, none⟩ = some (.int .i64 (q : Int)) := (blk_cell HX2.out.1 1).trans rfl
            have hc2 : w2.cell? ⟨w1.heap.size, 2, none⟩ = some (.slice A' o2.length c') := (blk_cell HX2.out.1 2).trans rfl
            have hc4 : w2.cell? ⟨w1.heap.size, 4, none⟩ = some vk2 := (blk_cell HX2.out.1 4).trans rfl
            have hcv := own_string (P := Try.prog) Try.underlying52 Try.underlying5 Try.underlying9 HX2.out.2.2.2.2.1
            have hcvd : (convert 52 9 (.slice A' o2.length c')).run Try.prog w2.drew = .ok (.string (strOfNums o2)) w2.drew := own_string (P := Try.prog) Try.underlying52 Try.underlying5 Try.underlying9 (show w2.drew.ownsRow w1.heap.size 5 1 (.slice A' o2.length c') o2.length (nums .u8 o2) from HX2.out.2.2.2.2.1)
            obtain ⟨y, hy⟩ : ∃ y : Int, (((q + 7) / 8 : Nat) : Int) = y := ⟨_, rfl⟩
            have w7 : IntKind.i64.wrap ((q : Int) + 7) = (q : Int) + 7 := by rw [i64_w]; unfold wrap64; omega
            have t8 : Int.tdiv ((q : Int) + 7) 8 = y := by rw [Int.tdiv_eq_ediv_of_nonneg (by omega), ← hy]; omega
            have t8b : ((q : Int) + 7) / 8 = y := by rw [← hy]; omega
            have w8 : IntKind.i64.wrap y = y := by rw [i64_w]; unfold wrap64; omega
            have HY := Aside0.mk hy
            clear hR2 hu1 hy
            go_wp2
            go_region
            all_goals
              go_wp2
              (try simp only [Exit.inBlock, Exit.then])
              refine bodyPost_ret (results_tmp4 rfl _ _ _) rfl ?_
              exact HSP.out _ _ ⟨_, by rw [← HRO.out]; unfold strS; dsimp only; rw [HY.out]; rfl, by rw [← HRO.out]; exact Kd.R_below (Kd.R_lower (Kd.R_of_own (enc := Value.int .i64) (h1 := fun _ => rfl) HX2.out.2.2.2.2.2.1 (fun _ _ => trivial)) HB1.out.size) (below_drew1 (Below.refl _ _)), below_drew1 (below_step HB1.out HX2.out.2.2.2.2.2.2)⟩
          · rw [if_neg hu1] at hR2
            have HRO := Aside0.mk hR2
            have q2 : ((u : Int) == 1) = false := beq_eq_false_iff_ne.mpr (by omega)
            have q2b : (u == 1) = false := beq_eq_false_iff_ne.mpr hu1
            clear hR2 hu1
            go_wp2
            go_roundg f
            case measure => exact Nat.lt_succ_self _
            case rel => exact ⟨q, vo2, vk2, o2, k' ++ [(kd : Int)], HX2, HRO, ⟨hq, by have := HQ.out; have := HP.out; omega, ho2, by have := HQ.out; have := HP.out; simp; omega⟩⟩
set_option maxHeartbeats 1600000 in
set_option maxRecDepth 100000 in
theorem rall_calls (S : ByteArray) (Z : Nat) (most : Int) (w : World) (hZ : IsZ S Z) (hS : S.size ≤ 100000) :
    Calls Try.prog 26 #[.string S, .int .i64 most] w fun e w' => e = .returned (.tuple #[.string (allS S.size (strS (decS S Z most))).1, .int .i64 (allS S.size (strS (decS S Z most))).2]) ∧ Below w.heap.size w w' := by
  have hs : Calls Try.prog 24 #[.string S, .int .i64 most] w fun e w' => ∃ vk, e = .returned (.tuple #[.string (strS (decS S Z most)).1, .int .i64 (strS (decS S Z most)).2.1, vk, .int .i64 (strS (decS S Z most)).2.2]) ∧ Below w.heap.size w w' := (rstream_calls S Z most w hZ hS).mono (fun _ _ ⟨vk, h1, _, h2⟩ => ⟨vk, h1, h2⟩)
  obtain ⟨T, hT⟩ : ∃ T, strS (decS S Z most) = T := ⟨_, rfl⟩
  rw [hT] at hs ⊢
  obtain ⟨t, n, er⟩ := T
  have HS := Aside0.mk hs
  unfold allS
  clear hs hT hZ
  by_cases h1 : er ≠ 0
  · have q0 : (er == 0) = false := beq_eq_false_iff_ne.mpr h1
    have q1 : (er != 0) = true := bne_iff_ne.mpr h1
    rw [if_pos h1]
    clear h1
    go_enter Try.func26, Try.ntmps26
    go_wp2_with fail
    refine HS.out.mono ?_
    rintro e w1 ⟨vk, rfl, hb⟩
    have HB := Aside0.mk hb
    clear hb HS
    go_wp2
    go_ret2
    exact ⟨rfl, HB.out⟩
  rw [if_neg h1]
  obtain rfl : er = 0 := by omega
  by_cases h2 : n < (S.size : Int)
  · have d2 : decide (n < (S.size : Int)) = true := decide_eq_true h2
    rw [if_pos h2]
    clear h1 h2
    go_enter Try.func26, Try.ntmps26
    go_wp2_with fail
    refine HS.out.mono ?_
    rintro e w1 ⟨vk, rfl, hb⟩
    have HB := Aside0.mk hb
    clear hb HS
    go_wp2
    go_ret2
    exact ⟨rfl, HB.out⟩
  · have d2 : decide (n < (S.size : Int)) = false := decide_eq_false h2
    rw [if_neg h2]
    clear h1 h2
    go_enter Try.func26, Try.ntmps26
    go_wp2_with fail
    refine HS.out.mono ?_
    rintro e w1 ⟨vk, rfl, hb⟩
    have HB := Aside0.mk hb
    clear hb HS
    go_wp2
    go_ret2
    exact ⟨rfl, HB.out⟩

end Go.Proofs.Ytmanmjjjepdhlaa.XPrefix
