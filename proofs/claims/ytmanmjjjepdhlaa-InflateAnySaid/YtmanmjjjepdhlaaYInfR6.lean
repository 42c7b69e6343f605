/- the document: stored It has no conditions. -/
import Derived.Test.YtmanmjjjepdhlaaYIR
import Derived.Test.YtmanmjjjepdhlaaYIB
import Derived.BigRegion
import Derived.RegionTactic
import Derived.ChangeAlike
import Derived.Deep.RegionWith
import Derived.Deep.RegionLaw
import Derived.Laws.Tables
import Derived.Deep.QuietTactic
import Derived.BigQuiet
import Derived.Deep.RegionHeld3
import Derived.Deep.AppendLies
import Derived.Deep.DrawnRows
import Derived.Laws.CopyOwn
import Derived.Deep.MidRow
import Derived.Laws.ResultCell
import Derived.ChangeKeysEq
import Derived.Laws.BitsAllLaws
namespace Go.Proofs.Ytmanmjjjepdhlaa.XPrefix
set_option linter.unusedVariables false
set_option linter.unusedSimpArgs false
open Go.RowKit Go.Proofs.YtmanmjjjepdhlaaW.PrintWords Go.Proofs.YtmanmjjjepdhlaaW.PrintLast Go.Proofs.YtmanmjjjepdhlaaW.PrintMore
attribute [local go_sem] max2_int min2_int max_two min_two max_three min_three max_four min_four

open XInflateAny XTok
def RXPost (w0 w : World) (g : Nat) (A0 : Option Addr) (c0 Z N : Nat) (vo : Value) (most : Int) (vk : Value) (ks : List Int) (R : Except Int (Nat × List Int)) (e : Ending) (w' : World) : Prop :=
  (∃ er, R = .error er ∧ e = .returned (.int .i64 er) ∧ Below w0.heap.size w0 w' ∧ er ≠ 0) ∨ (∃ q o2, R = .ok (q, o2) ∧ e = .returned (.int .i64 0) ∧ RStep w0 w g A0 c0 Z N vo most vk ks q o2 w' ∧ q ≤ N ∧ o2.length ≤ 4194304)
theorem bytesOf_by8 (Y n : Nat) : bytesOf (strOfNums (by8 Y n)) = by8 Y n := by
  apply List.ext_getElem
  · rw [bytesOf_length, str_size]
  · intro i h2 h3
    have e := rd_bytesOf (strOfNums (by8 Y n)) (i : Int)
    rw [str_get _ _ h3 (by8_range _ _)] at e
    unfold rd at e
    rw [Int.toNat_natCast, List.getD_eq_getElem?_getD, List.getElem?_eq_getElem h2, Option.getD_some, List.getD_eq_getElem?_getD, List.getElem?_eq_getElem h3, Option.getD_some] at e
    exact e
theorem rtext_mid (Z N p n : Nat) (h : p + 8 * n ≤ N) (hN : N ≤ 800000) : ∃ k, montageref01_Text.f k (((bl Z N).take (p + 8 * n)).drop p) = some (strOfNums (by8 (Z / 2 ^ p % 2 ^ (8 * n)) n)) := by
  have hl : (((bl Z N).take (p + 8 * n)).drop p).length = 8 * n := by rw [List.length_drop, List.length_take, bl_len]; omega
  have := ref_text (((bl Z N).take (p + 8 * n)).drop p) (Z / 2 ^ p % 2 ^ (8 * n)) (by omega) (fun i hi => by
    rw [mod_bit _ _ _ (by omega), Nat.div_div_eq_div_mul, ← Nat.pow_add, ← bl_get Z N (p + i) (by omega)]
    unfold rd
    rw [Int.toNat_natCast, Int.toNat_natCast, List.getD_eq_getElem?_getD, List.getElem?_drop, List.getElem?_take_of_lt (by omega), List.getD_eq_getElem?_getD]) (by rw [hl]; exact Nat.mod_lt _ (Nat.two_pow_pos _))
  rw [hl, show (8 * n + 7) / 8 = n from by omega] at this
  exact this.rounds
set_option maxHeartbeats 8000000 in
set_option maxRecDepth 100000 in
theorem rstored_calls (g : Nat) (A0 : Option Addr) (c0 Z N p : Nat) (vo vk : Value) (out ks : List Int) (most : Int) (w0 w : World) (hR : IsR w0 w g A0 c0 Z N p vo out most vk ks) (hN : N ≤ 800000) (h8 : N % 8 = 0) (hp : p ≤ N) (hm4 : most ≤ 4194304) (ho : out.length ≤ 4194304) :
    Calls Try.prog 93 #[.pointer (some ⟨g, 0, none⟩)] w fun e w' => RXPost w0 w g A0 c0 Z N vo most vk ks (storedS Z N most p out) e w' := by
  obtain ⟨R, hRR⟩ : ∃ R, storedS Z N most p out = R := ⟨_, rfl⟩
  rw [hRR]
  unfold storedS at hRR
  obtain ⟨p1, hp1⟩ : ∃ q, (p + 7) / 8 * 8 = q := ⟨_, rfl⟩
  rw [hp1] at hRR
  have hc1 : w.cell? ⟨g, 1, none⟩ = some (.int .i64 (p : Int)) := (blk_cell hR.1 1).trans rfl
  have hf1 := blk_frozen hR.1 1
  have q0 : ((p : Int) + 7) / 8 * 8 = (p1 : Int) := by omega
  have HX1 := Aside0.mk (hR.at_ p1)
  have HK1 := Aside0.mk ((KeepBut.refl w g none).set_ 1 (.int .i64 (p1 : Int)))
  have hp1N : p1 ≤ N := by omega
  have hpb : (p : Int) ≤ 800000 := by omega
  have hp0 : 0 ≤ (p : Int) := by omega
  have HG := Aside0.mk hR.2.1
  clear hR hp1
  by_cases h1 : N < p1 + 32
  · rw [if_pos h1] at hRR
    have HRR := Aside0.mk hRR
    clear hRR
    by_cases h2 : N < p1 + 16
    · have HN1 := Aside0.mk (fun W hX => rbits_bad g A0 c0 Z N p1 16 vo vk out ks most w0 W hX hN hp1N h2)
      clear h1 h2
      go_enter Try.func93, Try.ntmps93
      go_wp2_with fail
      refine (HN1.out _ HX1.out).mono ?_
      rintro e w2 ⟨rfl, hb⟩
      have HX2 := Aside0.mk (HX1.out.below hb)
      clear hb
      go_wp2
      go_ret
      exact .inl ⟨3, HRR.out.symm, rfl, HX2.out.2.2.2.2.2.2, by decide⟩
    · have HN1 := Aside0.mk (fun W hX => rbits_ok g A0 c0 Z N p1 16 vo vk out ks most w0 W hX hN (by omega) (by omega))
      have HN2 := Aside0.mk (fun W hX => rbits_bad g A0 c0 Z N (p1 + 16) 16 vo vk out ks most w0 W hX hN (by omega) (by omega))
      obtain ⟨n, hn⟩ : ∃ n, Z / 2 ^ p1 % 2 ^ 16 = n := ⟨_, rfl⟩
      rw [hn] at HN1
      clear h1 h2 hn
      go_enter Try.func93, Try.ntmps93
      go_wp2_with fail
      refine (HN1.out _ HX1.out).mono ?_
      rintro e w2 ⟨rfl, hX2, hk2⟩
      have HX2 := Aside0.mk hX2
      clear hX2 hk2 HN1 HX1
      go_wp2_with fail
      refine (HN2.out _ HX2.out).mono ?_
      rintro e w3 ⟨rfl, hb⟩
      have HX3 := Aside0.mk (HX2.out.below hb)
      clear hb
      go_wp2
      go_ret
      exact .inl ⟨3, HRR.out.symm, rfl, HX3.out.2.2.2.2.2.2, by decide⟩
  rw [if_neg h1] at hRR
  unfold storedS2 at hRR
  have hN1 := fun W hX => rbits_ok g A0 c0 Z N p1 16 vo vk out ks most w0 W hX hN (by omega) (by omega)
  have hN2 := fun W hX => rbits_ok g A0 c0 Z N (p1 + 16) 16 vo vk out ks most w0 W hX hN (by omega) (by omega)
  obtain ⟨n, hn⟩ : ∃ n, Z / 2 ^ p1 % 2 ^ 16 = n := ⟨_, rfl⟩
  obtain ⟨m, hm2⟩ : ∃ m, Z / 2 ^ (p1 + 16) % 2 ^ 16 = m := ⟨_, rfl⟩
  have hn16 : n < 65536 := by rw [← hn]; exact Nat.mod_lt _ (by decide)
  have hm16 : m < 65536 := by rw [← hm2]; exact Nat.mod_lt _ (by decide)
  rw [hn] at hN1 hRR
  rw [hm2] at hN2 hRR
  obtain ⟨p2, hp2⟩ : ∃ p2, p1 + 16 + 16 = p2 := ⟨_, rfl⟩
  rw [hp2] at hN2
  rw [show p1 + 32 = p2 from by omega] at hRR h1
  have hp2N : p2 ≤ N := by omega
  have HN1 := Aside0.mk hN1
  have HN2 := Aside0.mk hN2
  clear hN1 hN2 hn hm2 hp2 h1
  by_cases h2 : m + n ≠ 65535
  · rw [if_pos h2] at hRR
    have HRR := Aside0.mk hRR
    have q1 : ((m : Int) == 65535 - (n : Int)) = false := beq_eq_false_iff_ne.mpr (by omega)
    have q2 : ((m : Int) != 65535 - (n : Int)) = true := bne_iff_ne.mpr (by omega)
    clear hRR h2
    go_enter Try.func93, Try.ntmps93
    go_wp2_with fail
    refine (HN1.out _ HX1.out).mono ?_
    rintro e w2 ⟨rfl, hX2, hk2⟩
    have HX2 := Aside0.mk hX2
    have HK2 := Aside0.mk (HK1.out.trans hk2 (.inl rfl))
    clear hX2 hk2 HX1 HK1 HN1
    go_wp2_with fail
    refine (HN2.out _ HX2.out).mono ?_
    rintro e w3 ⟨rfl, hX3, hk3⟩
    have HX3 := Aside0.mk hX3
    have HK3 := Aside0.mk (HK2.out.trans hk3 (.inl rfl))
    clear hX3 hk3 HX2 HK2 HN2
    go_wp2
    go_ret
    exact .inl ⟨2, HRR.out.symm, rfl, HX3.out.2.2.2.2.2.2, by decide⟩
  rw [if_neg h2] at hRR
  obtain rfl : m = 65535 - n := by omega
  have q1 : (((65535 - n : Nat) : Int) == 65535 - (n : Int)) = true := beq_iff_eq.mpr (by omega)
  have q2 : (((65535 - n : Nat) : Int) != 65535 - (n : Int)) = false := by rw [bne, q1]; rfl
  obtain ⟨m, hm⟩ : ∃ m, 65535 - n = m := ⟨_, rfl⟩
  rw [hm] at HN2 q1 q2
  clear hm h2 hm16
  by_cases h3 : most < (out.length : Int) + n
  · rw [if_pos h3] at hRR
    have HRR := Aside0.mk hRR
    have d3 : decide (most < (out.length : Int) + n) = true := decide_eq_true h3
    clear hRR h3
    go_enter Try.func93, Try.ntmps93
    go_wp2_with fail
    refine (HN1.out _ HX1.out).mono ?_
    rintro e w2 ⟨rfl, hX2, hk2⟩
    have HX2 := Aside0.mk hX2
    have HK2 := Aside0.mk (HK1.out.trans hk2 (.inl rfl))
    clear hX2 hk2 HX1 HK1 HN1
    go_wp2_with fail
    refine (HN2.out _ HX2.out).mono ?_
    rintro e w3 ⟨rfl, hX3, hk3⟩
    have HX3 := Aside0.mk hX3
    have HK3 := Aside0.mk (HK2.out.trans hk3 (.inl rfl))
    clear hX3 hk3 HX2 HK2 HN2
    have hc2 := (blk_cell HX3.out.1 2)
    have hc3 := (blk_cell HX3.out.1 3)
    obtain ⟨A', c', rfl⟩ := own_form HX3.out.2.2.2.2.1
    go_wp2
    go_region
    go_wp2
    go_ret
    exact .inl ⟨7, HRR.out.symm, rfl, (HX3.out.below (show Below w3.heap.size w3 w3.drew from below_drew1 (Below.refl _ _))).2.2.2.2.2.2, by decide⟩
  rw [if_neg h3] at hRR
  have d3 : decide (most < (out.length : Int) + n) = false := decide_eq_false h3
  by_cases h4 : N < p2 + 8 * n
  · rw [if_pos h4] at hRR
    have HRR := Aside0.mk hRR
    have d4 : decide ((N : Int) - (p2 : Int) < 8 * (n : Int)) = true := decide_eq_true (by omega)
    clear hRR h3 h4
    go_enter Try.func93, Try.ntmps93
    go_wp2_with fail
    refine (HN1.out _ HX1.out).mono ?_
    rintro e w2 ⟨rfl, hX2, hk2⟩
    have HX2 := Aside0.mk hX2
    have HK2 := Aside0.mk (HK1.out.trans hk2 (.inl rfl))
    clear hX2 hk2 HX1 HK1 HN1
    go_wp2_with fail
    refine (HN2.out _ HX2.out).mono ?_
    rintro e w3 ⟨rfl, hX3, hk3⟩
    have HX3 := Aside0.mk hX3
    have HK3 := Aside0.mk (HK2.out.trans hk3 (.inl rfl))
    clear hX3 hk3 HX2 HK2 HN2
    have hc0 : w3.cell? ⟨g, 0, none⟩ = some (.slice A0 N c0) := (blk_cell HX3.out.1 0).trans rfl
    have hc1 := (blk_cell HX3.out.1 1)
    have hc2 := (blk_cell HX3.out.1 2)
    have hc3 := (blk_cell HX3.out.1 3)
    obtain ⟨A', c', rfl⟩ := own_form HX3.out.2.2.2.2.1
    go_wp2
    go_region
    go_wp2
    go_region
    go_wp2
    go_ret
    exact .inl ⟨3, HRR.out.symm, rfl, (HX3.out.below (pw_below_drewN (Below.refl _ _) 2)).2.2.2.2.2.2, by decide⟩
  rw [if_neg h4] at hRR
  have d4 : decide ((N : Int) - (p2 : Int) < 8 * (n : Int)) = false := decide_eq_false (by omega)
  obtain ⟨kt, hkt⟩ := rtext_mid Z N p2 n (by omega) hN
  obtain ⟨T, hT⟩ : ∃ T, strOfNums (by8 (Z / 2 ^ p2 % 2 ^ (8 * n)) n) = T := ⟨_, rfl⟩
  have hTb : bytesOf T = by8 (Z / 2 ^ p2 % 2 ^ (8 * n)) n := by rw [← hT]; exact bytesOf_by8 _ _
  have hTs : T.size = n := by rw [← hT, str_size, by8_len]
  rw [hT] at hkt
  rw [← hTb] at hRR
  obtain ⟨i0, hi0, hz0, hz1, hz2⟩ := info_parts info5
  have hNc := HX1.out.2.2.1
  obtain ⟨A1, hrun, hread, hcap⟩ := print_mid_int (P := Try.prog) (k := .u8) 52 5 Try.underlying52 hi0 hz1 A0 c0 (bl Z N) (p2 : Int) ((p2 : Int) + 8 * (n : Int)) (by omega) (by omega) (by rw [bl_len]; omega) (by rw [bl_len]; exact hNc)
  rw [show (((p2 : Int) + 8 * (n : Int)).toNat) = p2 + 8 * n from by omega, Int.toNat_natCast] at hrun hread hcap
  rw [bl_len] at hrun hread
  obtain ⟨L, hL⟩ : ∃ L, ((bl Z N).take (p2 + 8 * n)).drop p2 = L := ⟨_, rfl⟩
  obtain ⟨c1, hc1'⟩ : ∃ c1 : Nat, c0 - p2 = c1 := ⟨_, rfl⟩
  rw [hL] at hread hcap hkt hrun
  rw [hc1'] at hrun hcap
  have HKT := Aside0.mk hkt
  have HRE := Aside0.mk hread
  have HCA := Aside0.mk hcap
  have HTS := Aside0.mk hTs
  have HRR := Aside0.mk hRR
  have hTn : T.size ≤ 65535 := by omega
  have hw1 : IntKind.i64.wrap (8 * (n : Int)) = 8 * (n : Int) := by rw [i64_w]; unfold wrap64; omega
  have hw2 : IntKind.i64.wrap ((p2 : Int) + 8 * (n : Int)) = (p2 : Int) + 8 * (n : Int) := by rw [i64_w]; unfold wrap64; omega
  have HW1 := Aside0.mk hw1
  have HW2 := Aside0.mk hw2
  have h4' : p2 + 8 * n ≤ N := by omega
  have HSUM := Aside0.mk (show out.length + n ≤ 4194304 by omega)
  have HTC := Aside0.mk (fun W (hC : Kd.C (Kd.int .u8) W A0 N (bl Z N)) => montageref01_Text.calls kt A1 c1 L T W (Kd.C_of_reads (HRE.out _ (Kd.reads_of_C hC))) HCA.out HKT.out)
  clear hkt hread hcap hTs hTb hT hRR HKT HRE HCA hL hc1' hw1 hw2 h3 h4 hNc
  go_enter Try.func93, Try.ntmps93
  go_wp2_with fail
  refine (HN1.out _ HX1.out).mono ?_
  rintro e w2 ⟨rfl, hX2, hk2⟩
  have HX2 := Aside0.mk hX2
  have HK2 := Aside0.mk (HK1.out.trans hk2 (.inl rfl))
  clear hX2 hk2 HX1 HK1 HN1
  go_wp2_with fail
  refine (HN2.out _ HX2.out).mono ?_
  rintro e w3 ⟨rfl, hX3, hk3⟩
  have HX3 := Aside0.mk hX3
  have HK3 := Aside0.mk (HK2.out.trans hk3 (.inl rfl))
  clear hX3 hk3 HX2 HK2 HN2
  obtain ⟨A', c', rfl⟩ := own_form HX3.out.2.2.2.2.1
  have hc0 : w3.cell? ⟨g, 0, none⟩ = some (.slice A0 N c0) := (blk_cell HX3.out.1 0).trans rfl
  have hc1 : w3.cell? ⟨g, 1, none⟩ = some (.int .i64 (p2 : Int)) := (blk_cell HX3.out.1 1).trans rfl
  have hc2 : w3.cell? ⟨g, 2, none⟩ = some (.slice A' out.length c') := (blk_cell HX3.out.1 2).trans rfl
  have hc3 := (blk_cell HX3.out.1 3)
  go_wp2
  go_region
  go_wp2
  go_region
  have HX4 := Aside0.mk (HX3.out.below (show Below w3.heap.size w3 w3.drew.drew from pw_below_drewN (Below.refl _ _) 2))
  have HK4 := Aside0.mk (HK3.out.trans (KeepBut.of_below (show Below w3.heap.size w3 w3.drew.drew from pw_below_drewN (Below.refl _ _) 2) g none) (.inl rfl))
  clear HX3 HK3 hc0 hc1 hc2 hc3 d3 d4 q1 q2
  generalize w3.drew.drew = W3 at HX4 HK4 ⊢
  have hc0 : W3.cell? ⟨g, 0, none⟩ = some (.slice A0 N c0) := (blk_cell HX4.out.1 0).trans rfl
  have hc1 : W3.cell? ⟨g, 1, none⟩ = some (.int .i64 (p2 : Int)) := (blk_cell HX4.out.1 1).trans rfl
  have hc2 : W3.cell? ⟨g, 2, none⟩ = some (.slice A' out.length c') := (blk_cell HX4.out.1 2).trans rfl
  have HC4 := Aside0.mk (Kd.C_below HX4.out.2.2.2.1 HX4.out.2.2.2.2.2.2)
  have hw1 := HW1.out
  have hw2 := HW2.out
  go_wp2_with fail
  go_region_law
    (first
      | ((go_simp; go_at_call 30; refine (HTC.out _ (by first | exact HC4.out | exact Kd.C_below HC4.out (below_drew1 (Below.refl _ _)))).mono ?_; rintro e w5 ⟨rfl, hb⟩; have hb5 := below_step (by first | exact Below.refl W3.heap.size W3 | exact below_drew1 (Below.refl W3.heap.size W3)) hb; have HX5 := Aside0.mk (HX4.out.below hb5); have HK5 := Aside0.mk (HK4.out.trans (KeepBut.of_below hb5 g none) (.inl rfl)); have hc25 : w5.cell? ⟨g, 2, none⟩ = some (.slice A' out.length c') := (blk_cell HX5.out.1 2).trans rfl; clear hb hb5))
      | ((refine step_append_str rfl _ _ 52 9 rfl w0.heap.size 5 i0 Try.underlying52 Try.underlying9 hi0 hz0 hz1 hz2 (.slice A' out.length c') out.length (encs (Value.int .u8) out) (by rfl) (by first | exact HX5.out.2.2.2.2.1 | exact HX5.out.2.2.2.2.1.drew) T (by rfl) (by simp only [maxLen]; omega) (by omega) (below_size HX5.out.2.2.2.2.2.2) _ rfl ?_; intro A6 c6 w6 ho hg hat; have BK6 := Aside0.mk (show w6.heap[g]? = some (.cells #[.slice A0 N c0, .int .i64 (p2 : Int), .slice A' out.length c', .int .i64 most, vk] 102 (0, 0)) from (hg.block g (blk_lt HX5.out.1) (own_ne' HX5.out.2.2.2.2.1 HX5.out.1 (by decide))).trans HX5.out.1); have HPP := Aside0.mk (IsR.push (v1 := .slice A6 (out.length + T.size) c6) (o2 := out ++ bytesOf T) HX5.out (by repeat (first | exact Below.refl _ _ | apply below_drew1 | apply below_alloc | apply pw_below_drewN)) hg (hat.elim (fun h => .inl h) (fun h => .inr ⟨_, h, Nat.le_refl _⟩)) ho (by rw [List.length_append, bytesOf_length]) (by rw [encs_append, encs_bytesOf])); have hk1 : w6.cell? ⟨g, 2, none⟩ = some (.slice A' out.length c') := (blk_cell BK6.out 2).trans rfl; have hz_1 := blk_frozen BK6.out 2; clear ho hg hat)))
  all_goals
    have HX7 := Aside0.mk HPP.out.1
    have HK7 := Aside0.mk ((KeepR.of_but HK5.out).trans HPP.out.2.1 (.inl rfl))
    have HN7 := Aside0.mk HPP.out.2.2
    have hs5 := Aside0.mk HK5.out.1
    have HN8 := Aside0.mk (show NewRow w (.slice A' out.length c') (.slice A6 (out.length + T.size) c6) from NewRow.trans (.inl rfl) HN7.out hs5.out)
    have hc7 := blk_cell HPP.out.1.1 1
    have hz7 := blk_frozen HPP.out.1.1 1
    clear hk1 hz_1 hc25 hc0 hc1 hc2 BK6 HPP hrun hw1 hw2
    have eq : (p2 : Int) + 8 * (n : Int) = ((p2 + 8 * n : Nat) : Int) := by omega
    have HX8 := Aside0.mk (HX7.out.at_ (p2 + 8 * n))
    obtain ⟨q, hq⟩ : ∃ q, p2 + 8 * n = q := ⟨_, rfl⟩
    rw [hq] at eq HX8
    have HRQ := HRR.out
    rw [hq] at HRQ
    have HRR2 := Aside0.mk HRQ
    have HQN := Aside0.mk (show q ≤ N by omega)
    have HK8 := Aside0.mk (HK7.out.trans (KeepR.of_but ((KeepBut.refl _ g none).set_ 1 (.int .i64 (q : Int)))) (v1 := .slice A6 (out.length + T.size) c6) HN8.out)
    clear HRQ hq
    go_wp2
    go_ret
    exact .inr ⟨q, out ++ bytesOf T, HRR2.out.symm, rfl, ⟨_, HX8.out, HK8.out, HN8.out⟩, HQN.out, by rw [List.length_append, bytesOf_length, HTS.out]; exact HSUM.out⟩

end Go.Proofs.Ytmanmjjjepdhlaa.XPrefix
