/- the document: from back there It has no conditions. -/
import Derived.Test.YtmanmjjjepdhlaaYIR
import Derived.BigRegion
import Derived.RegionTactic
import Derived.ChangeAlike
import Derived.Deep.RegionWith
import Derived.Deep.RegionLaw
import Derived.Laws.Tables
import Derived.Deep.QuietTactic
import Derived.BigQuiet
import Derived.Deep.RegionHeld3
import Derived.Deep.AppendLies
import Derived.Deep.DrawnRows
import Derived.Laws.CopyOwn
import Derived.Deep.MidRow
import Derived.Laws.ResultCell
import Derived.ChangeKeysEq
import Derived.Laws.BitsAllLaws
namespace Go.Proofs.Ytmanmjjjepdhlaa.XPrefix
set_option linter.unusedVariables false
set_option linter.unusedSimpArgs false
open Go.RowKit Go.Proofs.YtmanmjjjepdhlaaW.PrintWords Go.Proofs.YtmanmjjjepdhlaaW.PrintLast Go.Proofs.YtmanmjjjepdhlaaW.PrintMore
attribute [local go_sem] max2_int min2_int max_two min_two max_three min_three max_four min_four

open XInflateAny XTok
set_option maxHeartbeats 8000000 in
set_option maxRecDepth 100000 in
theorem rback_B (g : Nat) (A0 : Option Addr) (c0 Z N p : Nat) (s : Int) (Al : Option Addr) (cl : Nat) (l : List Int) (vo vk : Value) (out ks : List Int) (most : Int) (w0 w : World) (hR : IsR w0 w g A0 c0 Z N p vo out most vk ks) (hN : N ≤ 800000) (h0 : 256 < s) (h1 : s < 286) (n : Int) (q : Nat) (h : lenS Z N s p = .ok (n, q)) (hK : eS l = 0) (hC : Row3 w Al l) (hcl : l.length ≤ cl) (hm4 : most ≤ 4194304) (ho : out.length ≤ 4194304) (hcs : s < 285 ∧ ¬ (s = 284 ∧ Z / 2 ^ p % 2 ^ lenB s = 31)) :
    Calls Try.prog 125 #[.pointer (some ⟨g, 0, none⟩), .int .i64 s, .slice Al l.length cl] w fun e w' => RBPost w0 w g A0 c0 Z N vo most vk ks (backS l Z N most s p out) e w' := by
  rw [backS_dist h]
  obtain ⟨D, hD⟩ : ∃ D, backS2 most n out (distS l Z N q) = D := ⟨_, rfl⟩
  rw [hD]
  obtain ⟨q1, hq1⟩ := (ref_lenBits s h0 h1).rounds
  unfold lenS at h
  rw [if_neg (by omega)] at h
  by_cases h2 : N < p + lenB s
  · rw [if_pos h2] at h; cases h
  rw [if_neg h2] at h
  obtain ⟨rfl, rfl⟩ : lenV s (Z / 2 ^ p % 2 ^ lenB s) = n ∧ p + lenB s = q := by injection h with h; injection h with h3 h4; exact ⟨h3, h4⟩
  have hb5 := lenB_le s (by omega) (by omega)
  have hlt : Z / 2 ^ p % 2 ^ lenB s < 2 ^ lenB s := Nat.mod_lt _ (Nat.two_pow_pos _)
  have hbits := fun W (hb : Below w.heap.size w W) => rbits_ok g A0 c0 Z N p (lenB s) vo vk out ks most w0 W (hR.below hb) hN (by omega) (by omega)
  obtain ⟨m, hm⟩ : ∃ m, Z / 2 ^ p % 2 ^ lenB s = m := ⟨_, rfl⟩
  rw [hm] at hbits hlt hD hcs
  have hm32 : m < 32 := Nat.lt_of_lt_of_le hlt (Nat.pow_le_pow_right (by decide) hb5)
  have hlv := lenV_ref s m h0 h1 hlt
  obtain ⟨q2, hq2⟩ := (ref_lengthOf s (m : Int)).rounds
  obtain ⟨v, b, hv⟩ : ∃ v b, saysL s (m : Int) = (v, b) := ⟨_, _, rfl⟩
  rw [hv] at hq2 hlv
  obtain ⟨n, hn⟩ : ∃ n, lenV s m = n := ⟨_, rfl⟩
  rw [hn] at hlv hD
  have hnb := lenV_bd s m
  rw [hn] at hnb
  obtain ⟨p1, hp1⟩ : ∃ p1, p + lenB s = p1 := ⟨_, rfl⟩
  rw [hp1] at hbits hD
  have hp1N : p1 ≤ N := by omega
  obtain ⟨B, hB⟩ : ∃ B : Nat, lenB s = B := ⟨_, rfl⟩
  rw [hB] at hbits hq1
  have HR := Aside0.mk hR
  have HCS := Aside0.mk hcs
  have HD := Aside0.mk hD
  have HQ1 := Aside0.mk hq1
  have HQ2 := Aside0.mk hq2
  have HB := Aside0.mk hbits
  have HLV := Aside0.mk hlv
  have HC := Aside0.mk hC
  have HK := Aside0.mk hK
  have d0 : decide (285 < s) = false := decide_eq_false (by omega)
  clear hcs hR hD hq1 hq2 hbits hlv hC hK hn hp1 hm hv h h2 hB hlt
  have c1 : s < 285 := HCS.out.1
  have d1 : decide (s < 285) = true := decide_eq_true c1
  have c2 : ¬ (s = 284 ∧ m = 31) := HCS.out.2
  obtain rfl : n = v := by have := HLV.out; rwa [if_pos c1, if_neg c2] at this
  clear HLV
  by_cases c3 : s = 284
  · have e1 : (s == 284) = true := beq_iff_eq.mpr c3
    have e2 : ((m : Int) == 31) = false := beq_eq_false_iff_ne.mpr (by omega)
    have e2b : (m == 31) = false := beq_eq_false_iff_ne.mpr (by omega)
    clear c2 c3
    go_enter Try.func125, Try.ntmps125
    go_wp2_with fail
    refine (montageref07_LengthBits.calls q1 s _ _ HQ1.out).mono ?_
    rintro e w1 ⟨rfl, hb⟩
    have HB1 := Aside0.mk hb
    clear hb
    go_wp2_with fail
    refine (HB.out _ HB1.out).mono ?_
    rintro e w2 ⟨rfl, hR2, hk2⟩
    have HR2 := Aside0.mk hR2
    have HK2 := Aside0.mk ((KeepBut.of_below HB1.out g none).trans hk2 (.inl rfl))
    clear hR2 hk2 HB HB1
    go_wp2_with fail
    refine (montageref07_LengthOf.calls q2 s m n b _ HQ2.out).mono ?_
    rintro e w3 ⟨rfl, hb⟩
    have HR2 := Aside0.mk (HR2.out.below hb)
    have HK2 := Aside0.mk (HK2.out.trans (KeepBut.of_below hb g none) (.inl rfl))
    clear hb
    have HSY := Aside0.mk (symbol_calls g A0 c0 Z N p1 Al cl l vo vk out ks most w0 w3 HR2.out hN hp1N HK.out (HC.out.but HR.out HK2.out).1 hcl)
    have hsy := readA_sym (show KRes l (kS l) 0 from HK.out ▸ kS_spec l) Z N p1
    have hle := readA_le l (kS l) Z N p1 hp1N
    have hD := HD.out
    unfold distS at hD
    obtain ⟨A, hA⟩ : ∃ A, readA l (kS l) Z N p1 = A := ⟨_, rfl⟩
    rw [hA] at HSY hsy hle hD
    obtain ⟨dd, er, p2, bad⟩ := A
    dsimp only at hD hsy hle HSY
    clear hA HD
    by_cases k1 : er ≠ 0
    · rw [if_pos k1] at hD
      have HRE := Aside0.mk (show D = .error er from hD.symm)
      have H1 := Aside0.mk k1
      have q0 : (er == 0) = false := beq_eq_false_iff_ne.mpr k1
      have q1' : (er != 0) = true := bne_iff_ne.mpr k1
      clear hD k1 hsy hle
      go_wp2_with fail
      refine HSY.out.mono ?_
      rintro e w4 ⟨rfl, hR4, hk4⟩
      have HR4 := Aside0.mk hR4
      clear hR4 hk4 HSY
      go_wp2
      go_ret
      exact .inl ⟨er, HRE.out, rfl, HR4.out.2.2.2.2.2.2, H1.out⟩
    rw [if_neg k1] at hD
    obtain rfl : er = 0 := by omega
    obtain ⟨j, hj, _⟩ := hsy rfl
    obtain rfl : dd = (j : Int) := hj
    have hp2 : p2 ≤ N := hle.1
    clear hsy hle k1
    by_cases k2 : (30 : Int) ≤ (j : Int)
    · rw [if_pos k2] at hD
      have HRE := Aside0.mk (show D = .error 2 from hD.symm)
      have dj : decide (29 < (j : Int)) = true := decide_eq_true (by omega)
      clear hD
      go_wp2_with fail
      refine HSY.out.mono ?_
      rintro e w4 ⟨rfl, hR4, hk4⟩
      have HR4 := Aside0.mk hR4
      clear hR4 hk4 HSY
      go_wp2
      go_ret
      exact .inl ⟨2, HRE.out, rfl, HR4.out.2.2.2.2.2.2, by decide⟩
    rw [if_neg k2, Int.toNat_natCast] at hD
    have dj : decide (29 < (j : Int)) = false := decide_eq_false (by omega)
    obtain ⟨q3, hq3⟩ := (ref_distanceBits j (by omega)).rounds
    have hb13 : bitsD j ≤ 13 := by obtain ⟨_, _, _, _, h, _⟩ := rowsD_of j (by omega); exact h
    obtain ⟨bd, hbd⟩ : ∃ bd, bitsD j = bd := ⟨_, rfl⟩
    rw [hbd] at hq3 hD hb13
    have HQ3 := Aside0.mk hq3
    have HBD := Aside0.mk hbd
    clear hq3 hbd
    go_wp2_with fail
    refine HSY.out.mono ?_
    rintro e w4 ⟨rfl, hR4, hk4⟩
    have HR4 := Aside0.mk hR4
    have HK4 := Aside0.mk (HK2.out.trans hk4 (.inl rfl))
    clear hR4 hk4 HSY HR2 HK2
    go_wp2_with fail
    refine (montageref07_DistanceBits.calls q3 (j : Int) (bd : Int) _ HQ3.out).mono ?_
    rintro e w5 ⟨rfl, hb⟩
    have HR5 := Aside0.mk (HR4.out.below hb)
    have HK5 := Aside0.mk (HK4.out.trans (KeepBut.of_below hb g none) (.inl rfl))
    clear hb HR4 HK4
    by_cases k3 : N < p2 + bd
    · rw [if_pos k3] at hD
      have HRE := Aside0.mk (show D = .error 3 from hD.symm)
      have HBB := Aside0.mk (rbits_bad g A0 c0 Z N p2 bd vo vk out ks most w0 w5 HR5.out hN hp2 k3)
      clear hD k3
      go_wp2_with fail
      refine HBB.out.mono ?_
      rintro e w6 ⟨rfl, hb⟩
      have HR6 := Aside0.mk (HR5.out.below hb)
      clear hb HBB
      go_wp2
      go_ret
      exact .inl ⟨3, HRE.out, rfl, HR6.out.2.2.2.2.2.2, by decide⟩
    rw [if_neg k3] at hD
    have hbb := rbits_ok g A0 c0 Z N p2 bd vo vk out ks most w0 w5 HR5.out hN (by omega) (by omega)
    have hxl : Z / 2 ^ p2 % 2 ^ bd < 2 ^ bd := Nat.mod_lt _ (Nat.two_pow_pos _)
    obtain ⟨x, hx⟩ : ∃ x, Z / 2 ^ p2 % 2 ^ bd = x := ⟨_, rfl⟩
    rw [hx] at hbb hD hxl
    obtain ⟨q4, hq4⟩ := (ref_distanceOf (j : Int) (x : Int)).rounds
    have hxi : (x : Int) < 2 ^ bd := by
      have : (x : Int) < ((2 ^ bd : Nat) : Int) := by omega
      simpa using this
    have hsd : saysD (j : Int) (x : Int) = (baseD j + (x : Int), true) := by
      unfold saysD
      rw [if_pos (by omega), Int.toNat_natCast, HBD.out, if_pos ⟨by omega, hxi⟩]
    have hbase := rowsD_of j (by omega)
    obtain ⟨_, _, _, _, _, hb1, hb2⟩ := hbase
    obtain ⟨ff, hff⟩ : ∃ ff : Nat, baseD j + (x : Int) = ff := ⟨(baseD j + (x : Int)).toNat, by omega⟩
    have hff1 : 1 ≤ ff := by omega
    rw [hsd, hff] at hD hq4
    obtain ⟨p3, hp3⟩ : ∃ p3, p2 + bd = p3 := ⟨_, rfl⟩
    rw [hp3] at hbb hD
    have HBB := Aside0.mk hbb
    have HQ4 := Aside0.mk hq4
    have hD2 : (if (out.length : Int) < (ff : Int) then Except.error (2 : Int) else if most < (out.length : Int) + n then .error 7 else .ok (p3, copyS (ff : Int).toNat (n : Int).toNat out)) = D := hD
    have HD2 := Aside0.mk hD2
    clear hbb hq4 hD hD2 hx hsd hxi hb1 hb2 hff hp3 hxl
    go_wp2_with fail
    refine HBB.out.mono ?_
    rintro e w6 ⟨rfl, hR6, hk6⟩
    have HR6 := Aside0.mk hR6
    have HK6 := Aside0.mk (HK5.out.trans hk6 (.inl rfl))
    clear hR6 hk6 HBB HR5 HK5
    go_wp2_with fail
    refine (montageref07_DistanceOf.calls q4 (j : Int) (x : Int) (ff : Int) true _ HQ4.out).mono ?_
    rintro e w7 ⟨rfl, hb⟩
    have HR7 := Aside0.mk (HR6.out.below hb)
    have HK7 := Aside0.mk (HK6.out.trans (KeepBut.of_below hb g none) (.inl rfl))
    clear hb HR6 HK6
    obtain ⟨A7, c7, rfl⟩ := own_form HR7.out.2.2.2.2.1
    have hc2 := (blk_cell HR7.out.1 2)
    have hc3 := (blk_cell HR7.out.1 3)
    by_cases k4 : (out.length : Int) < (ff : Int)
    · have HRE := Aside0.mk (show D = .error 2 from by have := HD2.out; rw [if_pos k4] at this; exact this.symm)
      have d4 : decide ((out.length : Int) < (ff : Int)) = true := decide_eq_true k4
      have d4b : decide (out.length < ff) = true := decide_eq_true (by omega)
      clear HD2
      go_wp2
      go_ret
      exact .inl ⟨2, HRE.out, rfl, HR7.out.2.2.2.2.2.2, by decide⟩
    have d4 : decide ((out.length : Int) < (ff : Int)) = false := decide_eq_false k4
    have d4b : decide (out.length < ff) = false := decide_eq_false (by omega)
    by_cases k5 : most < (out.length : Int) + n
    · have HRE := Aside0.mk (show D = .error 7 from by have := HD2.out; rw [if_neg k4, if_pos k5] at this; exact this.symm)
      have d5 : decide (most < (out.length : Int) + n) = true := decide_eq_true k5
      clear HD2
      go_wp2
      go_region
      go_wp2
      go_ret
      exact .inl ⟨7, HRE.out, rfl, (HR7.out.below (show Below w7.heap.size w7 w7.drew from below_drew1 (Below.refl _ _))).2.2.2.2.2.2, by decide⟩
    have d5 : decide (most < (out.length : Int) + n) = false := decide_eq_false k5
    have HOK := Aside0.mk (show D = .ok (p3, copyS ff (n : Int).toNat out) from by have := HD2.out; rw [if_neg k4, if_neg k5, Int.toNat_natCast] at this; exact this.symm)
    obtain ⟨i0, hi0, hz0, hz1, hz2⟩ := info_parts info5
    have HG := Aside0.mk HR7.out.2.1
    clear HD2
    have HRa := Aside0.mk (HR7.out.below (show Below w7.heap.size w7 w7.drew from below_drew1 (Below.refl _ _)))
    have HKa := Aside0.mk ((KeepR.of_but HK7.out).trans (KeepR.of_below (show Below w7.heap.size w7 w7.drew from below_drew1 (Below.refl _ _))) (v1 := .slice A7 out.length c7) (vo := .slice A7 out.length c7) (.inl rfl))
    go_wp2
    go_region
    go_wp2
    go_loopw [16] (fun v16 wr => ∃ (k : Nat) (v' : Value) (o' : List Int), v16 = .int .i64 (k : Int) ∧ (k : Int) ≤ n ∧ Aside0 (IsR w0 wr g A0 c0 Z N p3 v' o' most vk ks) ∧ Aside0 (KeepR w wr g (.slice A7 out.length c7)) ∧ Aside0 (NewRow w (.slice A7 out.length c7) v') ∧ Aside0 (copyS ff ((n : Int).toNat - k) o' = copyS ff (n : Int).toNat out) ∧ o'.length = out.length + k) (fun v16 _ => (n + 1 - intOf v16).toNat)
    case atStart => exact ⟨0, _, out, rfl, by omega, HRa, HKa, ⟨.inl rfl⟩, ⟨rfl⟩, rfl⟩
    case round =>
      clear HRa HKa HR7 HK7 hc2 hc3
      obtain ⟨k, v', o', rfl, hk, HX, HK8, HN, HCC, hl⟩ := hrel
      have hl1 : o'.length ≤ out.length + k := by omega
      have hl2 : out.length + k ≤ o'.length := by omega
      clear hl
      by_cases hlt : (k : Int) < n
      · have d8 : decide ((k : Int) < n) = true := decide_eq_true hlt
        obtain ⟨A', c', rfl⟩ := own_form HX.out.2.2.2.2.1
        obtain ⟨mm, hmm⟩ : ∃ mm : Nat, (o'.length : Int) - (ff : Int) = mm := ⟨o'.length - ff, by omega⟩
        have HRW := Kd.R_of_own (enc := Value.int .u8) (h1 := fun _ => rfl) (ok := fun _ => True) HX.out.2.2.2.2.1 (fun _ _ => trivial)
        obtain ⟨ga, ca, ea, _, _, _, _⟩ := Kd.R_form HRW (by omega)
        cases ea
        obtain ⟨hxs, hxf⟩ := Kd.R_celln 0 HRW (mm : Int) (by omega) (by omega)
        rw [Int.toNat_natCast] at hxs hxf
        obtain ⟨bb, hbb⟩ : ∃ b, rd o' (mm : Int) = b := ⟨_, rfl⟩
        replace hxs : wr.cell? ⟨ga, mm, none⟩ = some (.int .u8 bb) := hxs.trans (by rw [← hbb]; rfl)
        have hc0 : wr.cell? ⟨g, 2, none⟩ = some (.slice (some ⟨ga, 0, none⟩) o'.length c') := (blk_cell HX.out.1 2).trans rfl
        have m0 : 0 ≤ (mm : Int) := by omega
        have m1 : (mm : Int) < (o'.length : Int) := by omega
        have hne := Aside0.mk (own_ne HX.out.1 HX.out.2.2.2.2.1 (by decide))
        have hlt2 := blk_lt HX.out.1
        have hne0 := World.new_ne wr ⟨g, 2, none⟩ hc0
        have hne1 := World.new_ne wr ⟨ga, mm, none⟩ hxs
        have HBB2 := Aside0.mk hbb
        have hw : IntKind.i64.wrap ((o'.length : Int) - (ff : Int)) = (mm : Int) := by rw [hmm, i64_w]; unfold wrap64; omega
        have HMM := Aside0.mk hmm
        clear HRW hbb hmm
        go_wp2_with fail
        go_region_law
          ((refine step_append_lies _ (by rfl) _ _ _ (by rfl) w0.heap.size 5 i0 _ 1 1 Try.underlying52 hi0 hz0 hz1 hz2 rfl (by omega) (.slice (some ⟨ga, 0, none⟩) o'.length c') o'.length (encs (Value.int .u8) o') (by rfl) ((HX.out.2.2.2.2.1.alloc _).drew)
                ⟨wr.heap.size, 0, none⟩ 1 1 [.int .u8 bb] (by rfl) (by rfl) (World.news_of_block (cs := #[.int .u8 bb]) (t := 5) (fr := (0, 0)) (heap_alloc_new wr _)) (by simp [Value.oneCell'])
                (by omega) (by simp only [maxLen]; omega) (by omega) (by simp; have := below_size HX.out.2.2.2.2.2.2; omega) (wr.heap.size + 1) (by simp) ?_; intro gg cap w9 hown1 hgrow hat hlt1; have BK1 := Aside0.mk (show w9.heap[g]? = some (.cells #[.slice A0 N c0, .int .i64 (p3 : Int), .slice (some ⟨ga, 0, none⟩) o'.length c', .int .i64 most, vk] 102 (0, 0)) from (hgrow.block g (by simp; omega) (fun e => hne.out e.symm)).trans (blk_alloc HX.out.1 _)); have HG1 := Aside0.mk hgrow; have HA1 := Aside0.mk hat; have HO1 := Aside0.mk hown1; clear hown1 hgrow hat; have hk1 : w9.cell? ⟨g, 2, none⟩ = some (.slice (some ⟨ga, 0, none⟩) o'.length c') := (blk_cell BK1.out 2).trans rfl; have hz_1 := blk_frozen BK1.out 2))
        all_goals
          have HPP := Aside0.mk (IsR.push (v1 := .slice (some ⟨gg, 0, none⟩) (o'.length + 1) cap) (o2 := o' ++ [bb]) HX.out (by repeat (first | exact Below.refl _ _ | apply below_drew1 | apply below_alloc | apply pw_below_drewN)) HG1.out (HA1.out.elim (fun h => .inl h.symm) (fun h => .inr ⟨gg, rfl, by omega⟩)) HO1.out (by simp) (by rw [encs_append]; rfl))
          have HC2 := Aside0.mk (show copyS ff ((n : Int).toNat - (k + 1)) (o' ++ [bb]) = copyS ff (n : Int).toNat out by
            rw [← HCC.out, show (n : Int).toNat - k = ((n : Int).toNat - (k + 1)) + 1 from by omega, copyS, ← HBB2.out, ← HMM.out])
          clear BK1 HG1 HA1 HO1 hk1 hz_1 hxs hxf hc0 hne0 hne1 hw
          go_wp2_with fail
          go_roundw
          case rel => exact ⟨k + 1, _, o' ++ [bb], by go_num, by omega, ⟨HPP.out.1⟩, ⟨HK8.out.trans HPP.out.2.1 HN.out⟩, ⟨HN.out.trans HPP.out.2.2 HK8.out.1⟩, HC2, by simp; omega⟩
          case measure => simp [intOf]; omega
      · have d8 : decide ((k : Int) < n) = false := decide_eq_false hlt
        have hc := HCC.out
        rw [show (n : Int).toNat - k = 0 from by omega, copyS] at hc
        have HC2 := Aside0.mk hc
        clear hc HCC
        go_wp2
        go_ret
        exact .inr ⟨p3, _, HOK.out, rfl, v', by rw [← HC2.out]; exact HX.out, HK8.out, HN.out⟩
  · have e1 : (s == 284) = false := beq_eq_false_iff_ne.mpr c3
    clear c2 c3
    go_enter Try.func125, Try.ntmps125
    go_wp2_with fail
    refine (montageref07_LengthBits.calls q1 s _ _ HQ1.out).mono ?_
    rintro e w1 ⟨rfl, hb⟩
    have HB1 := Aside0.mk hb
    clear hb
    go_wp2_with fail
    refine (HB.out _ HB1.out).mono ?_
    rintro e w2 ⟨rfl, hR2, hk2⟩
    have HR2 := Aside0.mk hR2
    have HK2 := Aside0.mk ((KeepBut.of_below HB1.out g none).trans hk2 (.inl rfl))
    clear hR2 hk2 HB HB1
    go_wp2_with fail
    refine (montageref07_LengthOf.calls q2 s m n b _ HQ2.out).mono ?_
    rintro e w3 ⟨rfl, hb⟩
    have HR2 := Aside0.mk (HR2.out.below hb)
    have HK2 := Aside0.mk (HK2.out.trans (KeepBut.of_below hb g none) (.inl rfl))
    clear hb
    have HSY := Aside0.mk (symbol_calls g A0 c0 Z N p1 Al cl l vo vk out ks most w0 w3 HR2.out hN hp1N HK.out (HC.out.but HR.out HK2.out).1 hcl)
    have hsy := readA_sym (show KRes l (kS l) 0 from HK.out ▸ kS_spec l) Z N p1
    have hle := readA_le l (kS l) Z N p1 hp1N
    have hD := HD.out
    unfold distS at hD
    obtain ⟨A, hA⟩ : ∃ A, readA l (kS l) Z N p1 = A := ⟨_, rfl⟩
    rw [hA] at HSY hsy hle hD
    obtain ⟨dd, er, p2, bad⟩ := A
    dsimp only at hD hsy hle HSY
    clear hA HD
    by_cases k1 : er ≠ 0
    · rw [if_pos k1] at hD
      have HRE := Aside0.mk (show D = .error er from hD.symm)
      have H1 := Aside0.mk k1
      have q0 : (er == 0) = false := beq_eq_false_iff_ne.mpr k1
      have q1' : (er != 0) = true := bne_iff_ne.mpr k1
      clear hD k1 hsy hle
      go_wp2_with fail
      refine HSY.out.mono ?_
      rintro e w4 ⟨rfl, hR4, hk4⟩
      have HR4 := Aside0.mk hR4
      clear hR4 hk4 HSY
      go_wp2
      go_ret
      exact .inl ⟨er, HRE.out, rfl, HR4.out.2.2.2.2.2.2, H1.out⟩
    rw [if_neg k1] at hD
    obtain rfl : er = 0 := by omega
    obtain ⟨j, hj, _⟩ := hsy rfl
    obtain rfl : dd = (j : Int) := hj
    have hp2 : p2 ≤ N := hle.1
    clear hsy hle k1
    by_cases k2 : (30 : Int) ≤ (j : Int)
    · rw [if_pos k2] at hD
      have HRE := Aside0.mk (show D = .error 2 from hD.symm)
      have dj : decide (29 < (j : Int)) = true := decide_eq_true (by omega)
      clear hD
      go_wp2_with fail
      refine HSY.out.mono ?_
      rintro e w4 ⟨rfl, hR4, hk4⟩
      have HR4 := Aside0.mk hR4
      clear hR4 hk4 HSY
      go_wp2
      go_ret
      exact .inl ⟨2, HRE.out, rfl, HR4.out.2.2.2.2.2.2, by decide⟩
    rw [if_neg k2, Int.toNat_natCast] at hD
    have dj : decide (29 < (j : Int)) = false := decide_eq_false (by omega)
    obtain ⟨q3, hq3⟩ := (ref_distanceBits j (by omega)).rounds
    have hb13 : bitsD j ≤ 13 := by obtain ⟨_, _, _, _, h, _⟩ := rowsD_of j (by omega); exact h
    obtain ⟨bd, hbd⟩ : ∃ bd, bitsD j = bd := ⟨_, rfl⟩
    rw [hbd] at hq3 hD hb13
    have HQ3 := Aside0.mk hq3
    have HBD := Aside0.mk hbd
    clear hq3 hbd
    go_wp2_with fail
    refine HSY.out.mono ?_
    rintro e w4 ⟨rfl, hR4, hk4⟩
    have HR4 := Aside0.mk hR4
    have HK4 := Aside0.mk (HK2.out.trans hk4 (.inl rfl))
    clear hR4 hk4 HSY HR2 HK2
    go_wp2_with fail
    refine (montageref07_DistanceBits.calls q3 (j : Int) (bd : Int) _ HQ3.out).mono ?_
    rintro e w5 ⟨rfl, hb⟩
    have HR5 := Aside0.mk (HR4.out.below hb)
    have HK5 := Aside0.mk (HK4.out.trans (KeepBut.of_below hb g none) (.inl rfl))
    clear hb HR4 HK4
    by_cases k3 : N < p2 + bd
    · rw [if_pos k3] at hD
      have HRE := Aside0.mk (show D = .error 3 from hD.symm)
      have HBB := Aside0.mk (rbits_bad g A0 c0 Z N p2 bd vo vk out ks most w0 w5 HR5.out hN hp2 k3)
      clear hD k3
      go_wp2_with fail
      refine HBB.out.mono ?_
      rintro e w6 ⟨rfl, hb⟩
      have HR6 := Aside0.mk (HR5.out.below hb)
      clear hb HBB
      go_wp2
      go_ret
      exact .inl ⟨3, HRE.out, rfl, HR6.out.2.2.2.2.2.2, by decide⟩
    rw [if_neg k3] at hD
    have hbb := rbits_ok g A0 c0 Z N p2 bd vo vk out ks most w0 w5 HR5.out hN (by omega) (by omega)
    have hxl : Z / 2 ^ p2 % 2 ^ bd < 2 ^ bd := Nat.mod_lt _ (Nat.two_pow_pos _)
    obtain ⟨x, hx⟩ : ∃ x, Z / 2 ^ p2 % 2 ^ bd = x := ⟨_, rfl⟩
    rw [hx] at hbb hD hxl
    obtain ⟨q4, hq4⟩ := (ref_distanceOf (j : Int) (x : Int)).rounds
    have hxi : (x : Int) < 2 ^ bd := by
      have : (x : Int) < ((2 ^ bd : Nat) : Int) := by omega
      simpa using this
    have hsd : saysD (j : Int) (x : Int) = (baseD j + (x : Int), true) := by
      unfold saysD
      rw [if_pos (by omega), Int.toNat_natCast, HBD.out, if_pos ⟨by omega, hxi⟩]
    have hbase := rowsD_of j (by omega)
    obtain ⟨_, _, _, _, _, hb1, hb2⟩ := hbase
    obtain ⟨ff, hff⟩ : ∃ ff : Nat, baseD j + (x : Int) = ff := ⟨(baseD j + (x : Int)).toNat, by omega⟩
    have hff1 : 1 ≤ ff := by omega
    rw [hsd, hff] at hD hq4
    obtain ⟨p3, hp3⟩ : ∃ p3, p2 + bd = p3 := ⟨_, rfl⟩
    rw [hp3] at hbb hD
    have HBB := Aside0.mk hbb
    have HQ4 := Aside0.mk hq4
    have hD2 : (if (out.length : Int) < (ff : Int) then Except.error (2 : Int) else if most < (out.length : Int) + n then .error 7 else .ok (p3, copyS (ff : Int).toNat (n : Int).toNat out)) = D := hD
    have HD2 := Aside0.mk hD2
    clear hbb hq4 hD hD2 hx hsd hxi hb1 hb2 hff hp3 hxl
    go_wp2_with fail
    refine HBB.out.mono ?_
    rintro e w6 ⟨rfl, hR6, hk6⟩
    have HR6 := Aside0.mk hR6
    have HK6 := Aside0.mk (HK5.out.trans hk6 (.inl rfl))
    clear hR6 hk6 HBB HR5 HK5
    go_wp2_with fail
    refine (montageref07_DistanceOf.calls q4 (j : Int) (x : Int) (ff : Int) true _ HQ4.out).mono ?_
    rintro e w7 ⟨rfl, hb⟩
    have HR7 := Aside0.mk (HR6.out.below hb)
    have HK7 := Aside0.mk (HK6.out.trans (KeepBut.of_below hb g none) (.inl rfl))
    clear hb HR6 HK6
    obtain ⟨A7, c7, rfl⟩ := own_form HR7.out.2.2.2.2.1
    have hc2 := (blk_cell HR7.out.1 2)
    have hc3 := (blk_cell HR7.out.1 3)
    by_cases k4 : (out.length : Int) < (ff : Int)
    · have HRE := Aside0.mk (show D = .error 2 from by have := HD2.out; rw [if_pos k4] at this; exact this.symm)
      have d4 : decide ((out.length : Int) < (ff : Int)) = true := decide_eq_true k4
      have d4b : decide (out.length < ff) = true := decide_eq_true (by omega)
      clear HD2
      go_wp2
      go_ret
      exact .inl ⟨2, HRE.out, rfl, HR7.out.2.2.2.2.2.2, by decide⟩
    have d4 : decide ((out.length : Int) < (ff : Int)) = false := decide_eq_false k4
    have d4b : decide (out.length < ff) = false := decide_eq_false (by omega)
    by_cases k5 : most < (out.length : Int) + n
    · have HRE := Aside0.mk (show D = .error 7 from by have := HD2.out; rw [if_neg k4, if_pos k5] at this; exact this.symm)
      have d5 : decide (most < (out.length : Int) + n) = true := decide_eq_true k5
      clear HD2
      go_wp2
      go_region
      go_wp2
      go_ret
      exact .inl ⟨7, HRE.out, rfl, (HR7.out.below (show Below w7.heap.size w7 w7.drew from below_drew1 (Below.refl _ _))).2.2.2.2.2.2, by decide⟩
    have d5 : decide (most < (out.length : Int) + n) = false := decide_eq_false k5
    have HOK := Aside0.mk (show D = .ok (p3, copyS ff (n : Int).toNat out) from by have := HD2.out; rw [if_neg k4, if_neg k5, Int.toNat_natCast] at this; exact this.symm)
    obtain ⟨i0, hi0, hz0, hz1, hz2⟩ := info_parts info5
    have HG := Aside0.mk HR7.out.2.1
    clear HD2
    have HRa := Aside0.mk (HR7.out.below (show Below w7.heap.size w7 w7.drew from below_drew1 (Below.refl _ _)))
    have HKa := Aside0.mk ((KeepR.of_but HK7.out).trans (KeepR.of_below (show Below w7.heap.size w7 w7.drew from below_drew1 (Below.refl _ _))) (v1 := .slice A7 out.length c7) (vo := .slice A7 out.length c7) (.inl rfl))
    go_wp2
    go_region
    go_wp2
    go_loopw [16] (fun v16 wr => ∃ (k : Nat) (v' : Value) (o' : List Int), v16 = .int .i64 (k : Int) ∧ (k : Int) ≤ n ∧ Aside0 (IsR w0 wr g A0 c0 Z N p3 v' o' most vk ks) ∧ Aside0 (KeepR w wr g (.slice A7 out.length c7)) ∧ Aside0 (NewRow w (.slice A7 out.length c7) v') ∧ Aside0 (copyS ff ((n : Int).toNat - k) o' = copyS ff (n : Int).toNat out) ∧ o'.length = out.length + k) (fun v16 _ => (n + 1 - intOf v16).toNat)
    case atStart => exact ⟨0, _, out, rfl, by omega, HRa, HKa, ⟨.inl rfl⟩, ⟨rfl⟩, rfl⟩
    case round =>
      clear HRa HKa HR7 HK7 hc2 hc3
      obtain ⟨k, v', o', rfl, hk, HX, HK8, HN, HCC, hl⟩ := hrel
      have hl1 : o'.length ≤ out.length + k := by omega
      have hl2 : out.length + k ≤ o'.length := by omega
      clear hl
      by_cases hlt : (k : Int) < n
      · have d8 : decide ((k : Int) < n) = true := decide_eq_true hlt
        obtain ⟨A', c', rfl⟩ := own_form HX.out.2.2.2.2.1
        obtain ⟨mm, hmm⟩ : ∃ mm : Nat, (o'.length : Int) - (ff : Int) = mm := ⟨o'.length - ff, by omega⟩
        have HRW := Kd.R_of_own (enc := Value.int .u8) (h1 := fun _ => rfl) (ok := fun _ => True) HX.out.2.2.2.2.1 (fun _ _ => trivial)
        obtain ⟨ga, ca, ea, _, _, _, _⟩ := Kd.R_form HRW (by omega)
        cases ea
        obtain ⟨hxs, hxf⟩ := Kd.R_celln 0 HRW (mm : Int) (by omega) (by omega)
        rw [Int.toNat_natCast] at hxs hxf
        obtain ⟨bb, hbb⟩ : ∃ b, rd o' (mm : Int) = b := ⟨_, rfl⟩
        replace hxs : wr.cell? ⟨ga, mm, none⟩ = some (.int .u8 bb) := hxs.trans (by rw [← hbb]; rfl)
        have hc0 : wr.cell? ⟨g, 2, none⟩ = some (.slice (some ⟨ga, 0, none⟩) o'.length c') := (blk_cell HX.out.1 2).trans rfl
        have m0 : 0 ≤ (mm : Int) := by omega
        have m1 : (mm : Int) < (o'.length : Int) := by omega
        have hne := Aside0.mk (own_ne HX.out.1 HX.out.2.2.2.2.1 (by decide))
        have hlt2 := blk_lt HX.out.1
        have hne0 := World.new_ne wr ⟨g, 2, none⟩ hc0
        have hne1 := World.new_ne wr ⟨ga, mm, none⟩ hxs
        have HBB2 := Aside0.mk hbb
        have hw : IntKind.i64.wrap ((o'.length : Int) - (ff : Int)) = (mm : Int) := by rw [hmm, i64_w]; unfold wrap64; omega
        have HMM := Aside0.mk hmm
        clear HRW hbb hmm
        go_wp2_with fail
        go_region_law
          ((refine step_append_lies _ (by rfl) _ _ _ (by rfl) w0.heap.size 5 i0 _ 1 1 Try.underlying52 hi0 hz0 hz1 hz2 rfl (by omega) (.slice (some ⟨ga, 0, none⟩) o'.length c') o'.length (encs (Value.int .u8) o') (by rfl) ((HX.out.2.2.2.2.1.alloc _).drew)
                ⟨wr.heap.size, 0, none⟩ 1 1 [.int .u8 bb] (by rfl) (by rfl) (World.news_of_block (cs := #[.int .u8 bb]) (t := 5) (fr := (0, 0)) (heap_alloc_new wr _)) (by simp [Value.oneCell'])
                (by omega) (by simp only [maxLen]; omega) (by omega) (by simp; have := below_size HX.out.2.2.2.2.2.2; omega) (wr.heap.size + 1) (by simp) ?_; intro gg cap w9 hown1 hgrow hat hlt1; have BK1 := Aside0.mk (show w9.heap[g]? = some (.cells #[.slice A0 N c0, .int .i64 (p3 : Int), .slice (some ⟨ga, 0, none⟩) o'.length c', .int .i64 most, vk] 102 (0, 0)) from (hgrow.block g (by simp; omega) (fun e => hne.out e.symm)).trans (blk_alloc HX.out.1 _)); have HG1 := Aside0.mk hgrow; have HA1 := Aside0.mk hat; have HO1 := Aside0.mk hown1; clear hown1 hgrow hat; have hk1 : w9.cell? ⟨g, 2, none⟩ = some (.slice (some ⟨ga, 0, none⟩) o'.length c') := (blk_cell BK1.out 2).trans rfl; have hz_1 := blk_frozen BK1.out 2))
        all_goals
          have HPP := Aside0.mk (IsR.push (v1 := .slice (some ⟨gg, 0, none⟩) (o'.length + 1) cap) (o2 := o' ++ [bb]) HX.out (by repeat (first | exact Below.refl _ _ | apply below_drew1 | apply below_alloc | apply pw_below_drewN)) HG1.out (HA1.out.elim (fun h => .inl h.symm) (fun h => .inr ⟨gg, rfl, by omega⟩)) HO1.out (by simp) (by rw [encs_append]; rfl))
          have HC2 := Aside0.mk (show copyS ff ((n : Int).toNat - (k + 1)) (o' ++ [bb]) = copyS ff (n : Int).toNat out by
            rw [← HCC.out, show (n : Int).toNat - k = ((n : Int).toNat - (k + 1)) + 1 from by omega, copyS, ← HBB2.out, ← HMM.out])
          clear BK1 HG1 HA1 HO1 hk1 hz_1 hxs hxf hc0 hne0 hne1 hw
          go_wp2_with fail
          go_roundw
          case rel => exact ⟨k + 1, _, o' ++ [bb], by go_num, by omega, ⟨HPP.out.1⟩, ⟨HK8.out.trans HPP.out.2.1 HN.out⟩, ⟨HN.out.trans HPP.out.2.2 HK8.out.1⟩, HC2, by simp; omega⟩
          case measure => simp [intOf]; omega
      · have d8 : decide ((k : Int) < n) = false := decide_eq_false hlt
        have hc := HCC.out
        rw [show (n : Int).toNat - k = 0 from by omega, copyS] at hc
        have HC2 := Aside0.mk hc
        clear hc HCC
        go_wp2
        go_ret
        exact .inr ⟨p3, _, HOK.out, rfl, v', by rw [← HC2.out]; exact HX.out, HK8.out, HN.out⟩

end Go.Proofs.Ytmanmjjjepdhlaa.XPrefix
