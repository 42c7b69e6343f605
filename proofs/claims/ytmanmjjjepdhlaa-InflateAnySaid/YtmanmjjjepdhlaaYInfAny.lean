/- InflateAny: what any bytes say It has no conditions. -/
import Derived.Test.YtmanmjjjepdhlaaYInfR10
import Derived.Test.YtmanmjjjepdhlaaYInfAwake
import Derived.BigRegion
import Derived.RegionTactic
import Derived.ChangeAlike
import Derived.Deep.RegionWith
import Derived.Deep.RegionLaw
import Derived.Laws.Tables
import Derived.Deep.QuietTactic
import Derived.BigQuiet
import Derived.Deep.RegionHeld3
import Derived.Deep.AppendLies
import Derived.Deep.DrawnRows
import Derived.Laws.CopyOwn
import Derived.Deep.MidRow
import Derived.Laws.ResultCell
import Derived.ChangeKeysEq
import Derived.Laws.BitsAllLaws
namespace Go.Proofs.Ytmanmjjjepdhlaa.XPrefix
set_option linter.unusedVariables false
set_option linter.unusedSimpArgs false
open Go.RowKit Go.Proofs.YtmanmjjjepdhlaaW.PrintWords Go.Proofs.YtmanmjjjepdhlaaW.PrintLast Go.Proofs.YtmanmjjjepdhlaaW.PrintMore
attribute [local go_sem] max2_int min2_int max_two min_two max_three min_three max_four min_four

open XInflateAny XTok
set_option maxHeartbeats 1600000 in
set_option maxRecDepth 100000 in
theorem inflateAny_walk (S : ByteArray) (most : Int) (w : World) (hs : S.size ≤ 140737488351232) (hm : (Lit.int .i64 most).wf = true) : Calls Try.prog 6 #[.string S, .int .i64 most] w fun e w' => e = .returned (.bool true) ∧ Below w.heap.size w w' := by
  have HA := Aside0.mk (inflate_awake w)
  by_cases h : S.size ≤ 200 ∧ most ≤ 2000
  · have d0 : decide (200 < (S.size : Int)) = false := decide_eq_false (by omega)
    have d1 : decide (2000 < most) = false := decide_eq_false (by omega)
    obtain ⟨Z, hZ⟩ := S_num S
    have hIZ : IsZ S Z := ⟨by omega, hZ⟩
    have h1 := fun W => stream_calls S Z most W hIZ
    have h2 := fun W => rstream_calls S Z most W hIZ (by omega)
    have h3 := fun W => all_calls S Z most W hIZ
    have h4 := fun W => rall_calls S Z most W hIZ (by omega)
    have h5 := fun W => blocks_calls S Z most W hIZ
    have hkl := kindS_len S Z most (by omega)
    unfold RSPost at h2
    have hke : (strS (decS S Z most)).2.2 = (kindS (decS S Z most)).2 := by
      rcases decS S Z most with e | ⟨q, o, k⟩ <;> rfl
    rw [hke] at h1 h2
    obtain ⟨A, hA⟩ : ∃ A, allS S.size (strS (decS S Z most)) = A := ⟨_, rfl⟩
    rw [hA] at h3 h4
    obtain ⟨t, ht⟩ : ∃ t, (strS (decS S Z most)).1 = t := ⟨_, rfl⟩
    obtain ⟨n, hn⟩ : ∃ n, (strS (decS S Z most)).2.1 = n := ⟨_, rfl⟩
    rw [ht, hn] at h1 h2
    obtain ⟨K, hK⟩ : ∃ K, kindS (decS S Z most) = K := ⟨_, rfl⟩
    rw [hK] at h1 h2 h5 hkl
    obtain ⟨at_, ae⟩ := A
    obtain ⟨k, ke⟩ := K
    obtain ⟨ki, hki⟩ := ints_same k hkl
    have H1 := Aside0.mk h1
    have H2 := Aside0.mk h2
    have H3 := Aside0.mk h3
    have H4 := Aside0.mk h4
    have H5 := Aside0.mk h5
    have HKI := Aside0.mk hki
    have e2 : (n == n) = true := beq_self_eq_true n
    have e3 : (n != n) = false := bne_self_eq_false n
    have e4 : (ke == ke) = true := beq_self_eq_true ke
    have e5 : (ke != ke) = false := bne_self_eq_false ke
    have e7 : (ae == ae) = true := beq_self_eq_true ae
    clear h1 h2 h3 h4 h5 hke hkl hA ht hn hK hki hZ hIZ h hs hm
    go_enter Try.func6, Try.ntmps6
    go_wp2_with fail
    refine HA.out.mono ?_
    rintro e w1 ⟨rfl, hb⟩
    have B1 := Aside0.mk hb
    clear hb HA
    go_wp2_with fail
    refine (H1.out _).mono ?_
    rintro e w2 ⟨rfl, hb⟩
    have B2 := Aside0.mk (below_step B1.out hb)
    clear hb H1 B1
    go_wp2_with fail
    refine (H2.out _).mono ?_
    rintro e w3 ⟨vk, rfl, hR, hb⟩
    have B3 := Aside0.mk (below_step B2.out hb)
    have R3 := Aside0.mk hR
    clear hb H2 B2 hR
    go_wp2_with fail
    refine (H3.out _).mono ?_
    rintro e w4 ⟨rfl, hb⟩
    have B4 := Aside0.mk (below_step B3.out hb)
    have R4 := Aside0.mk (Kd.R_below R3.out hb)
    clear hb H3 B3 R3
    go_wp2_with fail
    refine (H4.out _).mono ?_
    rintro e w5 ⟨rfl, hb⟩
    have B5 := Aside0.mk (below_step B4.out hb)
    have R5 := Aside0.mk (Kd.R_below R4.out hb)
    clear hb H4 B4 R4
    go_wp2_with fail
    refine (H5.out _).mono ?_
    rintro e w6 ⟨vl, rfl, hR, hb⟩
    have B6 := Aside0.mk (below_step B5.out hb)
    have R6 := Aside0.mk (Kd.R_below R5.out hb)
    obtain ⟨Al, cl, rfl⟩ := Kd.R_slice hR
    obtain ⟨Ak, ck, rfl⟩ := Kd.R_slice R6.out
    have L6 := Aside0.mk hR
    clear hb H5 B5 R5 hR
    go_wp2_with fail
    refine (montagelaw08_ints.calls ki Al cl k Ak ck k true _ (Kd.R_reads' L6.out).2.2 (Kd.R_reads' L6.out).2.1 (Kd.R_reads' R6.out).2.2 (Kd.R_reads' R6.out).2.1 HKI.out).mono ?_
    rintro e w7 ⟨rfl, hd⟩
    have B7 := Aside0.mk (below_step B6.out hd.below)
    clear hd
    go_wp2
    go_ret
    exact ⟨rfl, B7.out⟩
  · by_cases h1 : S.size ≤ 200
    · have d0 : decide (200 < (S.size : Int)) = false := decide_eq_false (by omega)
      have d1 : decide (2000 < most) = true := decide_eq_true (by omega)
      clear h h1
      go_enter Try.func6, Try.ntmps6
      go_wp2_with fail
      refine HA.out.mono ?_
      rintro e w1 ⟨rfl, hb⟩
      have B1 := Aside0.mk hb
      clear hb
      go_wp2
      go_ret
      exact ⟨rfl, B1.out⟩
    · have d0 : decide (200 < (S.size : Int)) = true := decide_eq_true (by omega)
      clear h h1
      go_enter Try.func6, Try.ntmps6
      go_wp2_with fail
      refine HA.out.mono ?_
      rintro e w1 ⟨rfl, hb⟩
      have B1 := Aside0.mk hb
      clear hb
      go_wp2
      go_ret
      exact ⟨rfl, B1.out⟩

end Go.Proofs.Ytmanmjjjepdhlaa.XPrefix
