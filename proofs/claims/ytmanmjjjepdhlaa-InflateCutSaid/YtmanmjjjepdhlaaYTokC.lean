/- InflateCut: a stream takes its own bytes, and fails with fewer It has no conditions. -/
import Derived.Test.YtmanmjjjepdhlaaYTokB
import Derived.Laws.Strings
namespace Go.Proofs.Ytmanmjjjepdhlaa.XInflateTokens
set_option linter.unusedVariables false
set_option linter.unusedSimpArgs false
open Go.RowKit Go.Proofs.YtmanmjjjepdhlaaW.PrintWords Go.Proofs.YtmanmjjjepdhlaaW.PrintLast Go.Proofs.YtmanmjjjepdhlaaW.PrintMore
attribute [local go_sem] max2_int min2_int max_two min_two max_three min_three max_four min_four
open XPrefix XTok
open XInflateAny (by8 bl)
/-- The text and more behind it. -/
theorem TextIs.more {l : List S106} {S U : ByteArray} (h : TextIs l S) (hU : U.size ≤ 20) (hk : okT l []) (hl : (expT l []).length ≤ 2000) :
  ∃ Z, IsZ (S ++ U) Z ∧ strS (decS (S ++ U) Z 2000) = (strOfNums (expT l []), (S.size : Int), 0) := by
 obtain ⟨Z0, q, t, hZ, hs, h8, hE, hA, ht⟩ := h
 have hz : (S ++ U).size = S.size + U.size := ByteArray.size_append
 obtain ⟨Z, h1, h2⟩ := isZ_more (U := U) hZ (by omega)
 have hm : mostS 2000 = 2000 := rfl
 have hd := dec_tokens (S ++ U) Z Z0 q t l 2000 (by omega) (mod_down h2 (by omega)) h8 hE hA hk (by rw [hm]; omega)
 refine ⟨Z, h1, ?_⟩
 rw [hd]
 show (strOfNums (expT l []), (((t + 7) / 8 : Nat) : Int), (0 : Int)) = _
 rw [hs]
theorem TextIs.stream_more {l : List S106} {S U : ByteArray} (h : TextIs l S) (hU : U.size ≤ 20) (hk : okT l []) (hl : (expT l []).length ≤ 2000) (w : World) :
  Calls Try.prog 23 #[.string (S ++ U), .int .i64 2000] w fun e w' => e = .returned (.tuple #[.string (strOfNums (expT l [])), .int .i64 (S.size : Int), .int .i64 0]) ∧ Below w.heap.size w w' := by
 obtain ⟨Z, h1, h2⟩ := h.more hU hk hl
 have := stream_calls (S ++ U) Z 2000 w h1
 rwa [h2] at this
theorem TextIs.all_more {l : List S106} {S U : ByteArray} (h : TextIs l S) (hU : U.size ≤ 20) (hk : okT l []) (hl : (expT l []).length ≤ 2000) (w : World) :
  Calls Try.prog 25 #[.string (S ++ U), .int .i64 2000] w fun e w' => (∃ o, e = .returned (.tuple #[.string o, .int .i64 (if U.size = 0 then 0 else 2)])) ∧ Below w.heap.size w w' := by
 obtain ⟨Z, h1, h2⟩ := h.more hU hk hl
 have := all_calls (S ++ U) Z 2000 w h1
 rw [h2] at this
 have hz : (S ++ U).size = S.size + U.size := ByteArray.size_append
 refine this.mono ?_
 rintro e w' ⟨rfl, hb⟩
 refine ⟨?_, hb⟩
 unfold allS
 dsimp only
 rw [if_neg (by decide)]
 by_cases hu : U.size = 0
 ·rw [if_neg (by omega), if_pos hu]
  exact ⟨_, rfl⟩
 ·rw [if_pos (by omega), if_neg hu]
  exact ⟨_, rfl⟩
theorem TextIs.cut {l : List S106} {S : ByteArray} (h : TextIs l S) (hk : okT l []) (hl : (expT l []).length ≤ 2000) (k : Nat) (hk2 : k < S.size) (w : World) :
  Calls Try.prog 23 #[.string (S.extract 0 k), .int .i64 2000] w fun e w' => e = .returned (.tuple #[.string ⟨#[]⟩, .int .i64 0, .int .i64 3]) ∧ Below w.heap.size w w' := by
 obtain ⟨Z, q, t, hZ, hs, h8, hE, hA, ht⟩ := h
 obtain ⟨h1, h2⟩ := isZ_cut (k := k) hZ (by omega)
 have hm : mostS 2000 = 2000 := rfl
 have hd := dec_cut (S.extract 0 k) Z q t l 2000 (by rw [h2]; omega) h8 hE hA hk (by rw [hm]; omega)
 have := stream_calls (S.extract 0 k) Z 2000 w h1
 rw [hd] at this
 exact this
theorem TextIs.pos {l : List S106} {S : ByteArray} (h : TextIs l S) : 0 < S.size ∧ S.size ≤ 1000 := by
 obtain ⟨Z, q, t, hZ, hs, h8, hE, hA, ht⟩ := h
 have := hE.le
 have := hA.lt
 omega
set_option maxHeartbeats 1600000 in
set_option maxRecDepth 100000 in
theorem inflateCut_walk (A0 : Option Addr) (c0 : Nat) (l : List S106) (U : ByteArray) (n : Int) (w : World) (hr0 : Kd.C k106 w A0 l.length l) (hc0 : l.length ≤ c0) (hm0 : l.length ≤ maxLen) (y0 : l.length * 24 ≤ 140737488351232) (g0 : ∀ x ∈ l, G106 x) (w1 : U.size ≤ 140737488351232) (w2 : (Lit.int .u16 n).wf = true) : Calls Try.prog 8 #[.slice A0 l.length c0, .string U, .int .u16 n] w fun e w' => e = .returned (.bool true) ∧ Below w.heap.size w w' := by
 have HA := Aside0.mk (inflate_awake w)
 have HC := Aside0.mk hr0
 have hn : 0 ≤ n ∧ n < 65536 := by
  have := w2
  simp only [Lit.wf, IntKind.min, IntKind.max, IntKind.signed, IntKind.bits, Bool.and_eq_true, decide_eq_true_eq] at this
  simp at this
  omega
 have hn0 := hn.1
 have hn1 := hn.2
 clear w2 hn
 by_cases hl : l.length ≤ 60
 ·have d0 : decide (60 < (l.length : Int)) = false := decide_eq_false (by omega)
  have d0b : decide (60 < l.length) = false := decide_eq_false (by omega)
  by_cases hu : U.size ≤ 20
  ·have d1 : decide (20 < (U.size : Int)) = false := decide_eq_false (by omega)
   have d1b : decide (20 < U.size) = false := decide_eq_false (by omega)
   obtain ⟨⟨want, er⟩, ⟨ke, hke⟩, hres⟩ := expand_is l hl
   have HKE := Aside0.mk hke
   have HG := Aside0.mk (fun j hj => g106_u8 g0 j hj)
   clear hke hr0 hm0 y0 g0
   by_cases her : er = 0
   ·subst her
    obtain ⟨hmay, hok, hwant, hlen⟩ := hres rfl
    dsimp only at hwant
    have HMY := Aside0.mk hmay
    have HOK := Aside0.mk hok
    have HWN := Aside0.mk hwant
    have HLN := Aside0.mk hlen
    clear hres hmay hok hwant hlen
    go_enter Try.func8, Try.ntmps8
    go_wp2_with fail
    refine HA.out.mono ?_
    rintro e w1 ⟨rfl, hb⟩
    have B1 := Aside0.mk hb
    clear hb HA
    go_wp2_with fail
    refine (montageref07_Expand.calls ke A0 c0 l 2000 want 0 _ (Kd.C_below HC.out B1.out) hc0 HKE.out).mono ?_
    rintro e w2 ⟨rfl, hb⟩
    have B2 := Aside0.mk (below_step B1.out hb)
    clear hb B1
    go_wp2_with fail
    refine (tokens_calls A0 c0 l _ (Kd.C_below HC.out B2.out) hc0 hl HMY.out HG.out).mono ?_
    rintro e w3 ⟨Z, q, t, v, rfl, hR, hB, hZ, h8, hE, hAt, ht⟩
    obtain ⟨A3, c3, rfl, hC3⟩ := R_form hR
    have hcap := (Kd.R_reads' hR).2.1
    obtain ⟨kt, hkt⟩ := (XInflateAny.rtext_is Z t (by omega) hZ).rounds
    have HT := Aside0.mk (TextIs.of hZ h8 hE hAt ht hl)
    obtain ⟨S, hS⟩ : ∃ S, strOfNums (by8 Z ((t + 7) / 8)) = S := ⟨_, rfl⟩
    rw [hS] at HT hkt
    have HKT := Aside0.mk hkt
    have HC3 := Aside0.mk hC3
    have HCP := Aside0.mk hcap
    have B3 := Aside0.mk (below_step B2.out hB)
    have hp := HT.out.pos
    have hs0 : 0 < (S.size : Int) := by omega
    have hs1 : (S.size : Int) ≤ 1000 := by omega
    clear hR hB hZ h8 hE hAt ht hC3 hcap hkt hS B2
    go_wp2_with fail
    refine (XInflateAny.montageref01_Text.calls kt A3 c3 (bl Z t) S _ HC3.out HCP.out HKT.out).mono ?_
    rintro e w4 ⟨rfl, hb⟩
    have B4 := Aside0.mk (below_step B3.out hb)
    clear hb B3
    go_wp2_with fail
    refine (HT.out.stream_more hu HOK.out HLN.out _).mono ?_
    rintro e w5 ⟨rfl, hb⟩
    rw [← HWN.out]
    have B5 := Aside0.mk (below_step B4.out hb)
    clear hb B4
    obtain ⟨k, hk⟩ : ∃ k : Nat, n % (S.size : Int) = k := ⟨(n % (S.size : Int)).toNat, by have := Int.emod_nonneg n (show (S.size : Int) ≠ 0 by omega); omega⟩
    have hk2 : k < S.size := by have := Int.emod_lt_of_pos n hs0; omega
    have hk3 : (k : Int) ≤ (S.size : Int) := by omega
    go_wp2_with fail
    refine (HT.out.cut HOK.out HLN.out k hk2 _).mono ?_
    rintro e w6 ⟨rfl, hb⟩
    have B6 := Aside0.mk (below_step B5.out hb)
    clear hb B5
    go_wp2_with fail
    refine (HT.out.all_more hu HOK.out HLN.out _).mono ?_
    rintro e w7 ⟨⟨o, rfl⟩, hb⟩
    have B7 := Aside0.mk (below_step B6.out hb)
    clear hb B6
    by_cases hu0 : U.size = 0
    ·obtain rfl : U = ⟨#[]⟩ := by
      obtain ⟨a⟩ := U
      congr 1
      exact Array.eq_empty_of_size_eq_zero hu0
     rw [if_pos hu0]
     go_wp2
     go_ret
     exact ⟨rfl, B7.out⟩
    ·have hue0 : U.toList ≠ [] := fun e => hu0 (by rw [ByteArray.toList_eq] at e; have := congrArg List.length e; rwa [data_length] at this)
     have hue : (U.toList = []) = False := eq_false hue0
     have hui : U.toList.isEmpty = false := by cases h : U.toList with | nil => exact absurd h hue0 | cons _ _ => rfl
     rw [if_neg hu0]
     go_wp2
     go_ret
     exact ⟨rfl, B7.out⟩
   ·have q0 : (er == 0) = false := beq_eq_false_iff_ne.mpr her
    have q1 : (er != 0) = true := bne_iff_ne.mpr her
    clear her hres
    go_enter Try.func8, Try.ntmps8
    go_wp2_with fail
    refine HA.out.mono ?_
    rintro e w1 ⟨rfl, hb⟩
    have B1 := Aside0.mk hb
    clear hb HA
    go_wp2_with fail
    refine (montageref07_Expand.calls ke A0 c0 l 2000 want er _ (Kd.C_below HC.out B1.out) hc0 HKE.out).mono ?_
    rintro e w2 ⟨rfl, hb⟩
    have B2 := Aside0.mk (below_step B1.out hb)
    clear hb B1
    go_wp2
    go_ret
    exact ⟨rfl, B2.out⟩
  ·have d1 : decide (20 < (U.size : Int)) = true := decide_eq_true (by omega)
   have d1b : decide (20 < U.size) = true := decide_eq_true (by omega)
   clear hr0 hm0 y0 g0 hl hu
   go_enter Try.func8, Try.ntmps8
   go_wp2_with fail
   refine HA.out.mono ?_
   rintro e w1 ⟨rfl, hb⟩
   have B1 := Aside0.mk hb
   clear hb HA
   go_wp2
   go_ret
   exact ⟨rfl, B1.out⟩
 ·have d0 : decide (60 < (l.length : Int)) = true := decide_eq_true (by omega)
  have d0b : decide (60 < l.length) = true := decide_eq_true (by omega)
  clear hr0 hm0 y0 g0 hl
  go_enter Try.func8, Try.ntmps8
  go_wp2_with fail
  refine HA.out.mono ?_
  rintro e w1 ⟨rfl, hb⟩
  have B1 := Aside0.mk hb
  clear hb HA
  go_wp2
  go_ret
  exact ⟨rfl, B1.out⟩
end Go.Proofs.Ytmanmjjjepdhlaa.XInflateTokens
