/- The walk of the law CrcOf. It has no conditions beyond those of the row. -/
import Derived.Test.YtndcfccbicognaaYCrc
import Derived.Deep.RegionWith
namespace Go.Proofs.Ytndcfccbicognaa.XCrcOf
set_option linter.unusedVariables false
set_option linter.unusedSimpArgs false
open Go.RowKit Go.Proofs.YtndcfccbicognaaW.PrintWords Go.Proofs.YtndcfccbicognaaW.PrintLast Go.Proofs.YtndcfccbicognaaW.PrintMore
theorem IsSum.below {B : Nat} {W W1 : World} {g : Nat} {c n : Int} (h : IsSum B W g c n) (hb : Below W.heap.size W W1) : IsSum B W1 g c n := by
  obtain ⟨gt, h1, h2, h3, h4, h5⟩ := h
  exact ⟨gt, h1, h2, h3, blk_below h4 hb, blk_below h5 hb⟩

theorem bt_extract (s : ByteArray) (a b i : Nat) (h : a + i < b) (hb : b ≤ s.size) : bt (s.extract a b) (i : Int) = bt s ((a + i : Nat) : Int) := by
  have hsz : (s.extract a b).size = b - a := by rw [ByteArray.size_extract]; omega
  unfold bt
  rw [dif_pos (by rw [Int.toNat_natCast]; omega), dif_pos (by rw [Int.toNat_natCast]; omega)]
  simp only [Int.toNat_natCast, ByteArray.getElem_extract]

theorem upS_head (c : Int) (s : ByteArray) (k : Nat) (hk : k ≤ s.size) : ∀ j, j ≤ k → upS c (s.extract 0 k) j = upS c s j
  | 0, _ => rfl
  | j + 1, h => by
    rw [upS, upS, upS_head c s k hk j (by omega), bt_extract s 0 k j (by omega) hk, Nat.zero_add]

theorem upS_tail (c : Int) (s : ByteArray) (k : Nat) (hk : k ≤ s.size) : ∀ j, k + j ≤ s.size → upS (upS c s k) (s.extract k s.size) j = upS c s (k + j)
  | 0, _ => rfl
  | j + 1, h => by
    rw [upS, upS_tail c s k hk j (by omega), bt_extract s k s.size j (by omega) (Nat.le_refl _), ← Nat.add_assoc, upS]

theorem size_head (s : ByteArray) (k : Nat) (hk : k ≤ s.size) : (s.extract 0 k).size = k := by rw [ByteArray.size_extract]; omega
theorem size_tail (s : ByteArray) (k : Nat) : (s.extract k s.size).size = s.size - k := by rw [ByteArray.size_extract]; omega
theorem crc_head (s : ByteArray) (k : Nat) (hk : k ≤ s.size) : crcOf (s.extract 0 k) = notU (upS 4294967295 s k) := by
  unfold crcOf
  rw [size_head s k hk, upS_head _ s k hk k (Nat.le_refl _)]

set_option maxHeartbeats 800000 in
set_option maxRecDepth 100000 in
theorem law_calls (s : ByteArray) (n : Int) (hn : 0 ≤ n ∧ n ≤ 65535) (hs : s.size ≤ 300) (w : World) : Calls Try.prog 8 #[.string s, .int .u16 n] w fun e w' => e = .returned (.bool true) ∧ Below w.heap.size w w' := by
  have c0 : decide (300 < (s.size : Int)) = false := decide_eq_false (by omega)
  obtain ⟨k, hk⟩ := Int.eq_ofNat_of_zero_le (Int.emod_nonneg n (show (s.size : Int) + 1 ≠ 0 by omega))
  have hks : k ≤ s.size := by have := Int.emod_lt_of_pos n (show 0 < (s.size : Int) + 1 by omega); omega
  go_enter Try.func8, Try.ntmps8
  go_wp2_with fail
  refine (awake_calls w).mono ?_
  rintro e w1 ⟨rfl, hb⟩
  have HB := Aside0.mk hb
  clear hb
  go_wp2_with fail
  go_region_with (first
    | (go_at_call 39; refine (new_calls _).mono ?_; rintro e w2 ⟨g, rfl, hI, hb⟩; have HB2 := Aside0.mk hb; have HI := Aside0.mk hI; clear hb hI)
    | (go_at_call 40; refine (add_calls _ _ 4294967295 0 (by omega) (s.extract 0 k) (by rw [ByteArray.size_extract]; omega) _ HI.out).mono ?_; rintro e w3 ⟨rfl, hI2, hg⟩; have HI2 := Aside0.mk hI2; have HG := Aside0.mk hg; clear hI2 hg))
  -- how far the first part came
  have hI3 := HI2.out
  rw [size_head s k hks, upS_head _ s k hks k (Nat.le_refl _), w64 (by omega) (by omega), Int.zero_add] at hI3
  clear HI2
  have hr := upS_range 4294967295 s (by omega) k
  obtain ⟨ck, hck⟩ : ∃ ck, ck = upS 4294967295 s k := ⟨_, rfl⟩
  rw [← hck] at hI3 hr
  have HI3 := Aside0.mk hI3
  have HCK := Aside0.mk hck
  clear hI3 hck
  obtain ⟨q1, hq1⟩ := ref_of s (by omega)
  obtain ⟨q2, hq2⟩ := ref_of (s.extract 0 k) (by rw [size_head s k hks]; omega)
  rw [crc_head s k hks, ← HCK.out] at hq2
  have Q1 := Aside0.mk hq1
  have Q2 := Aside0.mk hq2
  clear hq1 hq2
  obtain ⟨v, hv⟩ : ∃ v, v = notU ck := ⟨_, rfl⟩
  obtain ⟨z, hz⟩ : ∃ z, z = crcOf s := ⟨_, rfl⟩
  rw [← hv] at Q2
  rw [← hz] at Q1
  have HV := Aside0.mk hv
  have HZ := Aside0.mk hz
  clear hv hz
  go_wp2_with fail
  refine (value_calls _ g ck _ (by omega) w3 HI3.out).mono ?_
  rintro e w4 ⟨rfl, rfl⟩
  rw [← HV.out]
  go_wp2_with fail
  refine (add_calls _ g ck _ (by omega) (s.extract k s.size) (by rw [size_tail]; omega) w3 HI3.out).mono ?_
  rintro e w4 ⟨rfl, hI4, hg⟩
  rw [size_tail, HCK.out, upS_tail _ s k hks _ (by omega), show k + (s.size - k) = s.size from by omega, w64 (by omega) (by omega), show (k : Int) + ((s.size - k : Nat) : Int) = (s.size : Int) from by omega] at hI4
  have HI4 := Aside0.mk hI4
  have HG2 := Aside0.mk hg
  clear hI4 hg
  go_wp2_with fail
  refine (of_calls s (by omega) w4).mono ?_
  rintro e w5 ⟨rfl, hb⟩
  rw [← HZ.out]
  have HB3 := Aside0.mk hb
  clear hb
  go_wp2_with fail
  refine (montageref03_Of.calls q1 s z w5 Q1.out).mono ?_
  rintro e w6 ⟨rfl, hb⟩
  have HB4 := Aside0.mk hb
  clear hb
  go_wp2_with fail
  refine (montageref03_Of.calls q2 (s.extract 0 k) v w6 Q2.out).mono ?_
  rintro e w7 ⟨rfl, hb⟩
  have HB5 := Aside0.mk hb
  clear hb
  have HI7 := Aside0.mk (((HI4.out.below HB3.out).below HB4.out).below HB5.out)
  go_wp2_with fail
  refine (value_calls _ g _ _ (upS_range 4294967295 s (by omega) s.size) w7 HI7.out).mono ?_
  rintro e w8 ⟨rfl, rfl⟩
  rw [show notU (upS 4294967295 s s.size) = z from HZ.out.symm]
  go_wp2_with fail
  refine (montageref03_Of.calls q1 s z w7 Q1.out).mono ?_
  rintro e w8 ⟨rfl, hb⟩
  have HB6 := Aside0.mk hb
  clear hb
  have HI8 := Aside0.mk (HI7.out.below HB6.out)
  go_wp2_with fail
  refine (len_calls _ g _ _ w8 HI8.out).mono ?_
  rintro e w9 ⟨rfl, rfl⟩
  go_wp2_with fail
  refine (add_nil s w8).mono ?_
  rintro e w9 ⟨rfl, rfl⟩
  go_wp2_with fail
  refine (value_nil w8).mono ?_
  rintro e w9 ⟨rfl, rfl⟩
  go_wp2_with fail
  refine (len_nil w8).mono ?_
  rintro e w9 ⟨rfl, rfl⟩
  go_wp2
  go_ret
  refine ⟨rfl, ?_⟩
  obtain ⟨_, hge0, _⟩ := HI.out
  have hge : w1.heap.size ≤ g := hge0
  have s1 := HB.out.size
  have s2 : w1.heap.size ≤ w2.heap.size := HB2.out.size
  have s3 := HG.out.size
  have s4 := HG2.out.size
  have s5 := HB3.out.size
  have s6 := HB4.out.size
  have s7 := HB5.out.size
  exact (((((((below_drew HB.out).trans (HB2.out.mono s1)).trans (below_grown HG.out (by omega) (by omega))).trans (below_grown HG2.out (by omega) (by omega))).trans (HB3.out.mono (by omega))).trans (HB4.out.mono (by omega))).trans (HB5.out.mono (by omega))).trans (HB6.out.mono (by omega))

set_option maxHeartbeats 400000 in
set_option maxRecDepth 100000 in
theorem law_great (s : ByteArray) (n : Int) (hs : 300 < s.size) (w : World) : Calls Try.prog 8 #[.string s, .int .u16 n] w fun e w' => e = .returned (.bool true) ∧ Below w.heap.size w w' := by
  have c0 : decide (300 < (s.size : Int)) = true := decide_eq_true (by omega)
  go_enter Try.func8, Try.ntmps8
  go_wp2_with fail
  refine (awake_calls w).mono ?_
  rintro e w1 ⟨rfl, hb⟩
  have HB := Aside0.mk hb
  clear hb
  go_wp2
  go_ret
  exact ⟨rfl, HB.out⟩

/-- The law, for whatever comes in. -/
theorem crcOf_walk (s : ByteArray) (n : Int) (w : World) (_ : s.size ≤ 140737488351232) (hn : (Lit.int .u16 n).wf = true) : Calls Try.prog 8 #[.string s, .int .u16 n] w fun e w' => e = .returned (.bool true) ∧ Below w.heap.size w w' := by
  have b1 : 0 ≤ n ∧ n ≤ 65535 := by
    simp only [Lit.wf, IntKind.min, IntKind.max, IntKind.signed, IntKind.bits, Bool.and_eq_true, decide_eq_true_eq] at hn
    simp at hn
    omega
  by_cases h : s.size ≤ 300
  · exact law_calls s n b1 h w
  · exact law_great s n (by omega) w
end Go.Proofs.Ytndcfccbicognaa.XCrcOf
