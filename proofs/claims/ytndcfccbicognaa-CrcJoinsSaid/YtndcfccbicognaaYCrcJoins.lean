/- The walk of the law CrcJoins. It has no conditions beyond those of the row. -/
import Derived.Test.YtndcfccbicognaaYCrcJoin
namespace Go.Proofs.Ytndcfccbicognaa.XCrcOf
set_option linter.unusedVariables false
set_option linter.unusedSimpArgs false
open Go.RowKit Go.Proofs.YtndcfccbicognaaW.PrintWords Go.Proofs.YtndcfccbicognaaW.PrintLast Go.Proofs.YtndcfccbicognaaW.PrintMore

theorem crc_range (s : ByteArray) : 0 ≤ crcOf s ∧ crcOf s < 4294967296 := by
  rw [crc_nat]; have := crcN_lt s; omega

set_option maxHeartbeats 800000 in
set_option maxRecDepth 100000 in
theorem joins_great (s t : ByteArray) (n : Int) (h : 300 < s.size ∨ 300 < t.size) (w : World) : Calls Try.prog 7 #[.string s, .string t, .int .i64 n] w fun e w' => e = .returned (.bool true) ∧ Below w.heap.size w w' := by
  by_cases h1 : 300 < s.size
  · have c0 : decide (300 < (s.size : Int)) = true := decide_eq_true (by omega)
    go_enter Try.func7, Try.ntmps7
    go_wp2_with fail
    refine (awake_calls w).mono ?_
    rintro e w1 ⟨rfl, hb⟩
    have HB := Aside0.mk hb
    clear hb
    go_wp2
    go_ret
    exact ⟨rfl, HB.out⟩
  · have c0 : decide (300 < (s.size : Int)) = false := decide_eq_false (by omega)
    have c1 : decide (300 < (t.size : Int)) = true := decide_eq_true (by omega)
    go_enter Try.func7, Try.ntmps7
    go_wp2_with fail
    refine (awake_calls w).mono ?_
    rintro e w1 ⟨rfl, hb⟩
    have HB := Aside0.mk hb
    clear hb
    go_wp2
    go_ret
    exact ⟨rfl, HB.out⟩

set_option maxHeartbeats 800000 in
set_option maxRecDepth 100000 in
theorem joins_small (s t : ByteArray) (n : Int) (hs : s.size ≤ 300) (ht : t.size ≤ 300) (w : World) : Calls Try.prog 7 #[.string s, .string t, .int .i64 n] w fun e w' => e = .returned (.bool true) ∧ Below w.heap.size w w' := by
  have c0 : decide (300 < (s.size : Int)) = false := decide_eq_false (by omega)
  have c1 : decide (300 < (t.size : Int)) = false := decide_eq_false (by omega)
  obtain ⟨q, hq⟩ := ref_of (s ++ t) (by rw [ByteArray.size_append]; omega)
  have hj := join_tells s t ht
  have ra := crc_range s
  obtain ⟨a, ha⟩ : ∃ a, a = crcOf s := ⟨_, rfl⟩
  obtain ⟨b, hb⟩ : ∃ b, b = crcOf t := ⟨_, rfl⟩
  obtain ⟨z, hz⟩ : ∃ z, z = crcOf (s ++ t) := ⟨_, rfl⟩
  rw [← ha] at ra hj
  rw [← hb] at hj
  rw [← hz] at hj hq
  have HA := Aside0.mk ha
  have HBB := Aside0.mk hb
  have HZ := Aside0.mk hz
  have HJ := Aside0.mk hj
  have HQ := Aside0.mk hq
  clear ha hb hz hj hq
  by_cases hn : n < 0 ∨ 4194304 < n
  · have HN := Aside0.mk hn
    by_cases hneg : n < 0
    · have c2 : decide (n < 0) = true := decide_eq_true hneg
      clear hn
      go_enter Try.func7, Try.ntmps7
      go_wp2_with fail
      refine (awake_calls w).mono ?_
      rintro e w1 ⟨rfl, hb⟩
      have HB := Aside0.mk hb
      clear hb
      go_wp2_with fail
      refine (of_calls s (by omega) w1).mono ?_
      rintro e w2 ⟨rfl, hb⟩
      rw [← HA.out]
      have HB2 := Aside0.mk (below_step HB.out hb)
      clear hb HB
      go_wp2_with fail
      refine (of_calls t (by omega) w2).mono ?_
      rintro e w3 ⟨rfl, hb⟩
      rw [← HBB.out]
      have HB3 := Aside0.mk (below_step HB2.out hb)
      clear hb HB2
      go_wp2_with fail
      refine (join_out a b n HN.out w3).mono ?_
      rintro e w4 ⟨rfl, hb⟩
      have HB4 := Aside0.mk (below_step HB3.out hb)
      clear hb HB3
      go_wp2_with fail
      refine (join_calls a b (t.size : Int) ra (by omega) (by omega) w4).mono ?_
      rintro e w5 ⟨rfl, hb⟩
      rw [HJ.out]
      have HB5 := Aside0.mk (below_step HB4.out hb)
      clear hb HB4
      go_wp2_with fail
      refine (montageref03_Of.calls q (s ++ t) z w5 HQ.out).mono ?_
      rintro e w6 ⟨rfl, hb⟩
      have HB6 := Aside0.mk (below_step HB5.out hb)
      clear hb HB5
      go_wp2
      go_ret
      exact ⟨rfl, HB6.out⟩
    · have c2 : decide (n < 0) = false := decide_eq_false hneg
      have c3 : decide (4194304 < n) = true := decide_eq_true (by omega)
      clear hn
      go_enter Try.func7, Try.ntmps7
      go_wp2_with fail
      refine (awake_calls w).mono ?_
      rintro e w1 ⟨rfl, hb⟩
      have HB := Aside0.mk hb
      clear hb
      go_wp2_with fail
      refine (of_calls s (by omega) w1).mono ?_
      rintro e w2 ⟨rfl, hb⟩
      rw [← HA.out]
      have HB2 := Aside0.mk (below_step HB.out hb)
      clear hb HB
      go_wp2_with fail
      refine (of_calls t (by omega) w2).mono ?_
      rintro e w3 ⟨rfl, hb⟩
      rw [← HBB.out]
      have HB3 := Aside0.mk (below_step HB2.out hb)
      clear hb HB2
      go_wp2_with fail
      refine (join_out a b n HN.out w3).mono ?_
      rintro e w4 ⟨rfl, hb⟩
      have HB4 := Aside0.mk (below_step HB3.out hb)
      clear hb HB3
      go_wp2_with fail
      refine (join_calls a b (t.size : Int) ra (by omega) (by omega) w4).mono ?_
      rintro e w5 ⟨rfl, hb⟩
      rw [HJ.out]
      have HB5 := Aside0.mk (below_step HB4.out hb)
      clear hb HB4
      go_wp2_with fail
      refine (montageref03_Of.calls q (s ++ t) z w5 HQ.out).mono ?_
      rintro e w6 ⟨rfl, hb⟩
      have HB6 := Aside0.mk (below_step HB5.out hb)
      clear hb HB5
      go_wp2
      go_ret
      exact ⟨rfl, HB6.out⟩
  · have c2 : decide (n < 0) = false := decide_eq_false (by omega)
    have c3 : decide (4194304 < n) = false := decide_eq_false (by omega)
    clear hn
    go_enter Try.func7, Try.ntmps7
    go_wp2_with fail
    refine (awake_calls w).mono ?_
    rintro e w1 ⟨rfl, hb⟩
    have HB := Aside0.mk hb
    clear hb
    go_wp2_with fail
    refine (of_calls s (by omega) w1).mono ?_
    rintro e w2 ⟨rfl, hb⟩
    rw [← HA.out]
    have HB2 := Aside0.mk (below_step HB.out hb)
    clear hb HB
    go_wp2_with fail
    refine (of_calls t (by omega) w2).mono ?_
    rintro e w3 ⟨rfl, hb⟩
    rw [← HBB.out]
    have HB3 := Aside0.mk (below_step HB2.out hb)
    clear hb HB2
    go_wp2_with fail
    refine (join_calls a b (t.size : Int) ra (by omega) (by omega) w3).mono ?_
    rintro e w5 ⟨rfl, hb⟩
    rw [HJ.out]
    have HB5 := Aside0.mk (below_step HB3.out hb)
    clear hb HB3
    go_wp2_with fail
    refine (montageref03_Of.calls q (s ++ t) z w5 HQ.out).mono ?_
    rintro e w6 ⟨rfl, hb⟩
    have HB6 := Aside0.mk (below_step HB5.out hb)
    clear hb HB5
    go_wp2
    go_ret
    exact ⟨rfl, HB6.out⟩

/-- The law, for whatever comes in. -/
theorem crcJoins_walk (s t : ByteArray) (n : Int) (w : World) (_ : s.size ≤ 140737488351232) (_ : t.size ≤ 140737488351232) (hn : (Lit.int .i64 n).wf = true) : Calls Try.prog 7 #[.string s, .string t, .int .i64 n] w fun e w' => e = .returned (.bool true) ∧ Below w.heap.size w w' := by
  by_cases h : 300 < s.size ∨ 300 < t.size
  · exact joins_great s t n h w
  · exact joins_small s t n (by omega) (by omega) w
end Go.Proofs.Ytndcfccbicognaa.XCrcOf
