/- PrefixReads: the symbols that any bits are. It has no conditions. -/
import Derived.Test.YtiemjhoadobigaaYPrefixAwake
import Derived.Test.YtiemjhoadobigaaYPrefixPure3
import Derived.Test.YtiemjhoadobigaaYPrefixChecks
import Derived.BigRegion
import Derived.RegionTactic
import Derived.ChangeAlike
import Derived.Deep.RegionWith
import Derived.Deep.RegionLaw
import Derived.Laws.Tables
import Derived.Deep.QuietTactic
import Derived.BigQuiet
import Derived.Deep.RegionHeld3
import Derived.Deep.AppendLies
import Derived.Deep.DrawnRows
import Derived.Laws.CopyOwn
import Derived.Deep.MidRow
import Derived.Laws.ResultCell
import Derived.ChangeKeysEq
namespace Go.Proofs.Ytiemjhoadobigaa.XPrefix
set_option linter.unusedVariables false
set_option linter.unusedSimpArgs false
open Go.RowKit Go.Proofs.YtiemjhoadobigaaW.PrintWords Go.Proofs.YtiemjhoadobigaaW.PrintLast Go.Proofs.YtiemjhoadobigaaW.PrintMore

open XPrefixReads
set_option maxHeartbeats 800000 in
set_option maxRecDepth 100000 in
theorem read_empty (base g gr : Nat) (l : List Int) (w : World) (hT : IsT base w g l 2) :
    Calls Try.prog 17 #[.pointer (some ⟨g, 0, none⟩), .pointer (some ⟨gr, 0, none⟩)] w fun e w' => e = .returned (.tuple #[.int .i64 0, .int .i64 10]) ∧ w = w' := by
  have hk0 : w.cell? ⟨g, 0, none⟩ = some (.int .i64 2) := by obtain ⟨gc, A, cc, h1, _⟩ := hT; exact (blk_cell h1 0).trans rfl
  clear hT
  go_enter Try.func17, Try.ntmps17
  go_wp2
  go_ret2
  exact ⟨rfl, rfl⟩
/-- Reading, whichever table. -/
def readA (l : List Int) (kd : Int) (Z M p : Nat) : Int × Int × Nat × Bool := if kd = 2 then (0, 10, p, false) else readK l kd (bitZ Z) M 15 0 0 p
theorem read_all (base g gr : Nat) (l : List Int) (kd : Int) (p Z : Nat) (S : ByteArray) (w0 w : World) (hT : IsT base w g l kd) (hI : IsS70 w0 w gr S (p : Int) false) (hB : Below w0.heap.size w0 w) (hp : p ≤ 8 * S.size) (hS : S.size ≤ 100000) (hl : l.length ≤ 288)
    (hZ : ∀ i, i < S.size → bt S (i : Int) = ((Z / 256 ^ i % 256 : Nat) : Int)) :
    Calls Try.prog 17 #[.pointer (some ⟨g, 0, none⟩), .pointer (some ⟨gr, 0, none⟩)] w fun e w' =>
      e = .returned (.tuple #[.int .i64 (readA l kd Z (8 * S.size) p).1, .int .i64 (readA l kd Z (8 * S.size) p).2.1]) ∧ IsS70 w0 w' gr S ((readA l kd Z (8 * S.size) p).2.2.1 : Int) (readA l kd Z (8 * S.size) p).2.2.2 ∧ Below w0.heap.size w0 w' ∧ KeepBut w w' gr none := by
  unfold readA
  by_cases h : kd = 2
  · subst h
    rw [if_pos rfl]
    refine (read_empty base g gr l w hT).mono ?_
    rintro e w' ⟨rfl, rfl⟩
    exact ⟨rfl, hI, hB, KeepBut.refl _ _ _⟩
  · rw [if_neg h]
    exact read_any base g gr l kd p Z S w0 w hT hI hB hp hS hl h hZ
theorem read_doc (l : List Int) (kd : Int) (hK : KRes l kd 0) (Z M p : Nat) (hM : M ≤ 1000000) (hp : p ≤ M) :
    Ev (fun q => montageref05_Read.f q l (bl Z M) (p : Int)) (docR (readA l kd Z M p)) := by
  unfold readA
  by_cases h : kd = 2
  · subst h
    rw [if_pos rfl]
    exact read_none l hK Z M p
  · rw [if_neg h]
    exact read_same l kd hK Z M p hM hp h
theorem readK_le (l : List Int) (kd : Int) (bit : Nat → Int) (N : Nat) : ∀ (d k : Nat) (n : Int) (p : Nat), p ≤ N → (readK l kd bit N d k n p).2.2.1 ≤ N ∧ p ≤ (readK l kd bit N d k n p).2.2.1 ∧ ((readK l kd bit N d k n p).2.1 = 0 → (readK l kd bit N d k n p).2.2.2 = false ∧ p < (readK l kd bit N d k n p).2.2.1)
  | 0, k, n, p, h => by rw [readK]; exact ⟨h, Nat.le_refl _, fun h => absurd h (by show ¬ (10 : Int) = 0; decide)⟩
  | d + 1, k, n, p, h => by
    rw [readK]
    by_cases h1 : N ≤ p
    · rw [if_pos h1]; exact ⟨h, Nat.le_refl _, fun h => absurd h (by show ¬ (3 : Int) = 0; decide)⟩
    · rw [if_neg h1]
      split
      · exact ⟨by show p + 1 ≤ N; omega, by show p ≤ p + 1; omega, fun _ => ⟨rfl, by show p < p + 1; omega⟩⟩
      · split
        · exact ⟨by show p + 1 ≤ N; omega, by show p ≤ p + 1; omega, fun h => absurd h (by show ¬ (10 : Int) = 0; decide)⟩
        · obtain ⟨a, b, c⟩ := readK_le l kd bit N d (k + 1) (2 * n + bit p) (p + 1) (by omega)
          exact ⟨a, by omega, fun h => ⟨(c h).1, by have := (c h).2; omega⟩⟩
theorem readA_le (l : List Int) (kd : Int) (Z M p : Nat) (h : p ≤ M) : (readA l kd Z M p).2.2.1 ≤ M ∧ ((readA l kd Z M p).2.1 = 0 → (readA l kd Z M p).2.2.2 = false ∧ p < (readA l kd Z M p).2.2.1) := by
  unfold readA
  split
  · exact ⟨h, fun h => absurd h (by show ¬ (10 : Int) = 0; decide)⟩
  · have := readK_le l kd (bitZ Z) M 15 0 0 p h
    exact ⟨this.1, this.2.2⟩

set_option maxHeartbeats 1600000 in
set_option maxRecDepth 100000 in
theorem prefixReads_walk (A0 : Option Addr) (c0 : Nat) (l : List Int) (s : ByteArray) (w : World) (hr0 : Kd.C (Kd.int .i64) w A0 l.length l) (hc0 : l.length ≤ c0) (hm : l.length ≤ maxLen) (hy : l.length * 8 ≤ 140737488351232) (hg : ∀ x ∈ l, (Lit.int .i64 x).wf = true) (hs : s.size ≤ 140737488351232) :
    Calls Try.prog 5 #[.slice A0 l.length c0, .string s] w fun e w' => e = .returned (.bool true) ∧ Below w.heap.size w w' := by
  have HR0 := Aside0.mk hr0
  have HC0 := Aside0.mk hc0
  clear hr0 hc0 hm hy hg hs
  by_cases hbig : 60 < l.length ∨ 40 < s.size
  · go_enter Try.func5, Try.ntmps5
    have HBig := Aside0.mk hbig
    clear hbig
    go_wp2_with fail
    refine (awake_calls _).mono ?_
    rintro e w1 ⟨rfl, hb⟩
    have HB := Aside0.mk hb
    clear hb
    rcases HBig.out with h | h
    · have d0 : decide (60 < l.length) = true := decide_eq_true h
      have d1 : decide (60 < (l.length : Int)) = true := decide_eq_true (by omega)
      go_wp2
      go_ret
      exact ⟨rfl, HB.out⟩
    · have d0 : decide (40 < s.size) = true := decide_eq_true h
      have d1 : decide (40 < (s.size : Int)) = true := decide_eq_true (by omega)
      by_cases h2 : 60 < l.length
      · have d2 : decide (60 < l.length) = true := decide_eq_true h2
        have d3 : decide (60 < (l.length : Int)) = true := decide_eq_true (by omega)
        go_wp2
        go_ret
        exact ⟨rfl, HB.out⟩
      · have d2 : decide (60 < l.length) = false := decide_eq_false h2
        have d3 : decide (60 < (l.length : Int)) = false := decide_eq_false (by omega)
        go_wp2
        go_ret
        exact ⟨rfl, HB.out⟩
  · have d0 : decide (60 < l.length) = false := decide_eq_false (by omega)
    have d1 : decide (60 < (l.length : Int)) = false := decide_eq_false (by omega)
    have d2 : decide (40 < s.size) = false := decide_eq_false (by omega)
    have d3 : decide (40 < (s.size : Int)) = false := decide_eq_false (by omega)
    obtain ⟨k, er, hK⟩ := KRes.some l
    obtain ⟨q1, hq1⟩ := (check_same l k er hK).rounds
    have HK := Aside0.mk hK
    have HQ1 := Aside0.mk hq1
    have HL := Aside0.mk hbig
    clear hK hq1 hbig
    go_enter Try.func5, Try.ntmps5
    go_wp2_with fail
    refine (awake_calls _).mono ?_
    rintro e w1 ⟨rfl, hb⟩
    have B1 := Aside0.mk hb
    have R1 := Aside0.mk (Kd.C_below HR0.out hb)
    clear hb
    go_wp2_with fail
    refine (montageref05_Check.calls q1 A0 c0 l k er _ R1.out HC0.out HQ1.out).mono ?_
    rintro e w2 ⟨rfl, hd2⟩
    obtain ⟨m2, rfl⟩ := hd2
    have B2 := Aside0.mk (pw_below_drewN B1.out m2)
    have R2 := Aside0.mk (Kd.C_below HR0.out B2.out)
    clear B1 R1
    by_cases her : er = 0
    · subst her
      go_wp2_with fail
      refine (new_calls A0 c0 l _ R2.out).mono ?_
      rintro e w3 ⟨k2, er2, hK2, hb, hres⟩
      obtain ⟨rfl, rfl⟩ := HK.out.same hK2
      rcases hres with ⟨h, _⟩ | ⟨_, g, rfl, hT⟩
      · exact absurd rfl h
      have T3 := Aside0.mk hT
      have B3 := Aside0.mk (below_step B2.out hb)
      clear hb hK2 hT B2 R2
      go_wp2_with fail
      refine (bits_NewReader.calls s s 0 false w w3 B3.out rfl).mono ?_
      rintro e w4 ⟨gr, rfl, hI, hb, hb2⟩
      have I4 := Aside0.mk hI
      have B4 := Aside0.mk hb
      have T4 := Aside0.mk (T3.out.below hb2)
      clear hI hb hb2 T3 B3
      obtain ⟨Z, hZ⟩ := S_num s
      have HZ := Aside0.mk hZ
      obtain ⟨q2, hq2⟩ := (ref_of s Z (by have := HL.out; omega) hZ).rounds
      have HQ2 := Aside0.mk hq2
      clear hZ hq2
      go_wp2_with fail
      refine (montageref01_Of.calls q2 s (bl Z (8 * s.size)) w4 HQ2.out).mono ?_
      rintro e w5 ⟨v5, rfl, hR, hb⟩
      obtain ⟨A5, c5, rfl⟩ := Kd.R_slice hR
      have I5 := Aside0.mk (I4.out.below hb)
      have B5 := Aside0.mk (below_step B4.out hb)
      have T5 := Aside0.mk (T4.out.below hb)
      have R5 := Aside0.mk hR
      clear hR hb I4 B4 T4
      obtain ⟨base, hbase⟩ : ∃ b, (w1.drewN m2).heap.size = b := ⟨_, rfl⟩
      rw [hbase] at T5
      obtain ⟨b5, hb5⟩ : ∃ b, w4.heap.size = b := ⟨_, rfl⟩
      rw [hb5] at R5
      clear hbase hb5 HQ1 HQ2
      go_wp2
      go_loopw [11] (fun v11 wr => ∃ p : Nat, v11 = .int .i64 (p : Int) ∧ p ≤ 8 * s.size ∧ Aside0 (IsT base wr g l k) ∧ Aside0 (IsS70 w wr gr s (p : Int) false) ∧ Aside0 (Below w.heap.size w wr) ∧ Aside0 (Kd.R (Kd.int .u8) 5 wr b5 (fun _ => True) (.slice A5 (bl Z (8 * s.size)).length c5) (bl Z (8 * s.size)))) (fun v11 _ => 8 * s.size + 1 - (intOf v11).toNat)
      case atStart => exact ⟨0, rfl, by omega, T5, I5, B5, R5⟩
      case round =>
        clear T5 I5 B5 R5
        obtain ⟨p, rfl, hp, T5, I5, B5, R5⟩ := hrel
        obtain ⟨R, hR⟩ : ∃ R, readA l k Z (8 * s.size) p = R := ⟨_, rfl⟩
        have hle := readA_le l k Z (8 * s.size) p hp
        obtain ⟨q3, hq3⟩ := (read_doc l k HK.out Z (8 * s.size) p (by have := HL.out; omega) hp).rounds
        have hcl := read_all base g gr l k p Z s w _ T5.out I5.out B5.out hp (by have := HL.out; omega) (by have := HL.out; omega) HZ.out
        rw [hR] at hle hq3 hcl
        obtain ⟨x, f, p2, bad⟩ := R
        have HLE := Aside0.mk hle
        have HQ3 := Aside0.mk hq3
        have HCL := Aside0.mk hcl
        have e0 : (x == x) = true := beq_self_eq_true x
        have e1 : (x != x) = false := bne_self_eq_false x
        have e2 : (f == f) = true := beq_self_eq_true f
        have e3 : (f != f) = false := bne_self_eq_false f
        clear hR hle hq3 hcl
        go_wp2_with fail
        refine HCL.out.mono ?_
        rintro e w6 ⟨rfl, hI, hb, hk⟩
        have I6 := Aside0.mk hI
        have B6 := Aside0.mk hb
        have T6 := Aside0.mk (T5.out.keep I5.out.1 hk)
        have R6 := Aside0.mk (Kd.R_mono (Kd.R_keep (Kd.R_far1 R5.out rfl (Kd.R_ne R5.out I5.out.1 (by decide))) hk (fun k hk => hk.2)) (fun _ _ => trivial))
        have C6 := Aside0.mk (Kd.C_below HR0.out hb)
        clear hI hb hk HCL T5 I5 B5 R5
        go_wp2_with fail
        refine (montageref05_Read.calls q3 A0 c0 l A5 c5 (bl Z (8 * s.size)) (p : Int) x (p2 : Int) f w6 C6.out HC0.out (Kd.R_reads' R6.out).2.2 (Kd.R_reads' R6.out).2.1 HQ3.out).mono ?_
        rintro e w7 ⟨rfl, hb⟩
        have I7 := Aside0.mk (I6.out.below hb)
        have B7 := Aside0.mk (below_step B6.out hb)
        have T7 := Aside0.mk (T6.out.below hb)
        have R7 := Aside0.mk (Kd.R_below R6.out hb)
        clear hb I6 B6 T6 R6 C6
        by_cases hf : f = 0
        · subst hf
          obtain ⟨hb1, hb2⟩ := HLE.out.2 rfl
          obtain rfl : bad = false := hb1
          have h3 : p2 ≤ 8 * s.size := HLE.out.1
          have h4 : p < p2 := hb2
          have g0 : ((p2 : Int) == (p2 : Int)) = true := beq_self_eq_true _
          have g1 : ((p2 : Int) != (p2 : Int)) = false := bne_self_eq_false _
          clear hb2
          go_wp2_with fail
          refine (bits_Reader_At.calls gr s (p2 : Int) false (p2 : Int) s (p2 : Int) false w _ I7.out B7.out rfl).mono ?_
          rintro e w8 ⟨rfl, hI, hb, hk⟩
          have I8 := Aside0.mk hI
          have B8 := Aside0.mk hb
          have T8 := Aside0.mk (T7.out.keep I7.out.1 hk)
          have R8 := Aside0.mk (Kd.R_mono (Kd.R_keep (Kd.R_far1 R7.out rfl (Kd.R_ne R7.out I7.out.1 (by decide))) hk (fun k hk => hk.2)) (fun _ _ => trivial))
          clear hI hb hk I7 B7 T7 R7
          go_wp2
          go_roundw
          case rel => exact ⟨p2, rfl, h3, T8, I8, B8, R8⟩
          case measure => simp [intOf]; omega
        · have f0 : (f == 0) = false := beq_eq_false_iff_ne.mpr hf
          have f1 : (f != 0) = true := bne_iff_ne.mpr hf
          go_wp2
          go_ret
          exact ⟨rfl, B7.out⟩
    · have f0 : (er == 0) = false := beq_eq_false_iff_ne.mpr her
      have f1 : (er != 0) = true := bne_iff_ne.mpr her
      go_wp2
      go_ret
      exact ⟨rfl, B2.out⟩

end Go.Proofs.Ytiemjhoadobigaa.XPrefix
