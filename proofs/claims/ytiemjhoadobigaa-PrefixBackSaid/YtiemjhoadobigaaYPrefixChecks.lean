/- prefix: whether lengths make a code is the document's answer. It has no conditions. -/
import Derived.Test.YtiemjhoadobigaaYPrefixAwake
import Derived.Test.YtiemjhoadobigaaYPrefixPure2
import Derived.Test.YtiemjhoadobigaaXPrefixChecksx
import Derived.BigRegion
import Derived.RegionTactic
import Derived.ChangeAlike
import Derived.Deep.RegionWith
import Derived.Deep.RegionLaw
import Derived.Laws.Tables
import Derived.Deep.QuietTactic
import Derived.BigQuiet
import Derived.Deep.RegionHeld3
import Derived.Deep.AppendLies
import Derived.Deep.DrawnRows
import Derived.Laws.CopyOwn
import Derived.Deep.MidRow
import Derived.Laws.ResultCell
import Derived.ChangeKeysEq
namespace Go.Proofs.Ytiemjhoadobigaa.XPrefix
set_option linter.unusedVariables false
set_option linter.unusedSimpArgs false
open Go.RowKit Go.Proofs.YtiemjhoadobigaaW.PrintWords Go.Proofs.YtiemjhoadobigaaW.PrintLast Go.Proofs.YtiemjhoadobigaaW.PrintMore

open XPrefixReads
theorem KRes.same {l : List Int} {k e k2 e2 : Int} (h : KRes l k e) (h2 : KRes l k2 e2) : k = k2 ∧ e = e2 := by
  by_cases ok : OkL l
  · have h3 := doc_of l k e h ok
    rw [doc_of l k2 e2 h2 ok] at h3
    injection h3 with h4 h5
    exact ⟨h4.symm, h5.symm⟩
  · rcases h with ⟨_, rfl, rfl⟩ | ⟨h, _⟩ | ⟨h, _⟩
    · rcases h2 with ⟨_, rfl, rfl⟩ | ⟨h, _⟩ | ⟨h, _⟩
      · exact ⟨rfl, rfl⟩
      · exact absurd h ok
      · exact absurd h ok
    · exact absurd h ok
    · exact absurd h ok
theorem KRes.some (l : List Int) : ∃ k e, KRes l k e := by
  have ⟨A, hA⟩ : ∃ A : Nat, A = 0 := ⟨0, rfl⟩
  by_cases ok : OkL l
  · by_cases hj : ∃ j, j ≤ 15 ∧ lf (cnt l l.length) j < 0
    · exact ⟨0, 10, .inr (.inl ⟨ok, hj, rfl, rfl⟩)⟩
    · have hp : ∀ j, j ≤ 15 → 0 ≤ lf (cnt l l.length) j := fun j h => by
        by_cases h0 : lf (cnt l l.length) j < 0
        · exact absurd ⟨j, h, h0⟩ hj
        · omega
      by_cases h0 : (l.length : Int) - cnt l l.length 0 = 0
      · exact ⟨2, 0, .inr (.inr ⟨ok, hp, .inl ⟨h0, rfl, rfl⟩⟩)⟩
      · by_cases h1 : (l.length : Int) - cnt l l.length 0 = 1 ∧ cnt l l.length 1 = 1
        · exact ⟨1, 0, .inr (.inr ⟨ok, hp, .inr (.inl ⟨h0, fun h => h h1.1, h1.2, rfl, rfl⟩)⟩)⟩
        · have h2 : (l.length : Int) - cnt l l.length 0 ≠ 1 ∨ cnt l l.length 1 ≠ 1 := by omega
          by_cases h3 : 0 < lf (cnt l l.length) 15
          · exact ⟨0, 10, .inr (.inr ⟨ok, hp, .inr (.inr (.inl ⟨h0, h2, h3, rfl, rfl⟩))⟩)⟩
          · exact ⟨0, 0, .inr (.inr ⟨ok, hp, .inr (.inr (.inr ⟨h0, h2, by have := hp 15 (by omega); omega, rfl, rfl⟩))⟩)⟩
  · exact ⟨0, 1, .inl ⟨ok, rfl, rfl⟩⟩
theorem ints_same (l : List Int) (hl : l.length ≤ 1000000) : Ev (fun q => XPrefixChecks.montagelaw05_ints.f q l l) true := by
  have key : ∀ d i : Nat, l.length - i = d → i ≤ l.length → Ev (fun q => XPrefixChecks.montagelaw05_ints.l0 q l l (l.length : Int) (i : Int)) true := by
    intro d
    induction d with
    | zero =>
      intro i hd hi
      refine Ev.step (f := fun _ => some true) (fun q => ?_) (Ev.now _)
      simp only [XPrefixChecks.montagelaw05_ints.l0]
      rw [if_neg (by omega)]
    | succ d ih =>
      intro i hd hi
      refine Ev.step (f := fun q => XPrefixChecks.montagelaw05_ints.l0 q l l (l.length : Int) ((i + 1 : Nat) : Int)) (fun q => ?_) (ih (i + 1) (by omega) (by omega))
      have h1 : (i : Int) < (l.length : Int) := by omega
      have h2 : 0 ≤ (i : Int) := by omega
      simp only [XPrefixChecks.montagelaw05_ints.l0, if_pos h1, if_pos h2, if_true]
      rw [w64 (by omega) (by omega)]
      rfl
  unfold XPrefixChecks.montagelaw05_ints.f
  simp only [if_true]
  exact key l.length 0 (by omega) (by omega)

set_option maxHeartbeats 1600000 in
set_option maxRecDepth 100000 in
theorem prefixChecks_walk (A0 : Option Addr) (c0 : Nat) (l : List Int) (w : World) (hr0 : Kd.C (Kd.int .i64) w A0 l.length l) (hc0 : l.length ≤ c0) (hm : l.length ≤ maxLen) (hy : l.length * 8 ≤ 140737488351232) (hg : ∀ x ∈ l, (Lit.int .i64 x).wf = true) :
    Calls Try.prog 4 #[.slice A0 l.length c0] w fun e w' => e = .returned (.bool true) ∧ Below w.heap.size w w' := by
  have HR0 := Aside0.mk hr0
  have HC0 := Aside0.mk hc0
  clear hr0 hc0 hm hy hg
  by_cases h300 : 300 < l.length
  · have d0 : decide (300 < l.length) = true := decide_eq_true h300
    have d1 : decide (300 < (l.length : Int)) = true := decide_eq_true (by omega)
    go_enter Try.func4, Try.ntmps4
    go_wp2_with fail
    refine (awake_calls _).mono ?_
    rintro e w1 ⟨rfl, hb⟩
    have HB := Aside0.mk hb
    clear hb
    go_wp2
    go_ret
    exact ⟨rfl, HB.out⟩
  · have d0 : decide (300 < l.length) = false := decide_eq_false h300
    have d1 : decide (300 < (l.length : Int)) = false := decide_eq_false (by omega)
    obtain ⟨k, er, hK⟩ := KRes.some l
    obtain ⟨q1, hq1⟩ := (check_same l k er hK).rounds
    have HK := Aside0.mk hK
    have HQ1 := Aside0.mk hq1
    have HL := Aside0.mk h300
    clear hK hq1 h300
    go_enter Try.func4, Try.ntmps4
    go_wp2_with fail
    refine (awake_calls _).mono ?_
    rintro e w1 ⟨rfl, hb⟩
    have B1 := Aside0.mk hb
    have R1 := Aside0.mk (Kd.C_below HR0.out hb)
    clear hb
    go_wp2_with fail
    refine (check_calls A0 c0 l _ R1.out).mono ?_
    rintro e w2 ⟨k2, er2, rfl, hK2, hb⟩
    obtain ⟨rfl, rfl⟩ := HK.out.same hK2
    have B2 := Aside0.mk (below_step B1.out hb)
    have R2 := Aside0.mk (Kd.C_below HR0.out B2.out)
    clear hb hK2 B1 R1
    go_wp2_with fail
    refine (montageref05_Check.calls q1 A0 c0 l k er _ R2.out HC0.out HQ1.out).mono ?_
    rintro e w3 ⟨rfl, hd3⟩
    obtain ⟨m3, rfl⟩ := hd3
    have B3 := Aside0.mk (pw_below_drewN B2.out m3)
    have R3 := Aside0.mk (Kd.C_below HR0.out B3.out)
    clear B2 R2
    go_wp2_with fail
    refine (Codes_calls A0 c0 l _ R3.out).mono ?_
    rintro e w4 ⟨k4, er4, hK4, hb, hres⟩
    obtain ⟨rfl, rfl⟩ := HK.out.same hK4
    have B4 := Aside0.mk (below_step B3.out hb)
    have R4 := Aside0.mk (Kd.C_below HR0.out B4.out)
    have HW3 := Aside0.mk (show w.heap.size ≤ (w2.drewN m3).heap.size from below_size B3.out)
    clear hb hK4 B3 R3
    have e0 : (k == k) = true := beq_self_eq_true k
    have e1 : (k != k) = false := bne_self_eq_false k
    have e2 : (er == er) = true := beq_self_eq_true er
    have e3 : (er != er) = false := bne_self_eq_false er
    rcases hres with ⟨hne, rfl⟩ | ⟨rfl, v, rfl, hR⟩
    · have f0 : (er == 0) = false := beq_eq_false_iff_ne.mpr hne
      have f1 : (er != 0) = true := bne_iff_ne.mpr hne
      go_wp2_with fail
      refine (new_calls A0 c0 l _ R4.out).mono ?_
      rintro e w5 ⟨k5, er5, hK5, hb, hres⟩
      obtain ⟨rfl, rfl⟩ := HK.out.same hK5
      have B5 := Aside0.mk (below_step B4.out hb)
      clear hb hK5
      rcases hres with ⟨_, rfl⟩ | ⟨h, _⟩
      · go_wp2
        repeat (go_quiet (fail); try go_wp2)
        go_ret
        exact ⟨rfl, B5.out⟩
      · exact absurd h hne
    · obtain ⟨Ac, cc, rfl⟩ := Kd.R_slice hR
      have HO4 := Aside0.mk hR
      obtain ⟨q2, hq2⟩ := (codes_same l HK.out.okl).rounds
      obtain ⟨q3, hq3⟩ := (ints_same (codL l) (by rw [codL, listOf_len]; have := HL.out; omega)).rounds
      have HQ2 := Aside0.mk hq2
      have HQ3 := Aside0.mk hq3
      clear hR hq2 hq3
      go_wp2_with fail
      refine (new_calls A0 c0 l _ R4.out).mono ?_
      rintro e w5 ⟨k5, er5, hK5, hb, hres⟩
      obtain ⟨rfl, rfl⟩ := HK.out.same hK5
      have B5 := Aside0.mk (below_step B4.out hb)
      have R5 := Aside0.mk (Kd.C_below HR0.out B5.out)
      have HO5 := Aside0.mk (Kd.R_below HO4.out hb)
      clear hb hK5 B4 R4 HO4
      rcases hres with ⟨h, _⟩ | ⟨_, g, rfl, _⟩
      · exact absurd rfl h
      · go_wp2_with fail
        refine (montageref05_Codes.calls q2 A0 c0 l (codL l) _ R5.out HC0.out HQ2.out).mono ?_
        rintro e w6 ⟨v6, rfl, hR6, hb⟩
        obtain ⟨A6, c6, rfl⟩ := Kd.R_slice hR6
        have B6 := Aside0.mk (below_step B5.out hb)
        have HO6 := Aside0.mk (Kd.R_below HO5.out hb)
        have HP6 := Aside0.mk hR6
        clear hb hR6 B5 R5 HO5
        go_wp2_with fail
        refine (XPrefixChecks.montagelaw05_ints.calls q3 Ac cc (codL l) A6 c6 (codL l) true _ (Kd.R_reads' HO6.out).2.2 (Kd.R_reads' HO6.out).2.1 (Kd.R_reads' HP6.out).2.2 (Kd.R_reads' HP6.out).2.1 HQ3.out).mono ?_
        rintro e w7 ⟨rfl, m7, rfl⟩
        have B7 := Aside0.mk (pw_below_drewN B6.out m7)
        go_wp2
        go_ret
        exact ⟨rfl, B7.out⟩

end Go.Proofs.Ytiemjhoadobigaa.XPrefix
