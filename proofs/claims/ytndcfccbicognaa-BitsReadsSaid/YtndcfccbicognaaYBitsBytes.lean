/- The document's reader: Bytes. It has no conditions. -/
import Derived.Test.YtndcfccbicognaaYBitsRef
import Derived.Test.YtndcfccbicognaaYBitsRead
import Derived.BigRegion
import Derived.RegionTactic
namespace Go.Proofs.Ytndcfccbicognaa.XBitsRef
set_option linter.unusedVariables false
set_option linter.unusedSimpArgs false
open Go.RowKit Go.Proofs.YtndcfccbicognaaW.PrintWords Go.Proofs.YtndcfccbicognaaW.PrintLast Go.Proofs.YtndcfccbicognaaW.PrintMore
open Go.Proofs.Ytndcfccbicognaa.XBitsReads hiding IsS46 cellS46_0 cellS46_1 cellS46_2


set_option maxHeartbeats 1600000 in
set_option maxRecDepth 100000 in
theorem rbytes_fail (g : Nat) (A0 : Option Addr) (c0 : Nat) (b : List Int) (p : Nat) (bad : Bool) (n : Int) (w0 w : World) (hI : IsS46 w0 w g A0 c0 b (p : Int) bad) (hB : Below w0.heap.size w0 w) (hp : p ≤ 8000000) (hS : b.length ≤ 8000000)
    (h : bad = true ∨ n < 0 ∨ ((b.length : Int) - ((p : Int) + 7) / 8 * 8) / 8 < n) (h8 : ((p : Int) + 7) / 8 * 8 ≤ b.length) :
    Calls Try.prog 30 #[.pointer (some ⟨g, 0, none⟩), .int .i64 n] w fun e w' => e = .returned (.string ⟨#[]⟩) ∧ IsS46 w0 w' g A0 c0 b (p : Int) true ∧ Below w0.heap.size w0 w' ∧ KeepBut w w' g none := by
  have HI := Aside0.mk hI
  have HB := Aside0.mk hB
  obtain ⟨hb, hg, hr0⟩ := hI
  have hc0 := cellS46_0 hb
  have hc1 := cellS46_1 hb
  have hc2 := cellS46_2 hb
  have hf1 := blk_frozen hb 1
  have hf2 := blk_frozen hb 2
  have HG := Aside0.mk hg
  clear hb hg hr0 hB
  have p0 : 0 ≤ (p : Int) := by omega
  have p1 : (p : Int) ≤ 8000000 := by omega
  have p2 : (b.length : Int) ≤ 8000000 := by omega
  by_cases hbad : bad = true
  · subst hbad
    clear h
    go_enter Try.func30, Try.ntmps30
    go_wp2
    go_ret
    exact ⟨rfl, IsS46.set_2 HI.out true, below_set HB.out HG.out.1, (KeepBut.refl w g none).set_ _ _⟩
  · obtain rfl : bad = false := by simpa using hbad
    by_cases hn : n < 0
    · have d0 : decide (n < 0) = true := decide_eq_true hn
      clear h
      go_enter Try.func30, Try.ntmps30
      go_wp2
      go_ret
      exact ⟨rfl, IsS46.set_2 HI.out true, below_set HB.out HG.out.1, (KeepBut.refl w g none).set_ _ _⟩
    · have d0 : decide (n < 0) = false := decide_eq_false hn
      have d1 : decide (((b.length : Int) - ((p : Int) + 7) / 8 * 8) / 8 < n) = true := decide_eq_true (by
        rcases h with h | h | h
        · cases h
        · exact absurd h hn
        · exact h)
      clear h
      go_enter Try.func30, Try.ntmps30
      go_wp2
      go_ret
      exact ⟨rfl, IsS46.set_2 HI.out true, below_set HB.out HG.out.1, (KeepBut.refl w g none).set_ _ _⟩

set_option maxHeartbeats 1600000 in
set_option maxRecDepth 100000 in
theorem rbytes_ok (k : Nat) (g : Nat) (A0 : Option Addr) (c0 : Nat) (b : List Int) (p : Nat) (n : Int) (a e : Int) (r : ByteArray) (w0 w : World) (hI : IsS46 w0 w g A0 c0 b (p : Int) false) (hB : Below w0.heap.size w0 w) (hp : p ≤ 8000000) (hS : b.length ≤ 8000000)
    (ha : a = ((p : Int) + 7) / 8 * 8) (he : e = ((p : Int) + 7) / 8 * 8 + 8 * n) (hn : 0 ≤ n) (hn2 : n ≤ ((b.length : Int) - ((p : Int) + 7) / 8 * 8) / 8) (h8 : ((p : Int) + 7) / 8 * 8 ≤ b.length)
    (hT : montageref01_Text.f k ((b.take e.toNat).drop a.toNat) = some r) :
    Calls Try.prog 30 #[.pointer (some ⟨g, 0, none⟩), .int .i64 n] w fun e' w' => e' = .returned (.string r) ∧ IsS46 w0 w' g A0 c0 b e false ∧ Below w0.heap.size w0 w' ∧ KeepBut w w' g none := by
  have HI := Aside0.mk hI
  have HB := Aside0.mk hB
  obtain ⟨hb, hg, hr0⟩ := hI
  obtain ⟨i0, hi0, hz0, hz1, hz2⟩ := info_parts info5
  have he2 : e ≤ b.length := by omega
  obtain ⟨A', hrun, hread, hcap⟩ := print_mid_int (P := Try.prog) (k := .u8) 43 5 Try.underlying43 hi0 hz1 A0 c0 b a e (by omega) (by omega) he2 hg.2
  obtain ⟨L, hL⟩ : ∃ L, (b.take e.toNat).drop a.toNat = L := ⟨_, rfl⟩
  obtain ⟨c', hc'⟩ : ∃ c' : Nat, c0 - a.toNat = c' := ⟨_, rfl⟩
  rw [hL] at hread hcap hT
  rw [hc'] at hcap
  rw [hL, hc'] at hrun
  have hc0 := cellS46_0 hb
  have hc1 := cellS46_1 hb
  have hc2 := cellS46_2 hb
  have hf1 := blk_frozen hb 1
  have hf2 := blk_frozen hb 2
  have HG := Aside0.mk hg
  have HR := Aside0.mk hr0
  have HT := Aside0.mk hT
  have RE := Aside0.mk hread
  have CA := Aside0.mk hcap
  have d0 : decide (n < 0) = false := decide_eq_false (by omega)
  have d1 : decide (((b.length : Int) - ((p : Int) + 7) / 8 * 8) / 8 < n) = false := decide_eq_false (by omega)
  have p0 : 0 ≤ (p : Int) := by omega
  have p1 : (p : Int) ≤ 8000000 := by omega
  have p2 : (b.length : Int) ≤ 8000000 := by omega
  have p3 : n ≤ 8000000 := by omega
  have E1 := Aside0.mk ha
  have E2 := Aside0.mk he
  rw [ha, he] at hrun
  clear hb hg hr0 hB hT hread hcap he2 ha he
  go_enter Try.func30, Try.ntmps30
  go_wp2_with fail
  refine (montageref01_Text.calls k A' c' L r _ (Kd.C_of_reads (RE.out _ (Kd.reads_of_C (Kd.C_below HR.out (below_set HB.out HG.out.1))))) CA.out HT.out).mono ?_
  · rintro e' w1 ⟨rfl, hb1⟩
    have WI := Aside0.mk (IsS46.set_1 HI.out (((p : Int) + 7) / 8 * 8 + 8 * n))
    have BW := Aside0.mk hb1
    clear hb1
    go_wp2
    go_ret
    exact ⟨rfl, by rw [E2.out]; exact WI.out.below BW.out, below_step (below_set HB.out HG.out.1) BW.out, KeepBut.trans ((KeepBut.refl w g none).set_ _ _) (KeepBut.of_below BW.out g none) (.inl rfl)⟩
end Go.Proofs.Ytndcfccbicognaa.XBitsRef
