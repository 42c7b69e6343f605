/- prefix.Table.Read: what it does. It has no conditions. -/
import Derived.Test.YtiemjhoadobigaaYPrefixAt
import Derived.BigRegion
import Derived.RegionTactic
import Derived.ChangeAlike
import Derived.Deep.RegionWith
import Derived.Deep.RegionLaw
import Derived.Laws.Tables
import Derived.Deep.QuietTactic
import Derived.BigQuiet
import Derived.Deep.RegionHeld3
import Derived.Deep.AppendLies
import Derived.Deep.DrawnRows
import Derived.Laws.CopyOwn
import Derived.Deep.MidRow
import Derived.Laws.ResultCell
import Derived.ChangeKeysEq
namespace Go.Proofs.Ytiemjhoadobigaa.XPrefix
set_option linter.unusedVariables false
set_option linter.unusedSimpArgs false
open Go.RowKit Go.Proofs.YtiemjhoadobigaaW.PrintWords Go.Proofs.YtiemjhoadobigaaW.PrintLast Go.Proofs.YtiemjhoadobigaaW.PrintMore

theorem symRow_cnt (l : List Int) (n : Nat) : ∀ i, ((symRow l n i).length : Int) = cnt l i n
  | 0 => rfl
  | i + 1 => by
    rw [symRow, cnt, List.length_append, Int.natCast_add, symRow_cnt l n i]
    by_cases h : rd l (i : Int) = (n : Int)
    · rw [if_pos h, if_pos h]; rfl
    · rw [if_neg h, if_neg h]; rfl
theorem symUp_cnt (l : List Int) (n : Nat) : ((symUp l (n + 1)).length : Int) = (symUp l n).length + cnt l l.length (n + 1) := by
  rw [symUp, List.length_append, Int.natCast_add, symRow_cnt]
theorem symUp_mono (l : List Int) (n : Nat) : ∀ m, n ≤ m → (symUp l n).length ≤ (symUp l m).length
  | 0, h => by rw [show n = 0 from by omega]; exact Nat.le_refl _
  | m + 1, h => by
    by_cases e : n = m + 1
    · rw [e]; exact Nat.le_refl _
    · have := symUp_mono l n m (by omega)
      rw [symUp, List.length_append]
      omega
/-- Reading a symbol, k bits being read: the symbol, the error, the place behind, and whether the reader is bad. -/
def readK (l : List Int) (kd : Int) (bit : Nat → Int) (N : Nat) : Nat → Nat → Int → Nat → Int × Int × Nat × Bool
  | 0, _, _, p => (0, 10, p, false)
  | d + 1, k, n, p => if N ≤ p then (0, 3, p, true) else
      if 2 * n + bit p - nx (cnt l l.length) (k + 1) < cnt l l.length (k + 1) then (rd (symUp l 15) ((symUp l k).length + (2 * n + bit p - nx (cnt l l.length) (k + 1))), 0, p + 1, false) else
      if kd = 1 then (0, 10, p + 1, false) else readK l kd bit N d (k + 1) (2 * n + bit p) (p + 1)

theorem IsT.keep {base : Nat} {W W1 : World} {g gr : Nat} {l : List Int} {k : Int} {cs : Array Value} (h : IsT base W g l k) (hr : W.heap[gr]? = some (.cells cs 70 (0, 0))) (hk : KeepBut W W1 gr none) : IsT base W1 g l k := by
  obtain ⟨gc, A, cc, h1, h2, h3, h4, h5⟩ := h
  exact ⟨gc, A, cc, hk.blk h1 (blk_ne h1 hr (by decide)) (by simp), hk.blk h2 (blk_ne h2 hr (by decide)) (by simp), Kd.R_mono (Kd.R_keep (Kd.R_far1 h3 rfl (Kd.R_ne h3 hr (by decide))) hk (fun k hk => hk.2)) (fun _ _ => trivial), h4, h5⟩

open XPrefixReads in
set_option maxHeartbeats 800000 in
set_option maxRecDepth 100000 in
theorem read_calls (base g gr : Nat) (l : List Int) (kd : Int) (bit : Nat → Int) (N p : Nat) (S : ByteArray) (w0 w : World) (hT : IsT base w g l kd) (hI : IsS70 w0 w gr S (p : Int) false) (hB : Below w0.heap.size w0 w) (hp : p ≤ N) (hN : N ≤ 1000000) (hl : l.length ≤ 288) (hkd : kd ≠ 2)
    (hbit : ∀ q : Nat, q < N → (bit q = 0 ∨ bit q = 1) ∧ ∃ kk, bits_Reader_Bits.f kk S (q : Int) false 1 = some (bit q, S, ((q + 1 : Nat) : Int), false))
    (hend : ∃ kk, bits_Reader_Bits.f kk S (N : Int) false 1 = some (0, S, (N : Int), true))
    (hor : ∀ n b : Int, 0 ≤ n → n < 100000 → (b = 0 ∨ b = 1) → bits .or .i64 (n * 2) b = 2 * n + b) :
    Calls Try.prog 17 #[.pointer (some ⟨g, 0, none⟩), .pointer (some ⟨gr, 0, none⟩)] w fun e w' =>
      e = .returned (.tuple #[.int .i64 (readK l kd bit N 15 0 0 p).1, .int .i64 (readK l kd bit N 15 0 0 p).2.1]) ∧ IsS70 w0 w' gr S ((readK l kd bit N 15 0 0 p).2.2.1 : Int) (readK l kd bit N 15 0 0 p).2.2.2 ∧ Below w0.heap.size w0 w' ∧ KeepBut w w' gr none := by
  obtain ⟨R, hR⟩ : ∃ R, readK l kd bit N 15 0 0 p = R := ⟨_, rfl⟩
  rw [hR]
  have HR := Aside0.mk hR
  have HT := Aside0.mk hT
  have HI := Aside0.mk hI
  have HB := Aside0.mk hB
  have HBit := Aside0.mk hbit
  have HEnd := Aside0.mk hend
  have HOr := Aside0.mk hor
  have hk0 : w.cell? ⟨g, 0, none⟩ = some (.int .i64 kd) := by obtain ⟨gc, A, cc, h1, _⟩ := hT; exact (blk_cell h1 0).trans rfl
  have e2 : (kd == 2) = false := beq_eq_false_iff_ne.mpr hkd
  clear hR hT hI hB hbit hend hor
  go_enter Try.func17, Try.ntmps17
  go_wp2
  go_loopw [6, 7, 8] (fun v6 v7 v8 wr => ∃ (k q : Nat) (n : Int), k ≤ 15 ∧ q ≤ N ∧ v8 = .int .i64 ((k : Int) + 1) ∧ v6 = .int .i64 n ∧ v7 = .int .i64 ((symUp l k).length : Int) ∧ Aside0 (readK l kd bit N (15 - k) k n q = R) ∧ Aside0 (nx (cnt l l.length) (k + 1) ≤ 2 * n ∧ 0 ≤ n ∧ n < 2 ^ k) ∧ Aside0 (IsT base wr g l kd) ∧ Aside0 (IsS70 w0 wr gr S (q : Int) false) ∧ Aside0 (Below w0.heap.size w0 wr) ∧ Aside0 (KeepBut w wr gr none)) (fun _ _ v8 _ => 17 - (intOf v8).toNat)
  case atStart => exact ⟨0, p, 0, by omega, hp, rfl, rfl, rfl, HR, ⟨by simp [nx], by omega, by decide⟩, HT, HI, HB, ⟨KeepBut.refl _ _ _⟩⟩
  case round =>
    clear HR HT HI HB hk0
    obtain ⟨k, q, n, hk, hq, rfl, rfl, rfl, HR, HNN, HT, HI, HB, HK⟩ := hrel
    by_cases hlt : k < 15
    · have d0 : decide ((k : Int) + 1 ≤ 15) = true := decide_eq_true (by omega)
      have n0 := HNN.out.2.1
      have n1 : n < 65536 := by have := HNN.out.2.2; have := pow_le_15 k (by omega); omega
      obtain ⟨dd, hdd⟩ : ∃ dd, 15 - k = dd + 1 := ⟨14 - k, by omega⟩
      have hR := HR.out
      rw [hdd, readK] at hR
      by_cases hqN : N ≤ q
      · have hq2 : q = N := by omega
        subst hq2
        rw [if_pos hqN] at hR
        obtain ⟨kk, hE⟩ := HEnd.out
        have HE := Aside0.mk hE
        have o1 : bits .or .i64 (n * 2) 0 = 2 * n := by rw [HOr.out n 0 n0 (by omega) (.inl rfl)]; omega
        have HR2 := Aside0.mk hR
        clear hE hR hdd HEnd
        go_wp2_with fail
        refine (bits_Reader_Bits.calls kk gr S (q : Int) false 1 0 S (q : Int) true w0 _ HI.out HB.out HE.out).mono ?_
        rintro e w1 ⟨rfl, hI1, hB1, hK1⟩
        have HI1 := Aside0.mk hI1
        have HB1 := Aside0.mk hB1
        have HK1 := Aside0.mk (HK.out.trans hK1 (.inl rfl))
        clear hI1 hB1 hK1
        go_wp2_with fail
        refine (bits_Reader_Err.calls gr S (q : Int) true 3 S (q : Int) true w0 _ HI1.out HB1.out rfl).mono ?_
        rintro e w2 ⟨rfl, hI2, hB2, hK2⟩
        have HI2 := Aside0.mk hI2
        have HB2 := Aside0.mk hB2
        have HK2 := Aside0.mk (HK1.out.trans hK2 (.inl rfl))
        clear hI2 hB2 hK2
        go_wp2
        go_ret2
        exact ⟨by rw [← HR2.out]; rfl, by rw [← HR2.out]; exact HI2.out, HB2.out, HK2.out⟩
      · rw [if_neg hqN] at hR
        obtain ⟨hb01, kk, hE⟩ := HBit.out q (by omega)
        obtain ⟨b, hb⟩ : ∃ b, bit q = b := ⟨_, rfl⟩
        rw [hb] at hR hE hb01
        have HE := Aside0.mk hE
        have o1 : bits .or .i64 (n * 2) b = 2 * n + b := HOr.out n b n0 (by omega) hb01
        have b0 : 0 ≤ b := by omega
        have b1 : b < 2 := by omega
        have HR2 := Aside0.mk hR
        clear hE hR
        go_wp2_with fail
        refine (bits_Reader_Bits.calls kk gr S (q : Int) false 1 b S ((q + 1 : Nat) : Int) false w0 _ HI.out HB.out HE.out).mono ?_
        rintro e w1 ⟨rfl, hI1, hB1, hK1⟩
        have HT1 := Aside0.mk (HT.out.keep HI.out.1 hK1)
        have HI1 := Aside0.mk hI1
        have HB1 := Aside0.mk hB1
        have HK1 := Aside0.mk (HK.out.trans hK1 (.inl rfl))
        clear hI1 hB1 hK1
        go_wp2_with fail
        refine (bits_Reader_Err.calls gr S ((q + 1 : Nat) : Int) false 0 S ((q + 1 : Nat) : Int) false w0 _ HI1.out HB1.out rfl).mono ?_
        rintro e w2 ⟨rfl, hI2, hB2, hK2⟩
        have HT2 := Aside0.mk (HT1.out.keep HI1.out.1 hK2)
        have HI2 := Aside0.mk hI2
        have HB2 := Aside0.mk hB2
        have HK2 := Aside0.mk (HK1.out.trans hK2 (.inl rfl))
        clear hI2 hB2 hK2
        obtain ⟨gc, A, cc, t1, t2, t3, t4, t5⟩ := HT2.out
        have zf : w2.cell? ⟨g, 2 + (k + 1), none⟩ = some (.int .i64 (nx (cnt l l.length) (k + 1))) := (blk_cell t1 (2 + (k + 1))).trans ((tab_getF _ _ _ _ _ (k + 1) (by omega)).trans (by rw [fAt, if_pos (by omega)]))
        have zc : w2.cell? ⟨g, 18 + (k + 1), none⟩ = some (.int .i64 (cnt l l.length (k + 1))) := (blk_cell t1 (18 + (k + 1))).trans ((tab_getC _ _ _ _ _ (k + 1) (by omega)).trans (by rw [upd, if_neg (by omega)]))
        have zk : w2.cell? ⟨g, 0, none⟩ = some (.int .i64 kd) := (blk_cell t1 0).trans rfl
        have zs : w2.cell? ⟨g, 34, none⟩ = some (.slice A (symUp l 15).length cc) := (blk_cell t1 34).trans rfl
        have T3 := Aside0.mk t3
        have f0 := HNN.out.1
        have f1 := (nx_le (cnt l l.length) (fun j => by have := cnt_range l l.length j; omega) (k + 1) (by omega)).1
        have c0 := cnt_range l l.length (k + 1)
        have L1 := Aside0.mk (symUp_cnt l k)
        have L2 := Aside0.mk (symUp_mono l (k + 1) 15 (by omega))
        have L3 := symUp_len l 15
        have p2 : 0 ≤ (k : Int) + 1 := by omega
        have q2 : (k : Int) + 1 < 16 := by omega
        obtain ⟨f, hf⟩ : ∃ f, nx (cnt l l.length) (k + 1) = f := ⟨_, rfl⟩
        obtain ⟨c, hc⟩ : ∃ c, cnt l l.length (k + 1) = c := ⟨_, rfl⟩
        have HF := Aside0.mk hf
        have HR3 := Aside0.mk (hf ▸ hc ▸ HR2.out)
        rw [hf] at zf f0 f1
        rw [hc] at zc c0 L1
        have HC := Aside0.mk hc
        clear hf hc t1 t2 t3 HR2
        have l1 := L1.out
        have l2 := L2.out
        have l3 : (symUp l 15).length ≤ 4320 := by omega
        have hr := HR3.out
        by_cases hit : 2 * n + b - f < c
        · have d1 : decide (2 * n + b - f < c) = true := decide_eq_true hit
          rw [if_pos hit] at hr
          obtain ⟨m, hm⟩ : ∃ m : Nat, ((symUp l k).length : Int) + (2 * n + b - f) = m := ⟨(((symUp l k).length : Int) + (2 * n + b - f)).toNat, by omega⟩
          obtain ⟨gs, cs, es, _, _, _, _⟩ := Kd.R_form T3.out (by omega)
          cases es
          obtain ⟨hxs, _⟩ := Kd.R_celln 0 T3.out (m : Int) (by omega) (by omega)
          rw [Int.toNat_natCast] at hxs
          replace hxs : w2.cell? ⟨gs, m, none⟩ = some (.int .i64 (rd (symUp l 15) (m : Int))) := hxs.trans rfl
          have p3 : 0 ≤ (m : Int) := by omega
          have q3 : (m : Int) < ((symUp l 15).length : Int) := by omega
          rw [hm] at hr
          have HR4 := Aside0.mk hr
          clear hr l1 l2 c0
          go_wp2
          go_ret2
          exact ⟨by rw [← HR4.out]; rfl, by rw [← HR4.out]; exact HI2.out, HB2.out, HK2.out⟩
        · have d1 : decide (2 * n + b - f < c) = false := decide_eq_false hit
          rw [if_neg hit] at hr
          by_cases hk1 : kd = 1
          · have e3 : (kd == 1) = true := beq_iff_eq.mpr hk1
            rw [if_pos hk1] at hr
            have HR4 := Aside0.mk hr
            clear hr
            go_wp2
            go_ret2
            exact ⟨by rw [← HR4.out]; rfl, by rw [← HR4.out]; exact HI2.out, HB2.out, HK2.out⟩
          · have e3 : (kd == 1) = false := beq_eq_false_iff_ne.mpr hk1
            rw [if_neg hk1] at hr
            have HR4 := Aside0.mk hr
            have nn := HNN.out.2.2
            have HN2 := Aside0.mk (show nx (cnt l l.length) (k + 1 + 1) ≤ 2 * (2 * n + b) ∧ 0 ≤ 2 * n + b ∧ 2 * n + b < 2 ^ (k + 1) by
              refine ⟨?_, by omega, by rw [Int.pow_succ]; omega⟩
              rw [nx, HF.out, HC.out]; omega)
            clear hr nn
            go_wp2
            go_roundw
            case rel => exact ⟨k + 1, q + 1, 2 * n + b, by omega, by omega, by go_num, rfl, by rw [L1.out], ⟨by rw [show 15 - (k + 1) = dd from by omega]; exact HR4.out⟩, HN2, HT2, HI2, HB2, HK2⟩
            case measure => simp [intOf]; omega
    · have hk15 : k = 15 := by omega
      subst hk15
      have d0 : decide (((15 : Nat) : Int) + 1 ≤ 15) = false := by decide
      have HR2 := Aside0.mk (show R = (0, 10, q, false) by rw [← HR.out]; rfl)
      go_wp2
      go_ret2
      exact ⟨by rw [HR2.out]; rfl, by rw [HR2.out]; exact HI.out, HB.out, HK.out⟩

end Go.Proofs.Ytiemjhoadobigaa.XPrefix
