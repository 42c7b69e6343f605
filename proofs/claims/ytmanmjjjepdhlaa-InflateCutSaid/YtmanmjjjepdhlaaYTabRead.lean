/- The tables of codes: what is read. It has no conditions. -/
import Derived.Test.YtmanmjjjepdhlaaYTab
import Derived.Test.YtmanmjjjepdhlaaYNum
import Derived.BigRegion
import Derived.RegionTactic
import Derived.ChangeAlike
import Derived.Deep.RegionWith
import Derived.Deep.RegionLaw
import Derived.Laws.Tables
import Derived.Deep.QuietTactic
import Derived.BigQuiet
import Derived.Deep.RegionHeld3
import Derived.Deep.AppendLies
import Derived.Deep.DrawnRows
import Derived.Laws.CopyOwn
import Derived.Deep.MidRow
import Derived.Laws.ResultCell
import Derived.ChangeKeysEq
import Derived.Laws.BitsAllLaws
namespace Go.Proofs.Ytmanmjjjepdhlaa.XPrefix
set_option linter.unusedVariables false
set_option linter.unusedSimpArgs false
open Go.RowKit Go.Proofs.YtmanmjjjepdhlaaW.PrintWords Go.Proofs.YtmanmjjjepdhlaaW.PrintLast Go.Proofs.YtmanmjjjepdhlaaW.PrintMore


theorem symRow_cnt (l : List Int) (n : Nat) : ∀ i, ((symRow l n i).length : Int) = cnt l i n
  | 0 => rfl
  | i + 1 => by
    rw [symRow, cnt, List.length_append, Int.natCast_add, symRow_cnt l n i]
    by_cases h : rd l (i : Int) = (n : Int)
    · rw [if_pos h, if_pos h]; rfl
    · rw [if_neg h, if_neg h]; rfl
theorem symUp_cnt (l : List Int) (n : Nat) : ((symUp l (n + 1)).length : Int) = (symUp l n).length + cnt l l.length (n + 1) := by
  rw [symUp, List.length_append, Int.natCast_add, symRow_cnt]
theorem symUp_mono (l : List Int) (n : Nat) : ∀ m, n ≤ m → (symUp l n).length ≤ (symUp l m).length
  | 0, h => by rw [show n = 0 from by omega]; exact Nat.le_refl _
  | m + 1, h => by
    by_cases e : n = m + 1
    · rw [e]; exact Nat.le_refl _
    · have := symUp_mono l n m (by omega)
      rw [symUp, List.length_append]
      omega
/-- Reading a symbol, k bits being read: the symbol, the error, the place behind, and whether the reader is bad. -/
def readK (l : List Int) (kd : Int) (bit : Nat → Int) (N : Nat) : Nat → Nat → Int → Nat → Int × Int × Nat × Bool
  | 0, _, _, p => (0, 10, p, false)
  | d + 1, k, n, p => if N ≤ p then (0, 3, p, true) else
      if 2 * n + bit p - nx (cnt l l.length) (k + 1) < cnt l l.length (k + 1) then (rd (symUp l 15) ((symUp l k).length + (2 * n + bit p - nx (cnt l l.length) (k + 1))), 0, p + 1, false) else
      if kd = 1 then (0, 10, p + 1, false) else readK l kd bit N d (k + 1) (2 * n + bit p) (p + 1)

theorem IsT.keep {base : Nat} {W W1 : World} {g gr : Nat} {l : List Int} {k : Int} {cs : Array Value} (h : IsT base W g l k) (hr : W.heap[gr]? = some (.cells cs 155 (0, 0))) (hk : KeepBut W W1 gr none) : IsT base W1 g l k := by
  obtain ⟨gc, A, cc, h1, h2, h3, h4, h5⟩ := h
  exact ⟨gc, A, cc, hk.blk h1 (blk_ne h1 hr (by decide)) (by simp), hk.blk h2 (blk_ne h2 hr (by decide)) (by simp), Kd.R_mono (Kd.R_keep (Kd.R_far1 h3 rfl (Kd.R_ne h3 hr (by decide))) hk (fun k hk => hk.2)) (fun _ _ => trivial), h4, h5⟩

open XInflateAny in
set_option maxHeartbeats 800000 in
set_option maxRecDepth 100000 in
theorem read_calls (base g gr : Nat) (l : List Int) (kd : Int) (bit : Nat → Int) (N p : Nat) (S : ByteArray) (w0 w : World) (hT : IsT base w g l kd) (hI : IsS155 w0 w gr S (p : Int) false) (hB : Below w0.heap.size w0 w) (hp : p ≤ N) (hN : N ≤ 1000000) (hl : l.length ≤ 288) (hkd : kd ≠ 2)
    (hbit : ∀ q : Nat, q < N → (bit q = 0 ∨ bit q = 1) ∧ ∃ kk, bits_Reader_Bits.f kk S (q : Int) false 1 = some (bit q, S, ((q + 1 : Nat) : Int), false))
    (hend : ∃ kk, bits_Reader_Bits.f kk S (N : Int) false 1 = some (0, S, (N : Int), true))
    (hor : ∀ n b : Int, 0 ≤ n → n < 100000 → (b = 0 ∨ b = 1) → bits .or .i64 (n * 2) b = 2 * n + b) :
    Calls Try.prog 140 #[.pointer (some ⟨g, 0, none⟩), .pointer (some ⟨gr, 0, none⟩)] w fun e w' =>
      e = .returned (.tuple #[.int .i64 (readK l kd bit N 15 0 0 p).1, .int .i64 (readK l kd bit N 15 0 0 p).2.1]) ∧ IsS155 w0 w' gr S ((readK l kd bit N 15 0 0 p).2.2.1 : Int) (readK l kd bit N 15 0 0 p).2.2.2 ∧ Below w0.heap.size w0 w' ∧ KeepBut w w' gr none := by
  obtain ⟨R, hR⟩ : ∃ R, readK l kd bit N 15 0 0 p = R := ⟨_, rfl⟩
  rw [hR]
  have HR := Aside0.mk hR
  have HT := Aside0.mk hT
  have HI := Aside0.mk hI
  have HB := Aside0.mk hB
  have HBit := Aside0.mk hbit
  have HEnd := Aside0.mk hend
  have HOr := Aside0.mk hor
  have hk0 : w.cell? ⟨g, 0, none⟩ = some (.int .i64 kd) := by obtain ⟨gc, A, cc, h1, _⟩ := hT; exact (blk_cell h1 0).trans rfl
  have e2 : (kd == 2) = false := beq_eq_false_iff_ne.mpr hkd
  clear hR hT hI hB hbit hend hor
  go_enter Try.func140, Try.ntmps140
  go_wp2
  go_loopw [6, 7, 8] (fun v6 v7 v8 wr => ∃ (k q : Nat) (n : Int), k ≤ 15 ∧ q ≤ N ∧ v8 = .int .i64 ((k : Int) + 1) ∧ v6 = .int .i64 n ∧ v7 = .int .i64 ((symUp l k).length : Int) ∧ Aside0 (readK l kd bit N (15 - k) k n q = R) ∧ Aside0 (nx (cnt l l.length) (k + 1) ≤ 2 * n ∧ 0 ≤ n ∧ n < 2 ^ k) ∧ Aside0 (IsT base wr g l kd) ∧ Aside0 (IsS155 w0 wr gr S (q : Int) false) ∧ Aside0 (Below w0.heap.size w0 wr) ∧ Aside0 (KeepBut w wr gr none)) (fun _ _ v8 _ => 17 - (intOf v8).toNat)
  case atStart => exact ⟨0, p, 0, by omega, hp, rfl, rfl, rfl, HR, ⟨by simp [nx], by omega, by decide⟩, HT, HI, HB, ⟨KeepBut.refl _ _ _⟩⟩
  case round =>
    clear HR HT HI HB hk0
    obtain ⟨k, q, n, hk, hq, rfl, rfl, rfl, HR, HNN, HT, HI, HB, HK⟩ := hrel
    by_cases hlt : k < 15
    · have d0 : decide ((k : Int) + 1 ≤ 15) = true := decide_eq_true (by omega)
      have n0 := HNN.out.2.1
      have n1 : n < 65536 := by have := HNN.out.2.2; have := pow_le_15 k (by omega); omega
      obtain ⟨dd, hdd⟩ : ∃ dd, 15 - k = dd + 1 := ⟨14 - k, by omega⟩
      have hR := HR.out
      rw [hdd, readK] at hR
      by_cases hqN : N ≤ q
      · have hq2 : q = N := by omega
        subst hq2
        rw [if_pos hqN] at hR
        obtain ⟨kk, hE⟩ := HEnd.out
        have HE := Aside0.mk hE
        have o1 : bits .or .i64 (n * 2) 0 = 2 * n := by rw [HOr.out n 0 n0 (by omega) (.inl rfl)]; omega
        have HR2 := Aside0.mk hR
        clear hE hR hdd HEnd
        go_wp2_with fail
        refine (bits_Reader_Bits.calls kk gr S (q : Int) false 1 0 S (q : Int) true w0 _ HI.out HB.out HE.out).mono ?_
        rintro e w1 ⟨rfl, hI1, hB1, hK1⟩
        have HI1 := Aside0.mk hI1
        have HB1 := Aside0.mk hB1
        have HK1 := Aside0.mk (HK.out.trans hK1 (.inl rfl))
        clear hI1 hB1 hK1
        go_wp2_with fail
        refine (bits_Reader_Err.calls gr S (q : Int) true 3 S (q : Int) true w0 _ HI1.out HB1.out rfl).mono ?_
        rintro e w2 ⟨rfl, hI2, hB2, hK2⟩
        have HI2 := Aside0.mk hI2
        have HB2 := Aside0.mk hB2
        have HK2 := Aside0.mk (HK1.out.trans hK2 (.inl rfl))
        clear hI2 hB2 hK2
        go_wp2
        go_ret2
        exact ⟨by rw [← HR2.out]; rfl, by rw [← HR2.out]; exact HI2.out, HB2.out, HK2.out⟩
      · rw [if_neg hqN] at hR
        obtain ⟨hb01, kk, hE⟩ := HBit.out q (by omega)
        obtain ⟨b, hb⟩ : ∃ b, bit q = b := ⟨_, rfl⟩
        rw [hb] at hR hE hb01
        have HE := Aside0.mk hE
        have o1 : bits .or .i64 (n * 2) b = 2 * n + b := HOr.out n b n0 (by omega) hb01
        have b0 : 0 ≤ b := by omega
        have b1 : b < 2 := by omega
        have HR2 := Aside0.mk hR
        clear hE hR
        go_wp2_with fail
        refine (bits_Reader_Bits.calls kk gr S (q : Int) false 1 b S ((q + 1 : Nat) : Int) false w0 _ HI.out HB.out HE.out).mono ?_
        rintro e w1 ⟨rfl, hI1, hB1, hK1⟩
        have HT1 := Aside0.mk (HT.out.keep HI.out.1 hK1)
        have HI1 := Aside0.mk hI1
        have HB1 := Aside0.mk hB1
        have HK1 := Aside0.mk (HK.out.trans hK1 (.inl rfl))
        clear hI1 hB1 hK1
        go_wp2_with fail
        refine (bits_Reader_Err.calls gr S ((q + 1 : Nat) : Int) false 0 S ((q + 1 : Nat) : Int) false w0 _ HI1.out HB1.out rfl).mono ?_
        rintro e w2 ⟨rfl, hI2, hB2, hK2⟩
        have HT2 := Aside0.mk (HT1.out.keep HI1.out.1 hK2)
        have HI2 := Aside0.mk hI2
        have HB2 := Aside0.mk hB2
        have HK2 := Aside0.mk (HK1.out.trans hK2 (.inl rfl))
        clear hI2 hB2 hK2
        obtain ⟨gc, A, cc, t1, t2, t3, t4, t5⟩ := HT2.out
        have zf : w2.cell? ⟨g, 2 + (k + 1), none⟩ = some (.int .i64 (nx (cnt l l.length) (k + 1))) := (blk_cell t1 (2 + (k + 1))).trans ((tab_getF _ _ _ _ _ (k + 1) (by omega)).trans (by rw [fAt, if_pos (by omega)]))
        have zc : w2.cell? ⟨g, 18 + (k + 1), none⟩ = some (.int .i64 (cnt l l.length (k + 1))) := (blk_cell t1 (18 + (k + 1))).trans ((tab_getC _ _ _ _ _ (k + 1) (by omega)).trans (by rw [upd, if_neg (by omega)]))
        have zk : w2.cell? ⟨g, 0, none⟩ = some (.int .i64 kd) := (blk_cell t1 0).trans rfl
        have zs : w2.cell? ⟨g, 34, none⟩ = some (.slice A (symUp l 15).length cc) := (blk_cell t1 34).trans rfl
        have T3 := Aside0.mk t3
        have f0 := HNN.out.1
        have f1 := (nx_le (cnt l l.length) (fun j => by have := cnt_range l l.length j; omega) (k + 1) (by omega)).1
        have c0 := cnt_range l l.length (k + 1)
        have L1 := Aside0.mk (symUp_cnt l k)
        have L2 := Aside0.mk (symUp_mono l (k + 1) 15 (by omega))
        have L3 := symUp_len l 15
        have p2 : 0 ≤ (k : Int) + 1 := by omega
        have q2 : (k : Int) + 1 < 16 := by omega
        obtain ⟨f, hf⟩ : ∃ f, nx (cnt l l.length) (k + 1) = f := ⟨_, rfl⟩
        obtain ⟨c, hc⟩ : ∃ c, cnt l l.length (k + 1) = c := ⟨_, rfl⟩
        have HF := Aside0.mk hf
        have HR3 := Aside0.mk (hf ▸ hc ▸ HR2.out)
        rw [hf] at zf f0 f1
        rw [hc] at zc c0 L1
        have HC := Aside0.mk hc
        clear hf hc t1 t2 t3 HR2
        have l1 := L1.out
        have l2 := L2.out
        have l3 : (symUp l 15).length ≤ 4320 := by omega
        have hr := HR3.out
        by_cases hit : 2 * n + b - f < c
        · have d1 : decide (2 * n + b - f < c) = true := decide_eq_true hit
          rw [if_pos hit] at hr
          obtain ⟨m, hm⟩ : ∃ m : Nat, ((symUp l k).length : Int) + (2 * n + b - f) = m := ⟨(((symUp l k).length : Int) + (2 * n + b - f)).toNat, by omega⟩
          obtain ⟨gs, cs, es, _, _, _, _⟩ := Kd.R_form T3.out (by omega)
          cases es
          obtain ⟨hxs, _⟩ := Kd.R_celln 0 T3.out (m : Int) (by omega) (by omega)
          rw [Int.toNat_natCast] at hxs
          replace hxs : w2.cell? ⟨gs, m, none⟩ = some (.int .i64 (rd (symUp l 15) (m : Int))) := hxs.trans rfl
          have p3 : 0 ≤ (m : Int) := by omega
          have q3 : (m : Int) < ((symUp l 15).length : Int) := by omega
          rw [hm] at hr
          have HR4 := Aside0.mk hr
          clear hr l1 l2 c0
          go_wp2
          go_ret2
          exact ⟨by rw [← HR4.out]; rfl, by rw [← HR4.out]; exact HI2.out, HB2.out, HK2.out⟩
        · have d1 : decide (2 * n + b - f < c) = false := decide_eq_false hit
          rw [if_neg hit] at hr
          by_cases hk1 : kd = 1
          · have e3 : (kd == 1) = true := beq_iff_eq.mpr hk1
            rw [if_pos hk1] at hr
            have HR4 := Aside0.mk hr
            clear hr
            go_wp2
            go_ret2
            exact ⟨by rw [← HR4.out]; rfl, by rw [← HR4.out]; exact HI2.out, HB2.out, HK2.out⟩
          · have e3 : (kd == 1) = false := beq_eq_false_iff_ne.mpr hk1
            rw [if_neg hk1] at hr
            have HR4 := Aside0.mk hr
            have nn := HNN.out.2.2
            have HN2 := Aside0.mk (show nx (cnt l l.length) (k + 1 + 1) ≤ 2 * (2 * n + b) ∧ 0 ≤ 2 * n + b ∧ 2 * n + b < 2 ^ (k + 1) by
              refine ⟨?_, by omega, by rw [Int.pow_succ]; omega⟩
              rw [nx, HF.out, HC.out]; omega)
            clear hr nn
            go_wp2
            go_roundw
            case rel => exact ⟨k + 1, q + 1, 2 * n + b, by omega, by omega, by go_num, rfl, by rw [L1.out], ⟨by rw [show 15 - (k + 1) = dd from by omega]; exact HR4.out⟩, HN2, HT2, HI2, HB2, HK2⟩
            case measure => simp [intOf]; omega
    · have hk15 : k = 15 := by omega
      subst hk15
      have d0 : decide (((15 : Nat) : Int) + 1 ≤ 15) = false := by decide
      have HR2 := Aside0.mk (show R = (0, 10, q, false) by rw [← HR.out]; rfl)
      go_wp2
      go_ret2
      exact ⟨by rw [HR2.out]; rfl, by rw [HR2.out]; exact HI.out, HB.out, HK.out⟩



open XInflateAny
theorem or_bit (n b : Int) (h0 : 0 ≤ n) (h1 : n < 100000) (hb : b = 0 ∨ b = 1) : bits .or .i64 (n * 2) b = 2 * n + b := by
  obtain ⟨m, rfl⟩ := Int.eq_ofNat_of_zero_le h0
  obtain ⟨c, hc, hc2⟩ : ∃ c : Nat, b = c ∧ c < 2 := ⟨b.toNat, by omega, by omega⟩
  subst hc
  have e : ((m : Int) * 2) = ((m * 2 : Nat) : Int) := by omega
  rw [e]
  have hx : m * 2 ||| c = m * 2 + c := by
    rw [Nat.or_comm]
    have := or_add c m 1 (by omega)
    rw [Nat.pow_one] at this
    omega
  have g1 : (BitVec.ofInt 64 ((m * 2 : Nat) : Int)).toNat = m * 2 := by
    rw [BitVec.ofInt_natCast, BitVec.toNat_ofNat]; exact Nat.mod_eq_of_lt (by omega)
  have g2 : (BitVec.ofInt 64 (c : Int)).toNat = c := by
    rw [BitVec.ofInt_natCast, BitVec.toNat_ofNat]; exact Nat.mod_eq_of_lt (by omega)
  show IntKind.i64.wrap ((BitVec.ofInt 64 ((m * 2 : Nat) : Int) ||| BitVec.ofInt 64 (c : Int)).toNat : Int) = _
  rw [BitVec.toNat_or, g1, g2, hx, i64_w]
  unfold wrap64
  omega
/-- The bits of the number Z. -/
def bitZ (Z : Nat) (q : Nat) : Int := ((Z / 2 ^ q % 2 : Nat) : Int)
theorem bit_reads (S : ByteArray) (Z : Nat) (hS : S.size ≤ 1000000) (hZ : ∀ i, i < S.size → bt S (i : Int) = ((Z / 256 ^ i % 256 : Nat) : Int)) (q : Nat) (h : q < 8 * S.size) :
    (bitZ Z q = 0 ∨ bitZ Z q = 1) ∧ ∃ kk, bits_Reader_Bits.f kk S (q : Int) false 1 = some (bitZ Z q, S, ((q + 1 : Nat) : Int), false) := by
  refine ⟨by unfold bitZ; omega, ?_⟩
  have h := (reads S Z q 1 (by omega) (by omega) hS hZ).rounds
  exact h
theorem bit_ends (S : ByteArray) (hS : S.size ≤ 1000000) : ∃ kk, bits_Reader_Bits.f kk S ((8 * S.size : Nat) : Int) false 1 = some (0, S, ((8 * S.size : Nat) : Int), true) :=
  (fails S (8 * S.size) 1 (Nat.le_refl _) hS (by omega)).rounds
/-- Table.Read, of any text. -/
theorem read_any (base g gr : Nat) (l : List Int) (kd : Int) (p Z : Nat) (S : ByteArray) (w0 w : World) (hT : IsT base w g l kd) (hI : IsS155 w0 w gr S (p : Int) false) (hB : Below w0.heap.size w0 w) (hp : p ≤ 8 * S.size) (hS : S.size ≤ 100000) (hl : l.length ≤ 288) (hkd : kd ≠ 2)
    (hZ : ∀ i, i < S.size → bt S (i : Int) = ((Z / 256 ^ i % 256 : Nat) : Int)) :
    Calls Try.prog 140 #[.pointer (some ⟨g, 0, none⟩), .pointer (some ⟨gr, 0, none⟩)] w fun e w' =>
      e = .returned (.tuple #[.int .i64 (readK l kd (bitZ Z) (8 * S.size) 15 0 0 p).1, .int .i64 (readK l kd (bitZ Z) (8 * S.size) 15 0 0 p).2.1]) ∧ IsS155 w0 w' gr S ((readK l kd (bitZ Z) (8 * S.size) 15 0 0 p).2.2.1 : Int) (readK l kd (bitZ Z) (8 * S.size) 15 0 0 p).2.2.2 ∧ Below w0.heap.size w0 w' ∧ KeepBut w w' gr none :=
  read_calls base g gr l kd (bitZ Z) (8 * S.size) p S w0 w hT hI hB hp (by omega) hl hkd (fun q hq => bit_reads S Z (by omega) hZ q hq) (bit_ends S (by omega)) or_bit



open XInflateAny
theorem w64 {x : Int} (h0 : -9223372036854775808 ≤ x) (h1 : x < 9223372036854775808) : wrap64 x = x := by unfold wrap64; omega

theorem right_l0 (l : List Int) (ok : OkL l) : ∀ d i : Nat, l.length - i = d → i ≤ l.length → Ev (fun k => montageref05_right.l0 k l (i : Int)) true := by
  have hl := ok.1
  intro d
  induction d with
  | zero =>
    intro i hd hi
    refine Ev.step (f := fun _ => some true) (fun k => ?_) (Ev.now _)
    simp only [montageref05_right.l0]
    rw [if_neg (by omega)]
  | succ d ih =>
    intro i hd hi
    have h := ok.2 i (by omega)
    refine Ev.step (f := fun k => montageref05_right.l0 k l ((i + 1 : Nat) : Int)) (fun k => ?_) (ih (i + 1) (by omega) (by omega))
    simp only [montageref05_right.l0]
    rw [if_pos (by omega), if_pos (by omega), if_neg (by omega), if_neg (by omega), w64 (by omega) (by omega)]
    rfl
theorem right_ok (l : List Int) (ok : OkL l) : Ev (fun k => montageref05_right.f k l) true := by
  have h := right_l0 l ok l.length 0 (by omega) (by omega)
  have hl := ok.1
  unfold montageref05_right.f
  simp only [if_neg (show ¬ (l.length : Int) > 288 by omega)]
  exact h
theorem right_bad (l : List Int) (no : ¬ OkL l) : Ev (fun k => montageref05_right.f k l) false := by
  by_cases hl : 288 < l.length
  · unfold montageref05_right.f
    simp only [if_pos (show (l.length : Int) > 288 by omega)]
    exact Ev.now _
  · have key : ∀ d i : Nat, l.length - i = d → i ≤ l.length → (∀ j : Nat, j < i → 0 ≤ rd l (j : Int) ∧ rd l (j : Int) ≤ 15) → Ev (fun k => montageref05_right.l0 k l (i : Int)) false := by
      intro d
      induction d with
      | zero =>
        intro i hd hi hj
        exact absurd ⟨by omega, fun j h => hj j (by omega)⟩ no
      | succ d ih =>
        intro i hd hi hj
        by_cases h0 : rd l (i : Int) < 0
        · refine Ev.step (f := fun _ => some false) (fun k => ?_) (Ev.now _)
          simp only [montageref05_right.l0]
          rw [if_pos (by omega), if_pos (by omega), if_pos h0]
        · by_cases h1 : rd l (i : Int) > 15
          · refine Ev.step (f := fun _ => some false) (fun k => ?_) (Ev.now _)
            simp only [montageref05_right.l0]
            rw [if_pos (by omega), if_pos (by omega), if_neg h0, if_pos h1]
          · refine Ev.step (f := fun k => montageref05_right.l0 k l ((i + 1 : Nat) : Int)) (fun k => ?_) (ih (i + 1) (by omega) (by omega) (fun j h => by
              by_cases e : j = i
              · subst e; omega
              · exact hj j (by omega)))
            simp only [montageref05_right.l0]
            rw [if_pos (by omega), if_pos (by omega), if_neg h0, if_neg h1, w64 (by omega) (by omega)]
            rfl
    have h := key l.length 0 (by omega) (by omega) (fun j h => absurd h (by omega))
    unfold montageref05_right.f
    simp only [if_neg (show ¬ (l.length : Int) > 288 by omega)]
    exact h

theorem lf_hit (c c' : Nat → Int) (a : Nat) (ha : 1 ≤ a) (h : ∀ j, c' j = c j + if j = a then 1 else 0) : ∀ n, lf c' n = lf c n - if a ≤ n then 2 ^ (n - a) else 0
  | 0 => by rw [if_neg (by omega)]; simp [lf]
  | n + 1 => by
    rw [lf, lf, lf_hit c c' a ha h n, h]
    by_cases e : n + 1 = a
    · subst e
      rw [if_neg (by omega), if_pos rfl, if_pos (Nat.le_refl _), Nat.sub_self]
      omega
    · rw [if_neg e]
      by_cases h2 : a ≤ n
      · rw [if_pos h2, if_pos (by omega), show n + 1 - a = (n - a) + 1 from by omega, Int.pow_succ]
        omega
      · rw [if_neg h2, if_neg (by omega)]
        omega
/-- The room that the first i symbols take, of 32768. -/
def fu (l : List Int) : Nat → Int
  | 0 => 0
  | i + 1 => fu l i + if rd l (i : Int) = 0 then 0 else 2 ^ (15 - (rd l (i : Int)).toNat)
theorem lf_fu (l : List Int) (ok : OkL l) : ∀ i, i ≤ l.length → lf (cnt l i) 15 = 32768 - fu l i
  | 0, _ => by
    have e : ∀ n, lf (cnt l 0) n = 2 ^ n := by
      intro n
      induction n with
      | zero => simp [lf]
      | succ n ih => rw [lf, ih, cnt, Int.pow_succ]; omega
    rw [e, fu]; rfl
  | i + 1, hi => by
    have h := ok.2 i (by omega)
    rw [fu]
    by_cases h0 : rd l (i : Int) = 0
    · rw [if_pos h0, Int.add_zero, ← lf_fu l ok i (by omega)]
      have : ∀ n, lf (cnt l (i + 1)) n = lf (cnt l i) n := by
        intro n
        induction n with
        | zero => rfl
        | succ n ih => rw [lf, lf, ih, cnt, h0, if_neg (by omega), Int.add_zero]
      exact this 15
    · rw [if_neg h0, lf_hit (cnt l i) (cnt l (i + 1)) (rd l (i : Int)).toNat (by omega) (fun j => by
        rw [cnt]
        by_cases e : j = (rd l (i : Int)).toNat
        · rw [if_pos e, if_pos (by omega)]
        · rw [if_neg e, if_neg (by omega)]) 15, if_pos (by omega), lf_fu l ok i (by omega)]
      omega
theorem lf_neg (c : Nat → Int) (hc : ∀ j, 0 ≤ c j) (j : Nat) (h : lf c j < 0) : ∀ d, lf c (j + d) < 0
  | 0 => h
  | d + 1 => by
    have := lf_neg c hc j h d
    have := hc (j + d + 1)
    rw [show j + (d + 1) = (j + d) + 1 from rfl, lf]
    omega

theorem chk_l1 (l : List Int) (x4 x5 : Int) (i : Nat) (r : Int × Int) (hi : i < l.length) (hl : l.length ≤ 288) (h4 : 0 ≤ x4 ∧ x4 ≤ 288 * 32768) (h5 : 0 ≤ x5 ∧ x5 ≤ 288) : ∀ (d : Nat) (x8 x9 : Int), x9 + d = 15 → 0 ≤ x9 → 0 ≤ x8 → x8 * 2 ^ d ≤ 32768 →
    Ev (fun k => montageref05_Check.l0 k l (x4 + x8 * 2 ^ d) (x5 + 1) (rd l (i : Int)) ((i + 1 : Nat) : Int)) r → Ev (fun k => montageref05_Check.l1 k l x4 x5 (i : Int) x8 x9) r
  | 0, x8, x9, h9, h90, h80, hb, h => by
    rw [Int.pow_zero, Int.mul_one] at hb h
    refine Ev.step (f := fun k => montageref05_Check.l0 k l (x4 + x8) (x5 + 1) (rd l (i : Int)) ((i + 1 : Nat) : Int)) (fun k => ?_) h
    simp only [montageref05_Check.l1]
    rw [if_neg (by omega), if_pos (by omega), if_pos (by omega), w64 (by omega) (by omega), w64 (by omega) (by omega), w64 (by omega) (by omega)]
    rfl
  | d + 1, x8, x9, h9, h90, h80, hb, h => by
    have e : x8 * 2 ^ (d + 1) = (2 * x8) * 2 ^ d := by rw [Int.pow_succ, Int.mul_comm 2 x8, Int.mul_assoc, Int.mul_comm (2 ^ d) 2]
    rw [e] at hb h
    have hp : (1 : Int) ≤ 2 ^ d := (show ∀ d : Nat, (1 : Int) ≤ 2 ^ d from fun d => by
      induction d with
      | zero => decide
      | succ d ih => rw [Int.pow_succ]; omega) d
    have hb2 : 2 * x8 ≤ 32768 := Int.le_trans (by have := Int.mul_le_mul_of_nonneg_left hp (show 0 ≤ 2 * x8 by omega); omega) hb
    refine Ev.step (f := fun k => montageref05_Check.l1 k l x4 x5 (i : Int) (2 * x8) (x9 + 1)) (fun k => ?_) (chk_l1 l x4 x5 i r hi hl h4 h5 d (2 * x8) (x9 + 1) (by omega) (by omega) (by omega) hb h)
    simp only [montageref05_Check.l1]
    rw [if_pos (by omega), w64 (by omega) (by omega), w64 (by omega) (by omega)]
/-- How many lengths are not zero, and the last of them. -/
def nz (l : List Int) : Nat → Int
  | 0 => 0
  | i + 1 => nz l i + if rd l (i : Int) = 0 then 0 else 1
def lst (l : List Int) : Nat → Int
  | 0 => 0
  | i + 1 => if rd l (i : Int) = 0 then lst l i else rd l (i : Int)
theorem nz_cnt (l : List Int) : ∀ i, nz l i = i - cnt l i 0
  | 0 => by simp [nz, cnt]
  | i + 1 => by
    rw [nz, cnt, nz_cnt l i]
    by_cases h : rd l (i : Int) = 0
    · rw [if_pos h, if_pos (by omega)]; omega
    · rw [if_neg h, if_neg (by omega)]; omega
theorem nz_zero (l : List Int) : ∀ i, 0 ≤ nz l i ∧ (nz l i = 0 → cnt l i 1 = 0) ∧ (nz l i = 1 → (lst l i = 1 ↔ cnt l i 1 = 1))
  | 0 => by simp [nz, cnt]
  | i + 1 => by
    obtain ⟨h0, h1, h2⟩ := nz_zero l i
    rw [nz, cnt, lst]
    by_cases h : rd l (i : Int) = 0
    · rw [if_pos h, if_neg (by omega), if_pos h, Int.add_zero, Int.add_zero]
      exact ⟨h0, h1, h2⟩
    · rw [if_neg h, if_neg h]
      refine ⟨by omega, by omega, fun e => ?_⟩
      rw [h1 (by omega)]
      by_cases h3 : rd l (i : Int) = ((1 : Nat) : Int)
      · rw [if_pos h3, h3]; simp
      · rw [if_neg h3]
        constructor
        · intro h4; exact absurd h4 (by omega)
        · intro h4; exact absurd h4 (by omega)

theorem pow15 (m : Nat) (hm : m ≤ 15) : (0 : Int) ≤ 2 ^ m ∧ (2 : Int) ^ m ≤ 32768 := by
  have : m = 0 ∨ m = 1 ∨ m = 2 ∨ m = 3 ∨ m = 4 ∨ m = 5 ∨ m = 6 ∨ m = 7 ∨ m = 8 ∨ m = 9 ∨ m = 10 ∨ m = 11 ∨ m = 12 ∨ m = 13 ∨ m = 14 ∨ m = 15 := by omega
  rcases this with rfl | rfl | rfl | rfl | rfl | rfl | rfl | rfl | rfl | rfl | rfl | rfl | rfl | rfl | rfl | rfl <;> decide
theorem fu_range (l : List Int) (ok : OkL l) : ∀ i, i ≤ l.length → 0 ≤ fu l i ∧ fu l i ≤ i * 32768
  | 0, _ => by simp [fu]
  | i + 1, hi => by
    have h := ok.2 i (by omega)
    have ih := fu_range l ok i (by omega)
    rw [fu]
    by_cases h0 : rd l (i : Int) = 0
    · rw [if_pos h0]; omega
    · rw [if_neg h0]
      have := pow15 (15 - (rd l (i : Int)).toNat) (by omega)
      omega
/-- What the document says of lengths that may be. -/
def docK (l : List Int) : Int × Int :=
  if nz l l.length = 0 then (2, 0) else if nz l l.length = 1 ∧ lst l l.length = 1 then (1, 0) else if fu l l.length = 32768 then (0, 0) else (0, 10)
theorem chk_l0 (l : List Int) (ok : OkL l) : ∀ d i : Nat, l.length - i = d → i ≤ l.length → Ev (fun k => montageref05_Check.l0 k l (fu l i) (nz l i) (lst l i) (i : Int)) (docK l) := by
  have hl := ok.1
  intro d
  induction d with
  | zero =>
    intro i hd hi
    have e : i = l.length := by omega
    subst e
    unfold docK
    by_cases h0 : nz l l.length = 0
    · rw [if_pos h0]
      refine Ev.step (f := fun _ => some (2, 0)) (fun k => ?_) (Ev.now _)
      simp only [montageref05_Check.l0]
      rw [if_neg (by omega), if_pos h0]
    · rw [if_neg h0]
      have hj : ∀ b : Bool, Ev (fun k => montageref05_Check.j2 k (fu l l.length) b) (if b = true then (1, 0) else if fu l l.length = 32768 then (0, 0) else (0, 10)) := by
        intro b
        refine Ev.step (f := fun _ => some (if b = true then (1, 0) else if fu l l.length = 32768 then (0, 0) else (0, 10))) (fun k => ?_) (Ev.now _)
        simp only [montageref05_Check.j2]
        split
        · rfl
        · split <;> rfl
      by_cases h1 : nz l l.length = 1
      · by_cases h2 : lst l l.length = 1
        · rw [if_pos ⟨h1, h2⟩]
          refine Ev.step (f := fun k => montageref05_Check.j2 k (fu l l.length) true) (fun k => ?_) (hj true)
          simp only [montageref05_Check.l0]
          rw [if_neg (by omega), if_neg h0, if_pos h1, h2]
          rfl
        · rw [if_neg (fun h => h2 h.2)]
          refine Ev.step (f := fun k => montageref05_Check.j2 k (fu l l.length) false) (fun k => ?_) (hj false)
          simp only [montageref05_Check.l0]
          rw [if_neg (by omega), if_neg h0, if_pos h1, beq_eq_false_iff_ne.mpr h2]
      · rw [if_neg (fun h => h1 h.1)]
        refine Ev.step (f := fun k => montageref05_Check.j2 k (fu l l.length) false) (fun k => ?_) (hj false)
        simp only [montageref05_Check.l0]
        rw [if_neg (by omega), if_neg h0, if_neg h1]
  | succ d ih =>
    intro i hd hi
    have h := ok.2 i (by omega)
    have hn := ih (i + 1) (by omega) (by omega)
    rw [fu, nz, lst] at hn
    by_cases h0 : rd l (i : Int) = 0
    · rw [if_pos h0, if_pos h0, if_pos h0, Int.add_zero, Int.add_zero] at hn
      refine Ev.step (f := fun k => montageref05_Check.l0 k l (fu l i) (nz l i) (lst l i) ((i + 1 : Nat) : Int)) (fun k => ?_) hn
      simp only [montageref05_Check.l0]
      rw [if_pos (by omega), if_pos (by omega), if_pos h0, w64 (by omega) (by omega)]
      rfl
    · rw [if_neg h0, if_neg h0, if_neg h0] at hn
      have hf := fu_range l ok i (by omega)
      have hz := nz_cnt l i
      have hc := cnt_range l i 0
      have hz0 := (nz_zero l i).1
      refine Ev.step (f := fun k => montageref05_Check.l1 k l (fu l i) (nz l i) (i : Int) 1 (rd l (i : Int))) (fun k => ?_) (chk_l1 l (fu l i) (nz l i) i _ (by omega) hl (by omega) (by omega) (15 - (rd l (i : Int)).toNat) 1 (rd l (i : Int)) (by omega) (by omega) (by omega) (by
        rw [Int.one_mul]
        have := pow15 (15 - (rd l (i : Int)).toNat) (by omega)
        omega) (by rw [Int.one_mul]; exact hn))
      simp only [montageref05_Check.l0]
      rw [if_pos (by omega), if_pos (by omega), if_neg h0]

theorem nz_fu (l : List Int) : ∀ i, (nz l i = 0 → fu l i = 0) ∧ (nz l i = 1 → lst l i = 1 → fu l i = 16384)
  | 0 => by simp [nz, fu]
  | i + 1 => by
    obtain ⟨h1, h2⟩ := nz_fu l i
    have h0 := (nz_zero l i).1
    rw [nz, fu, lst]
    by_cases h : rd l (i : Int) = 0
    · rw [if_pos h, if_pos h, if_pos h, Int.add_zero, Int.add_zero]
      exact ⟨h1, h2⟩
    · rw [if_neg h, if_neg h, if_neg h]
      refine ⟨by omega, fun e e1 => ?_⟩
      rw [h1 (by omega), e1]
      decide
theorem doc_of (l : List Int) (k e : Int) (h : KRes l k e) (ok : OkL l) : docK l = (k, e) := by
  have hz := nz_cnt l l.length
  have hzz := nz_zero l l.length
  have hf := nz_fu l l.length
  have hlf := lf_fu l ok l.length (Nat.le_refl _)
  unfold docK
  rcases h with ⟨no, _⟩ | ⟨_, ⟨j, hj, hneg⟩, rfl, rfl⟩ | ⟨_, hpos, h⟩
  · exact absurd ok no
  · have h15 := lf_neg (cnt l l.length) (fun j => (cnt_range l l.length j).1) j hneg (15 - j)
    rw [show j + (15 - j) = 15 from by omega, hlf] at h15
    rw [if_neg (fun h => by have := hf.1 h; omega), if_neg (fun h => by have := hf.2 h.1 h.2; omega), if_neg (by omega)]
  · rcases h with ⟨h0, rfl, rfl⟩ | ⟨h0, h1, h2, rfl, rfl⟩ | ⟨h0, h1, h2, rfl, rfl⟩ | ⟨h0, h1, h2, rfl, rfl⟩
    · rw [if_pos (by omega)]
    · have e1 : nz l l.length = 1 := by have : ¬ ¬ ((l.length : Int) - cnt l l.length 0 = 1) := h1; omega
      rw [if_neg (by omega), if_pos ⟨e1, (hzz.2.2 e1).2 h2⟩]
    · rw [if_neg (by omega), if_neg (fun h => by
        rcases h1 with h1 | h1
        · exact h1 (by have := h.1; omega)
        · exact h1 ((hzz.2.2 h.1).1 h.2)), if_neg (by omega)]
    · rw [if_neg (by omega), if_neg (fun h => by
        rcases h1 with h1 | h1
        · exact h1 (by have := h.1; omega)
        · exact h1 ((hzz.2.2 h.1).1 h.2)), if_pos (by omega)]

/-- The program's answer is the document's. -/
theorem check_same (l : List Int) (k e : Int) (h : KRes l k e) : Ev (fun q => montageref05_Check.f q l) (k, e) := by
  unfold montageref05_Check.f
  by_cases ok : OkL l
  · refine Ev.bind (right_ok l ok) ?_
    have hd := chk_l0 l ok l.length 0 (by omega) (by omega)
    rw [doc_of l k e h ok] at hd
    exact hd
  · refine Ev.bind (right_bad l ok) ?_
    rcases h with ⟨_, rfl, rfl⟩ | ⟨h, _⟩ | ⟨h, _⟩
    · exact Ev.now _
    · exact absurd h ok
    · exact absurd h ok



/-- The codes behind all lengths below k and the first i symbols of length k. -/
def cOut (l : List Int) (k i : Nat) : List Int := listOf l.length (fun j => if 0 < rd l (j : Int) ∧ (rd l (j : Int) < k ∨ (rd l (j : Int) = k ∧ j < i)) then cod l j else 0)
theorem cOut_hit (l : List Int) (k i : Nat) (hk : 1 ≤ k) (h : rd l (i : Int) = k) : (cOut l k i).set i (nx (cnt l l.length) k + cnt l i k) = cOut l k (i + 1) := by
  unfold cOut
  rw [listOf_set]
  refine listOf_congr _ _ _ (fun j hj => ?_)
  show (if j = i then nx (cnt l l.length) k + cnt l i k else if 0 < rd l (j : Int) ∧ (rd l (j : Int) < k ∨ (rd l (j : Int) = k ∧ j < i)) then cod l j else 0) = _
  by_cases e : j = i
  · subst e
    rw [if_pos rfl, if_pos ⟨by omega, .inr ⟨h, by omega⟩⟩, cod, h, if_pos (by omega), Int.toNat_natCast]
  · rw [if_neg e]
    by_cases h2 : 0 < rd l (j : Int) ∧ (rd l (j : Int) < k ∨ (rd l (j : Int) = k ∧ j < i))
    · rw [if_pos h2, if_pos ⟨h2.1, by omega⟩]
    · rw [if_neg h2, if_neg (by omega)]
theorem cOut_miss (l : List Int) (k i : Nat) (h : rd l (i : Int) ≠ k) : cOut l k (i + 1) = cOut l k i :=
  listOf_congr _ _ _ (fun j hj => by
    by_cases h2 : 0 < rd l (j : Int) ∧ (rd l (j : Int) < k ∨ (rd l (j : Int) = k ∧ j < i))
    · rw [if_pos h2, if_pos ⟨h2.1, by omega⟩]
    · rw [if_neg h2, if_neg (fun h3 => h2 ⟨h3.1, by
        rcases h3.2 with h4 | ⟨h4, h5⟩
        · exact .inl h4
        · by_cases e : j = i
          · subst e; exact absurd h4 h
          · exact .inr ⟨h4, by omega⟩⟩)])
theorem cOut_next (l : List Int) (k : Nat) : cOut l k l.length = cOut l (k + 1) 0 :=
  listOf_congr _ _ _ (fun j hj => by
    by_cases h2 : 0 < rd l (j : Int) ∧ (rd l (j : Int) < k ∨ (rd l (j : Int) = k ∧ j < l.length))
    · rw [if_pos h2, if_pos ⟨h2.1, by omega⟩]
    · rw [if_neg h2, if_neg (by omega)])
theorem cOut_end (l : List Int) (ok : OkL l) : cOut l 16 0 = codL l :=
  listOf_congr _ _ _ (fun j hj => by
    have h := ok.2 j hj
    by_cases h2 : 0 < rd l (j : Int)
    · rw [if_pos ⟨h2, by omega⟩]
    · rw [if_neg (by omega), cod, if_neg h2])

open XInflateAny
theorem w64' {x : Int} (h0 : -9223372036854775808 ≤ x) (h1 : x < 9223372036854775808) : wrap64 x = x := by unfold wrap64; omega
theorem cds_l1 (l : List Int) (ok : OkL l) (k : Nat) (hk : 1 ≤ k) (hk2 : k ≤ 15) (r : List Int) (h : Ev (fun q => montageref05_Codes.l0 q l (cOut l (k + 1) 0) (nx (cnt l l.length) k + cnt l l.length k) ((k + 1 : Nat) : Int)) r) :
    ∀ d i : Nat, l.length - i = d → i ≤ l.length → Ev (fun q => montageref05_Codes.l1 q l (cOut l k i) (nx (cnt l l.length) k + cnt l i k) (k : Int) (i : Int)) r := by
  have hl := ok.1
  intro d
  induction d with
  | zero =>
    intro i hd hi
    have e : i = l.length := by omega
    subst e
    refine Ev.step (f := fun q => montageref05_Codes.l0 q l (cOut l (k + 1) 0) (nx (cnt l l.length) k + cnt l l.length k) ((k + 1 : Nat) : Int)) (fun q => ?_) h
    simp only [montageref05_Codes.l1]
    rw [if_neg (by omega), w64' (by omega) (by omega), cOut_next]
    rfl
  | succ d ih =>
    intro i hd hi
    have hn := ih (i + 1) (by omega) (by omega)
    have hx := nx_le (cnt l l.length) (fun j => by have := cnt_range l l.length j; omega) k (by omega)
    have hc := cnt_range l i k
    have hlen : (cOut l k i).length = l.length := listOf_len _ _
    rw [cnt] at hn
    by_cases e : rd l (i : Int) = k
    · rw [if_pos e, ← cOut_hit l k i hk e] at hn
      refine Ev.step (f := fun q => montageref05_Codes.l1 q l ((cOut l k i).set i (nx (cnt l l.length) k + cnt l i k)) (nx (cnt l l.length) k + (cnt l i k + 1)) (k : Int) ((i + 1 : Nat) : Int)) (fun q => ?_) hn
      simp only [montageref05_Codes.l1]
      rw [if_pos (by omega), if_pos (by omega), if_pos e, if_pos (by rw [hlen]; omega), w64' (by omega) (by omega), w64' (by omega) (by omega), Int.toNat_natCast, Int.add_assoc]
      rfl
    · rw [if_neg e, Int.add_zero, cOut_miss l k i e] at hn
      refine Ev.step (f := fun q => montageref05_Codes.l1 q l (cOut l k i) (nx (cnt l l.length) k + cnt l i k) (k : Int) ((i + 1 : Nat) : Int)) (fun q => ?_) hn
      simp only [montageref05_Codes.l1]
      rw [if_pos (by omega), if_pos (by omega), if_neg e, w64' (by omega) (by omega)]
      rfl

theorem cds_l0 (l : List Int) (ok : OkL l) : ∀ (d k : Nat) (n : Int), k + d = 16 → 1 ≤ k → 2 * n = nx (cnt l l.length) k → Ev (fun q => montageref05_Codes.l0 q l (cOut l k 0) n (k : Int)) (codL l)
  | 0, k, n, hk, h1, hn => by
    have e : k = 16 := by omega
    subst e
    refine Ev.step (f := fun _ => some (codL l)) (fun q => ?_) (Ev.now _)
    simp only [montageref05_Codes.l0]
    rw [if_neg (by decide), cOut_end l ok]
  | d + 1, k, n, hk, h1, hn => by
    obtain ⟨m, rfl⟩ : ∃ m, k = m + 1 := ⟨k - 1, by omega⟩
    have hl := ok.1
    have hx := nx_le (cnt l l.length) (fun j => by have := cnt_range l l.length j; omega) (m + 1) (by omega)
    have h := cds_l1 l ok (m + 1) (by omega) (by omega) (codL l) (cds_l0 l ok d (m + 1 + 1) _ (by omega) (by omega) (by rw [nx])) l.length 0 (by omega) (by omega)
    rw [cnt, Int.add_zero] at h
    refine Ev.step (f := fun q => montageref05_Codes.l1 q l (cOut l (m + 1) 0) (nx (cnt l l.length) (m + 1)) ((m + 1 : Nat) : Int) ((0 : Nat) : Int)) (fun q => ?_) h
    simp only [montageref05_Codes.l0]
    rw [if_pos (by omega), hn, w64' (by omega) (by omega)]
    rfl
theorem codes_same (l : List Int) (ok : OkL l) : Ev (fun q => montageref05_Codes.f q l) (codL l) := by
  have hl := ok.1
  have h := cds_l0 l ok 15 1 0 rfl (by omega) rfl
  have e : cOut l 1 0 = List.replicate ((l.length : Int) : Int).toNat 0 := by
    rw [Int.toNat_natCast, listOf_zero]
    exact listOf_congr _ _ _ (fun j hj => by rw [if_neg (by omega)])
  rw [e] at h
  unfold montageref05_Codes.f
  simp only [if_pos (show 0 ≤ (l.length : Int) by omega), if_pos (show ((l.length : Int) : Int).toNat ≤ 35184372088832 by omega)]
  exact h



open XInflateAny
/-- Symbol j stands behind cnt others of its length. -/
theorem symRow_at (l : List Int) (n : Nat) : ∀ (i j : Nat), j < i → rd l (j : Int) = n → (symRow l n i)[(cnt l j n).toNat]? = some (j : Int)
  | 0, _, h, _ => absurd h (by omega)
  | i + 1, j, h, hj => by
    have hc := symRow_cnt l n i
    rw [symRow]
    by_cases e : j = i
    · subst e
      rw [if_pos hj, ← hc, Int.toNat_natCast, List.getElem?_append_right (Nat.le_refl _), Nat.sub_self]
      rfl
    · have ih := symRow_at l n i j (by omega) hj
      have hlt : (cnt l j n).toNat < (symRow l n i).length := by
        rcases Nat.lt_or_ge (cnt l j n).toNat (symRow l n i).length with h1 | h1
        · exact h1
        · rw [List.getElem?_eq_none h1] at ih; exact absurd ih (by simp)
      rw [List.getElem?_append_left hlt]
      exact ih
/-- Whatever stands in the row is a symbol of that length, with so many ahead of it. -/
theorem symRow_of (l : List Int) (n : Nat) : ∀ (i m : Nat), (m : Int) < cnt l i n → ∃ j, j < i ∧ rd l (j : Int) = n ∧ cnt l j n = m
  | 0, m, h => by rw [cnt] at h; omega
  | i + 1, m, h => by
    by_cases h1 : (m : Int) < cnt l i n
    · obtain ⟨j, h2, h3⟩ := symRow_of l n i m h1
      exact ⟨j, by omega, h3⟩
    · rw [cnt] at h
      by_cases e : rd l (i : Int) = n
      · rw [if_pos e] at h
        exact ⟨i, by omega, e, by omega⟩
      · rw [if_neg e] at h; omega
theorem cnt_mono (l : List Int) (n : Nat) : ∀ (i j : Nat), i ≤ j → cnt l i n ≤ cnt l j n
  | i, 0, h => by rw [show i = 0 from by omega]; exact Int.le_refl _
  | i, j + 1, h => by
    by_cases e : i = j + 1
    · rw [e]; exact Int.le_refl _
    · have := cnt_mono l n i j (by omega)
      rw [show cnt l (j + 1) n = cnt l j n + if rd l (j : Int) = n then 1 else 0 from rfl]
      split <;> omega
theorem cnt_inj (l : List Int) (n i j : Nat) (hi : rd l (i : Int) = n) (hj : rd l (j : Int) = n) (h : cnt l i n = cnt l j n) : i = j := by
  have key : ∀ i j : Nat, i < j → rd l (i : Int) = n → cnt l i n < cnt l j n := fun i j hij h0 => by
    have := cnt_mono l n (i + 1) j hij
    rw [show cnt l (i + 1) n = cnt l i n + if rd l (i : Int) = n then 1 else 0 from rfl, if_pos h0] at this
    omega
  rcases Nat.lt_trichotomy i j with h1 | h1 | h1
  · have := key i j h1 hi; omega
  · exact h1
  · have := key j i h1 hj; omega
theorem symUp_at (l : List Int) (k m : Nat) (x : Int) (h : (symRow l (k + 1) l.length)[m]? = some x) : ∀ n, k + 1 ≤ n → (symUp l n)[(symUp l k).length + m]? = some x
  | 0, hn => absurd hn (by omega)
  | n + 1, hn => by
    rw [symUp]
    by_cases e : k = n
    · subst e
      rw [List.getElem?_append_right (by omega), Nat.add_sub_cancel_left]
      exact h
    · have ih := symUp_at l k m x h n (by omega)
      have hlt : (symUp l k).length + m < (symUp l n).length := by
        rcases Nat.lt_or_ge ((symUp l k).length + m) (symUp l n).length with h1 | h1
        · exact h1
        · rw [List.getElem?_eq_none h1] at ih; exact absurd ih (by simp)
      rw [List.getElem?_append_left hlt]
      exact ih
theorem codL_rd (l : List Int) (j : Nat) (h : j < l.length) : rd (codL l) (j : Int) = cod l j := rd_listOf _ _ _ h
/-- The code n of length k: whose it is. -/
theorem sym_of (l : List Int) (k : Nat) (n : Int) (h0 : nx (cnt l l.length) (k + 1) ≤ n) (h1 : n - nx (cnt l l.length) (k + 1) < cnt l l.length (k + 1)) (hk : k + 1 ≤ 15) :
    ∃ j, j < l.length ∧ rd l (j : Int) = ((k + 1 : Nat) : Int) ∧ cod l j = n ∧ rd (symUp l 15) ((symUp l k).length + (n - nx (cnt l l.length) (k + 1))) = j := by
  obtain ⟨m, hm⟩ : ∃ m : Nat, n - nx (cnt l l.length) (k + 1) = m := ⟨(n - nx (cnt l l.length) (k + 1)).toNat, by omega⟩
  obtain ⟨j, h2, h3, h4⟩ := symRow_of l (k + 1) l.length m (by omega)
  have h5 := symRow_at l (k + 1) l.length j h2 h3
  rw [h4, Int.toNat_natCast] at h5
  have h6 := symUp_at l k m (j : Int) h5 15 hk
  refine ⟨j, h2, h3, ?_, ?_⟩
  · rw [cod, h3, if_pos (by omega), Int.toNat_natCast, h4]; omega
  · rw [hm, show ((symUp l k).length : Int) + (m : Int) = (((symUp l k).length + m : Nat) : Int) from by omega]
    unfold rd
    rw [Int.toNat_natCast, List.getD_eq_getElem?_getD, h6]
    rfl
/-- A code of another number is no symbol's. -/
theorem no_sym (l : List Int) (k : Nat) (n : Int) (h1 : ¬ n - nx (cnt l l.length) (k + 1) < cnt l l.length (k + 1)) (j : Nat) (hj : j < l.length) (h2 : rd l (j : Int) = ((k + 1 : Nat) : Int)) : cod l j ≠ n := by
  intro h
  rw [cod, h2, if_pos (by omega), Int.toNat_natCast] at h
  have := cnt_mono l (k + 1) (j + 1) l.length hj
  rw [show cnt l (j + 1) (k + 1) = cnt l j (k + 1) + if rd l (j : Int) = ((k + 1 : Nat) : Int) then 1 else 0 from rfl, if_pos h2] at this
  omega
theorem rdr_l1_hit (l b : List Int) (at' kd n : Int) (k : Nat) (hl : l.length ≤ 288) (j : Nat) (hj : j < l.length) (h2 : rd l (j : Int) = ((k + 1 : Nat) : Int)) (h3 : cod l j = n) :
    ∀ d i : Nat, j - i = d → i ≤ j → Ev (fun q => montageref05_Read.l1 q l b at' kd (codL l) n ((k + 1 : Nat) : Int) (i : Int)) ((j : Int), at', 0) := by
  have hlen : (codL l).length = l.length := listOf_len _ _
  intro d
  induction d with
  | zero =>
    intro i hd hi
    obtain rfl : i = j := by omega
    refine Ev.step (f := fun _ => some ((i : Int), at', 0)) (fun q => ?_) (Ev.now _)
    simp only [montageref05_Read.l1]
    rw [if_pos (by omega), if_pos (by omega), if_pos h2, if_pos (by rw [hlen]; omega), codL_rd l i hj, if_pos h3]
  | succ d ih =>
    intro i hd hi
    refine Ev.step (f := fun q => montageref05_Read.l1 q l b at' kd (codL l) n ((k + 1 : Nat) : Int) ((i + 1 : Nat) : Int)) (fun q => ?_) (ih (i + 1) (by omega) (by omega))
    simp only [montageref05_Read.l1]
    rw [if_pos (by omega), if_pos (by omega), w64 (x := (i : Int) + 1) (by omega) (by omega)]
    by_cases e : rd l (i : Int) = ((k + 1 : Nat) : Int)
    · rw [if_pos e, if_pos (by rw [hlen]; omega), codL_rd l i (by omega), if_neg (fun h4 => by
        have h5 : cod l i = cod l j := h4.trans h3.symm
        rw [cod, cod, e, h2, if_pos (by omega), if_pos (by omega), Int.toNat_natCast] at h5
        have := cnt_inj l (k + 1) i j e h2 (by omega)
        omega)]
      rfl
    · rw [if_neg e]
      rfl
theorem rdr_l1_miss (l b : List Int) (at' kd n : Int) (k : Nat) (hl : l.length ≤ 288) (hno : ∀ j, j < l.length → rd l (j : Int) = ((k + 1 : Nat) : Int) → cod l j ≠ n) (r : Int × Int × Int)
    (h1 : kd = 1 → r = (0, at', 10)) (h2 : kd ≠ 1 → Ev (fun q => montageref05_Read.l0 q l b at' kd (codL l) n (((k + 1 : Nat) : Int) + 1)) r) (hk : k ≤ 15) :
    ∀ d i : Nat, l.length - i = d → i ≤ l.length → Ev (fun q => montageref05_Read.l1 q l b at' kd (codL l) n ((k + 1 : Nat) : Int) (i : Int)) r := by
  have hlen : (codL l).length = l.length := listOf_len _ _
  intro d
  induction d with
  | zero =>
    intro i hd hi
    obtain rfl : i = l.length := by omega
    by_cases e : kd = 1
    · rw [h1 e]
      refine Ev.step (f := fun _ => some (0, at', 10)) (fun q => ?_) (Ev.now _)
      simp only [montageref05_Read.l1]
      rw [if_neg (by omega), if_pos e]
    · refine Ev.step (fun q => ?_) (h2 e)
      simp only [montageref05_Read.l1]
      rw [if_neg (by omega), if_neg e, w64 (by omega) (by omega)]
  | succ d ih =>
    intro i hd hi
    refine Ev.step (f := fun q => montageref05_Read.l1 q l b at' kd (codL l) n ((k + 1 : Nat) : Int) ((i + 1 : Nat) : Int)) (fun q => ?_) (ih (i + 1) (by omega) (by omega))
    simp only [montageref05_Read.l1]
    rw [if_pos (by omega), if_pos (by omega), w64 (x := (i : Int) + 1) (by omega) (by omega)]
    by_cases e : rd l (i : Int) = ((k + 1 : Nat) : Int)
    · rw [if_pos e, if_pos (by rw [hlen]; omega), codL_rd l i (by omega), if_neg (hno i (by omega) e)]
      rfl
    · rw [if_neg e]
      rfl
/-- What the document reads. -/
def docR (R : Int × Int × Nat × Bool) : Int × Int × Int := (R.1, (R.2.2.1 : Int), R.2.1)
theorem rdr_l0 (l : List Int) (kd : Int) (Z M : Nat) (hl : l.length ≤ 288) (hM : M ≤ 1000000) : ∀ (d k : Nat) (n : Int) (p : Nat), k + d = 15 → p ≤ M → 0 ≤ n → n < 2 ^ k → nx (cnt l l.length) (k + 1) ≤ 2 * n →
    Ev (fun q => montageref05_Read.l0 q l (bl Z M) (p : Int) kd (codL l) n ((k + 1 : Nat) : Int)) (docR (readK l kd (bitZ Z) M d k n p))
  | 0, k, n, p, hd, hp, hn0, hn1, hx => by
    refine Ev.step (f := fun _ => some (0, (p : Int), 10)) (fun q => ?_) (Ev.now _)
    simp only [montageref05_Read.l0]
    rw [if_neg (by omega)]
  | d + 1, k, n, p, hd, hp, hn0, hn1, hx => by
    have hlen := bl_len Z M
    have hpow := pow_le_15 k (by omega)
    rw [readK]
    by_cases hM2 : M ≤ p
    · rw [if_pos hM2]
      refine Ev.step (f := fun _ => some (0, (p : Int), 3)) (fun q => ?_) (Ev.now _)
      simp only [montageref05_Read.l0]
      rw [if_pos (by omega), if_pos (by omega)]
    · rw [if_neg hM2]
      have hb : rd (bl Z M) (p : Int) = bitZ Z p := bl_get Z M p (by omega)
      have hb2 : bitZ Z p = 0 ∨ bitZ Z p = 1 := by unfold bitZ; omega
      obtain ⟨b, hbb⟩ : ∃ b, bitZ Z p = b := ⟨_, rfl⟩
      rw [hbb] at hb hb2 ⊢
      have hstep : ∀ r, Ev (fun q => montageref05_Read.l1 q l (bl Z M) ((p + 1 : Nat) : Int) kd (codL l) (2 * n + b) ((k + 1 : Nat) : Int) ((0 : Nat) : Int)) r → Ev (fun q => montageref05_Read.l0 q l (bl Z M) (p : Int) kd (codL l) n ((k + 1 : Nat) : Int)) r := fun r h => by
        refine Ev.step (fun q => ?_) h
        simp only [montageref05_Read.l0]
        rw [if_pos (by omega), if_neg (by omega), if_pos (by omega), if_pos (by omega), hb, w64 (x := 2 * n) (by omega) (by omega), w64 (x := b) (by omega) (by omega), w64 (x := 2 * n + b) (by omega) (by omega), w64 (x := (p : Int) + 1) (by omega) (by omega)]
        rfl
      refine hstep _ ?_
      by_cases hit : 2 * n + b - nx (cnt l l.length) (k + 1) < cnt l l.length (k + 1)
      · rw [if_pos hit]
        obtain ⟨j, h1, h2, h3, h4⟩ := sym_of l k (2 * n + b) (by omega) hit (by omega)
        rw [h4]
        exact rdr_l1_hit l (bl Z M) _ kd (2 * n + b) k hl j h1 h2 h3 j 0 (by omega) (by omega)
      · rw [if_neg hit]
        refine rdr_l1_miss l (bl Z M) _ kd (2 * n + b) k hl (no_sym l k _ hit) _ ?_ ?_ (by omega) l.length 0 (by omega) (by omega)
        · intro e
          rw [if_pos e]; rfl
        · intro e
          rw [if_neg e]
          exact rdr_l0 l kd Z M hl hM d (k + 1) (2 * n + b) (p + 1) (by omega) (by omega) (by omega) (by rw [Int.pow_succ]; omega) (by rw [nx]; omega)
theorem read_same (l : List Int) (kd : Int) (hK : KRes l kd 0) (Z M p : Nat) (hM : M ≤ 1000000) (hp : p ≤ M) (hkd : kd ≠ 2) :
    Ev (fun q => montageref05_Read.f q l (bl Z M) (p : Int)) (docR (readK l kd (bitZ Z) M 15 0 0 p)) := by
  have ok := hK.okl
  unfold montageref05_Read.f
  refine Ev.bind (check_same l kd 0 hK) ?_
  simp only [if_neg hkd]
  refine Ev.bind (codes_same l ok) ?_
  exact rdr_l0 l kd Z M ok.1 hM 15 0 0 p rfl hp (by omega) (by decide) (by simp [nx])
theorem read_none (l : List Int) (hK : KRes l 2 0) (Z M p : Nat) :
    Ev (fun q => montageref05_Read.f q l (bl Z M) (p : Int)) (0, (p : Int), 10) := by
  unfold montageref05_Read.f
  refine Ev.bind (check_same l 2 0 hK) ?_
  simp only [if_true]
  exact Ev.now _


open XInflateAny
theorem KRes.same {l : List Int} {k e k2 e2 : Int} (h : KRes l k e) (h2 : KRes l k2 e2) : k = k2 ∧ e = e2 := by
  by_cases ok : OkL l
  · have h3 := doc_of l k e h ok
    rw [doc_of l k2 e2 h2 ok] at h3
    injection h3 with h4 h5
    exact ⟨h4.symm, h5.symm⟩
  · rcases h with ⟨_, rfl, rfl⟩ | ⟨h, _⟩ | ⟨h, _⟩
    · rcases h2 with ⟨_, rfl, rfl⟩ | ⟨h, _⟩ | ⟨h, _⟩
      · exact ⟨rfl, rfl⟩
      · exact absurd h ok
      · exact absurd h ok
    · exact absurd h ok
    · exact absurd h ok
theorem KRes.some (l : List Int) : ∃ k e, KRes l k e := by
  have ⟨A, hA⟩ : ∃ A : Nat, A = 0 := ⟨0, rfl⟩
  by_cases ok : OkL l
  · by_cases hj : ∃ j, j ≤ 15 ∧ lf (cnt l l.length) j < 0
    · exact ⟨0, 10, .inr (.inl ⟨ok, hj, rfl, rfl⟩)⟩
    · have hp : ∀ j, j ≤ 15 → 0 ≤ lf (cnt l l.length) j := fun j h => by
        by_cases h0 : lf (cnt l l.length) j < 0
        · exact absurd ⟨j, h, h0⟩ hj
        · omega
      by_cases h0 : (l.length : Int) - cnt l l.length 0 = 0
      · exact ⟨2, 0, .inr (.inr ⟨ok, hp, .inl ⟨h0, rfl, rfl⟩⟩)⟩
      · by_cases h1 : (l.length : Int) - cnt l l.length 0 = 1 ∧ cnt l l.length 1 = 1
        · exact ⟨1, 0, .inr (.inr ⟨ok, hp, .inr (.inl ⟨h0, fun h => h h1.1, h1.2, rfl, rfl⟩)⟩)⟩
        · have h2 : (l.length : Int) - cnt l l.length 0 ≠ 1 ∨ cnt l l.length 1 ≠ 1 := by omega
          by_cases h3 : 0 < lf (cnt l l.length) 15
          · exact ⟨0, 10, .inr (.inr ⟨ok, hp, .inr (.inr (.inl ⟨h0, h2, h3, rfl, rfl⟩))⟩)⟩
          · exact ⟨0, 0, .inr (.inr ⟨ok, hp, .inr (.inr (.inr ⟨h0, h2, by have := hp 15 (by omega); omega, rfl, rfl⟩))⟩)⟩
  · exact ⟨0, 1, .inl ⟨ok, rfl, rfl⟩⟩
set_option maxHeartbeats 800000 in
set_option maxRecDepth 100000 in
theorem read_empty (base g gr : Nat) (l : List Int) (w : World) (hT : IsT base w g l 2) :
    Calls Try.prog 140 #[.pointer (some ⟨g, 0, none⟩), .pointer (some ⟨gr, 0, none⟩)] w fun e w' => e = .returned (.tuple #[.int .i64 0, .int .i64 10]) ∧ w = w' := by
  have hk0 : w.cell? ⟨g, 0, none⟩ = some (.int .i64 2) := by obtain ⟨gc, A, cc, h1, _⟩ := hT; exact (blk_cell h1 0).trans rfl
  clear hT
  go_enter Try.func140, Try.ntmps140
  go_wp2
  go_ret2
  exact ⟨rfl, rfl⟩
/-- Reading, whichever table. -/
def readA (l : List Int) (kd : Int) (Z M p : Nat) : Int × Int × Nat × Bool := if kd = 2 then (0, 10, p, false) else readK l kd (bitZ Z) M 15 0 0 p
theorem read_all (base g gr : Nat) (l : List Int) (kd : Int) (p Z : Nat) (S : ByteArray) (w0 w : World) (hT : IsT base w g l kd) (hI : IsS155 w0 w gr S (p : Int) false) (hB : Below w0.heap.size w0 w) (hp : p ≤ 8 * S.size) (hS : S.size ≤ 100000) (hl : l.length ≤ 288)
    (hZ : ∀ i, i < S.size → bt S (i : Int) = ((Z / 256 ^ i % 256 : Nat) : Int)) :
    Calls Try.prog 140 #[.pointer (some ⟨g, 0, none⟩), .pointer (some ⟨gr, 0, none⟩)] w fun e w' =>
      e = .returned (.tuple #[.int .i64 (readA l kd Z (8 * S.size) p).1, .int .i64 (readA l kd Z (8 * S.size) p).2.1]) ∧ IsS155 w0 w' gr S ((readA l kd Z (8 * S.size) p).2.2.1 : Int) (readA l kd Z (8 * S.size) p).2.2.2 ∧ Below w0.heap.size w0 w' ∧ KeepBut w w' gr none := by
  unfold readA
  by_cases h : kd = 2
  · subst h
    rw [if_pos rfl]
    refine (read_empty base g gr l w hT).mono ?_
    rintro e w' ⟨rfl, rfl⟩
    exact ⟨rfl, hI, hB, KeepBut.refl _ _ _⟩
  · rw [if_neg h]
    exact read_any base g gr l kd p Z S w0 w hT hI hB hp hS hl h hZ
theorem read_doc (l : List Int) (kd : Int) (hK : KRes l kd 0) (Z M p : Nat) (hM : M ≤ 1000000) (hp : p ≤ M) :
    Ev (fun q => montageref05_Read.f q l (bl Z M) (p : Int)) (docR (readA l kd Z M p)) := by
  unfold readA
  by_cases h : kd = 2
  · subst h
    rw [if_pos rfl]
    exact read_none l hK Z M p
  · rw [if_neg h]
    exact read_same l kd hK Z M p hM hp h
theorem readK_le (l : List Int) (kd : Int) (bit : Nat → Int) (N : Nat) : ∀ (d k : Nat) (n : Int) (p : Nat), p ≤ N → (readK l kd bit N d k n p).2.2.1 ≤ N ∧ p ≤ (readK l kd bit N d k n p).2.2.1 ∧ ((readK l kd bit N d k n p).2.1 = 0 → (readK l kd bit N d k n p).2.2.2 = false ∧ p < (readK l kd bit N d k n p).2.2.1)
  | 0, k, n, p, h => by rw [readK]; exact ⟨h, Nat.le_refl _, fun h => absurd h (by show ¬ (10 : Int) = 0; decide)⟩
  | d + 1, k, n, p, h => by
    rw [readK]
    by_cases h1 : N ≤ p
    · rw [if_pos h1]; exact ⟨h, Nat.le_refl _, fun h => absurd h (by show ¬ (3 : Int) = 0; decide)⟩
    · rw [if_neg h1]
      split
      · exact ⟨by show p + 1 ≤ N; omega, by show p ≤ p + 1; omega, fun _ => ⟨rfl, by show p < p + 1; omega⟩⟩
      · split
        · exact ⟨by show p + 1 ≤ N; omega, by show p ≤ p + 1; omega, fun h => absurd h (by show ¬ (10 : Int) = 0; decide)⟩
        · obtain ⟨a, b, c⟩ := readK_le l kd bit N d (k + 1) (2 * n + bit p) (p + 1) (by omega)
          exact ⟨a, by omega, fun h => ⟨(c h).1, by have := (c h).2; omega⟩⟩
theorem readA_le (l : List Int) (kd : Int) (Z M p : Nat) (h : p ≤ M) : (readA l kd Z M p).2.2.1 ≤ M ∧ ((readA l kd Z M p).2.1 = 0 → (readA l kd Z M p).2.2.2 = false ∧ p < (readA l kd Z M p).2.2.1) := by
  unfold readA
  split
  · exact ⟨h, fun h => absurd h (by show ¬ (10 : Int) = 0; decide)⟩
  · have := readK_le l kd (bitZ Z) M 15 0 0 p h
    exact ⟨this.1, this.2.2⟩


end Go.Proofs.Ytmanmjjjepdhlaa.XPrefix
