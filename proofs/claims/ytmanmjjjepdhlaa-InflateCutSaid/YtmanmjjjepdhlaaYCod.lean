/- tokens by the plain code: the plain law It has no conditions. -/
import Derived.Test.YtmanmjjjepdhlaaYIC
import Derived.Test.YtmanmjjjepdhlaaYIA
import Derived.Test.YtmanmjjjepdhlaaYEnc
import Derived.BigRegion
import Derived.RegionTactic
import Derived.ChangeAlike
import Derived.Deep.RegionWith
import Derived.Deep.RegionLaw
import Derived.Laws.Tables
import Derived.Deep.QuietTactic
import Derived.BigQuiet
import Derived.Deep.RegionHeld3
import Derived.Deep.AppendLies
import Derived.Deep.DrawnRows
import Derived.Laws.CopyOwn
import Derived.Deep.MidRow
import Derived.Laws.ResultCell
import Derived.ChangeKeysEq
import Derived.Laws.BitsAllLaws
namespace Go.Proofs.Ytmanmjjjepdhlaa.XPrefix
set_option linter.unusedVariables false
set_option linter.unusedSimpArgs false
open Go.RowKit Go.Proofs.YtmanmjjjepdhlaaW.PrintWords Go.Proofs.YtmanmjjjepdhlaaW.PrintLast Go.Proofs.YtmanmjjjepdhlaaW.PrintMore
attribute [local go_sem] max2_int min2_int max_two min_two max_three min_three max_four min_four
open XInflateAny XTok
open XInflateTokens (S106)
/-! A text of tokens as bits, read again: the plain law. -/
theorem num_loc (Z Z' q p L : Nat) (h : Z' % 2 ^ q = Z % 2 ^ q) (hq : p + L ≤ q) : Z' / 2 ^ p % 2 ^ L = Z / 2 ^ p % 2 ^ L := by
 apply Nat.eq_of_testBit_eq
 intro i
 rw [Nat.testBit_mod_two_pow, Nat.testBit_mod_two_pow, Nat.testBit_div_two_pow, Nat.testBit_div_two_pow]
 by_cases hi : i < L
 ·have e : ∀ Y : Nat, Y.testBit (i + p) = (Y % 2 ^ q).testBit (i + p) := fun Y => by
   rw [Nat.testBit_mod_two_pow, decide_eq_true (show i + p < q by omega), Bool.true_and]
  rw [e Z', e Z, h]
 ·rw [decide_eq_false hi, Bool.false_and, Bool.false_and]
/-- The bits from p to r are the symbol s. -/
def At (l : List Int) (Z p s r : Nat) : Prop := ∃ L : Nat, rd l (s : Int) = (L : Int) ∧ 1 ≤ L ∧ s < l.length ∧ Z / 2 ^ p % 2 ^ L = encV l s ∧ r = p + L
theorem At.lt {l : List Int} {Z p s r : Nat} (h : At l Z p s r) : p < r := by
 obtain ⟨L, _, h1, _, _, rfl⟩ := h
 omega
theorem At.loc {l : List Int} {Z Z' p s r q : Nat} (h : At l Z p s r) (hz : Z' % 2 ^ q = Z % 2 ^ q) (hr : r ≤ q) : At l Z' p s r := by
 obtain ⟨L, h0, h1, h2, h3, rfl⟩ := h
 exact ⟨L, h0, h1, h2, (num_loc Z Z' q p L hz hr).trans h3, rfl⟩
theorem At.read {l : List Int} {kd : Int} (hK : KRes l kd 0) {Z M p s r : Nat} (h : At l Z p s r) (hr : r ≤ M) : readA l (kS l) Z M p = ((s : Int), 0, r, false) := by
 obtain ⟨L, h0, h1, h2, h3, rfl⟩ := h
 rw [(kS_of hK).1]
 exact readK_enc hK s h2 L h0 h1 Z M p hr h3
/-- .. of which the last ones are missing. -/
theorem readK_cut {l : List Int} {kd : Int} (h : KRes l kd 0) (s : Nat) (hs : s < l.length) (L : Nat) (hL : rd l (s : Int) = L) (h1 : 1 ≤ L) (Z N p : Nat) (hpN : p ≤ N) (hp : N < p + L) (hZ : Z / 2 ^ p % 2 ^ L = encV l s) :
  (readA l kd Z N p).2.1 = 3 := by
 obtain ⟨h2, h3, h4, h5, h6⟩ := cod_lt h s hs L hL h1
 obtain ⟨c, hc⟩ : ∃ c : Nat, cod l s = c := ⟨(cod l s).toNat, by omega⟩
 have hcl : c < 2 ^ L := ilt (hc ▸ h4)
 have hkd : kd ≠ 2 := fun e => by subst e; exact no_empty h s hs L hL h1
 have hbit : ∀ k, k < L → bitZ Z (p + k) = ((c / 2 ^ (L - 1 - k) % 2 : Nat) : Int) := fun k hk => by
  have e : encV l s = revN L c := by unfold encV; rw [hL, hc, Int.toNat_natCast, Int.toNat_natCast]
  have := revN_bit L c k hk
  rw [← e, ← hZ, mod_bit _ _ _ hk, Nat.div_div_eq_div_mul, ← Nat.pow_add] at this
  unfold bitZ
  rw [this]
 have key : ∀ d k : Nat, p + k + d = N → ∀ D, k + D = 15 → readK l kd (bitZ Z) N D k ((c / 2 ^ (L - k) : Nat) : Int) (p + k) = ((0 : Int), 3, N, true) := by
  intro d
  induction d with
  | zero =>
   intro k hk D hD
   obtain ⟨D, rfl⟩ : ∃ m, D = m + 1 := ⟨D - 1, by omega⟩
   rw [readK, if_pos (by omega)]
   obtain rfl : N = p + k := by omega
   rfl
  | succ d ih =>
   intro k hk D hD
   obtain ⟨D, rfl⟩ : ∃ m, D = m + 1 := ⟨D - 1, by omega⟩
   obtain ⟨d', hd'⟩ : ∃ d', k + 1 + 1 + d' = L := ⟨L - (k + 2), by omega⟩
   have e1 : 2 * ((c / 2 ^ (L - k) : Nat) : Int) + ((c / 2 ^ (L - 1 - k) % 2 : Nat) : Int) = ((c / 2 ^ (L - (k + 1)) : Nat) : Int) := by
    rw [show L - 1 - k = L - (k + 1) from by omega, show L - k = (L - (k + 1)) + 1 from by omega, Nat.pow_succ, ← Nat.div_div_eq_div_mul]
    omega
   have hmiss : ¬ (((c / 2 ^ (L - (k + 1)) : Nat) : Int) - nx (cnt l l.length) (k + 1) < cnt l l.length (k + 1)) := by
    have hf := nx_far (cnt l l.length) (fun j => (cnt_range l l.length j).1) (k + 1) (by omega) d'
    rw [show k + 1 + 1 + d' = L from by omega] at hf
    rw [hc] at h5
    obtain ⟨a, ha⟩ : ∃ a : Nat, nx (cnt l l.length) (k + 1) + cnt l l.length (k + 1) = a := ⟨(nx (cnt l l.length) (k + 1) + cnt l l.length (k + 1)).toNat, by
     have := nx_pos (cnt l l.length) (fun j => (cnt_range l l.length j).1) (k + 1)
     have := (cnt_range l l.length (k + 1)).1
     omega⟩
    rw [ha] at hf
    have h7 : a * 2 ^ (d' + 1) ≤ c := by
     have : ((a * 2 ^ (d' + 1) : Nat) : Int) ≤ (c : Int) := by
      rw [Int.natCast_mul, show ((2 ^ (d' + 1) : Nat) : Int) = 2 ^ (d' + 1) from by simp]; omega
     omega
    have h8 : a ≤ c / 2 ^ (L - (k + 1)) := by
     rw [show L - (k + 1) = d' + 1 from by omega]
     exact (Nat.le_div_iff_mul_le (Nat.two_pow_pos _)).2 h7
    omega
   have hk1 : kd ≠ 1 := fun e => by subst e; have := lone_one h s hs L hL h1; omega
   rw [readK, if_neg (by omega), hbit k (by omega), e1, if_neg hmiss, if_neg hk1]
   exact ih (k + 1) (by omega) D (by omega)
 unfold readA
 rw [if_neg hkd]
 have h0 := key (N - p) 0 (by omega) 15 rfl
 rw [Nat.sub_zero, Nat.div_eq_of_lt hcl] at h0
 exact congrArg (fun x => x.2.1) h0
theorem At.cut {l : List Int} {kd : Int} (hK : KRes l kd 0) {Z M p s r : Nat} (h : At l Z p s r) (hp : p ≤ M) (hr : M < r) : (readA l (kS l) Z M p).2.1 = 3 := by
 obtain ⟨L, h0, h1, h2, h3, rfl⟩ := h
 rw [(kS_of hK).1]
 exact readK_cut hK s h2 L h0 h1 Z M p hp hr h3
/-- The bits from p to r are a token. -/
def TokAt (Z p : Nat) (t : S106) (r : Nat) : Prop :=
 (t.f1 = 0 ∧ ∃ b : Nat, b < 256 ∧ t.f0 = (b : Int) ∧ At fixA Z p b r) ∨
 (t.f1 ≠ 0 ∧ ∃ s j p1 p2 p3 : Nat, 257 ≤ s ∧ s < 286 ∧ j < 30 ∧ At fixA Z p s p1 ∧ p2 = p1 + bitsL (s - 257) ∧ saysL (s : Int) ((Z / 2 ^ p1 % 2 ^ bitsL (s - 257) : Nat) : Int) = (t.f1, true) ∧ At fixB Z p2 j p3 ∧ r = p3 + bitsD j ∧ saysD (j : Int) ((Z / 2 ^ p3 % 2 ^ bitsD j : Nat) : Int) = (t.f2, true))
set_option maxRecDepth 100000 in
theorem TokAt.lt {Z p r : Nat} {t : S106} (h : TokAt Z p t r) : p < r := by
 rcases h with ⟨_, b, _, _, h⟩ | ⟨_, s, j, p1, p2, p3, _, _, _, h1, rfl, _, h2, rfl, _⟩
 ·exact h.lt
 ·have := h1.lt; have := h2.lt; omega
set_option maxRecDepth 100000 in
theorem TokAt.loc {Z Z' p r q : Nat} {t : S106} (h : TokAt Z p t r) (hz : Z' % 2 ^ q = Z % 2 ^ q) (hr : r ≤ q) : TokAt Z' p t r := by
 rcases h with ⟨h0, b, h1, h2, h⟩ | ⟨h0, s, j, p1, p2, p3, a1, a2, a3, h1, rfl, g1, h2, rfl, g2⟩
 ·exact .inl ⟨h0, b, h1, h2, h.loc hz hr⟩
 ·have := h1.lt; have := h2.lt
  exact .inr ⟨h0, s, j, p1, _, p3, a1, a2, a3, h1.loc hz (by omega), rfl, by rw [num_loc Z Z' q p1 _ hz (by omega)]; exact g1, h2.loc hz (by omega), rfl, by rw [num_loc Z Z' q p3 _ hz (by omega)]; exact g2⟩
set_option maxRecDepth 100000 in
theorem lenB_nat (s : Nat) : lenB (s : Int) = bitsL (s - 257) := by unfold lenB; congr 1; omega
theorem saysL_pos {s m n : Int} (h : saysL s m = (n, true)) : 0 ≤ m := by
 unfold saysL at h
 by_cases h1 : s = 284 ∧ m = 31
 ·rw [if_pos h1] at h; cases h
 rw [if_neg h1] at h
 by_cases h2 : 257 ≤ s ∧ s < 286
 ·rw [if_pos h2] at h
  by_cases h3 : 0 ≤ m ∧ m < 2 ^ bitsL (s - 257).toNat
  ·exact h3.1
  ·rw [if_neg h3] at h; cases h
 ·rw [if_neg h2] at h; cases h
set_option maxRecDepth 100000 in
theorem coded_step (Z M : Nat) (most : Int) (f p : Nat) (o : List Int) (t : S106) (r : Nat) (h : TokAt Z p t r) (hr : r ≤ M) :
  codedS fixA fixB Z M most (f + 1) p o = if t.f1 = 0 then (if most ≤ (o.length : Int) then .error 7 else codedS fixA fixB Z M most f r (o ++ [t.f0])) else (if (o.length : Int) < t.f2 then .error 2 else if most < (o.length : Int) + t.f1 then .error 7 else codedS fixA fixB Z M most f r (copyS t.f2.toNat t.f1.toNat o)) := by
 rcases h with ⟨h0, b, h1, h2, h⟩ | ⟨h0, s, j, p1, p2, p3, a1, a2, a3, h1, rfl, g1, h2, rfl, g2⟩
 ·rw [if_pos h0, codedS, h.read fixA_ok hr]
  dsimp only
  rw [if_neg (by decide), if_neg (by omega), if_neg (by omega), h2]
 ·have l1 := h1.lt
  have l2 := h2.lt
  rw [if_neg h0, codedS, h1.read fixA_ok (by omega)]
  dsimp only
  rw [if_neg (by decide), if_neg (by omega), if_pos (by omega)]
  have hlen : lenS Z M (s : Int) p1 = .ok (t.f1, p1 + bitsL (s - 257)) := by
   unfold lenS
   rw [if_neg (by omega), lenB_nat, if_neg (by omega)]
   unfold lenV
   rw [g1, if_pos rfl]
  have hdist : distS fixB Z M (p1 + bitsL (s - 257)) = .ok (t.f2, p3 + bitsD j) := by
   unfold distS
   rw [h2.read fixB_ok (by omega)]
   dsimp only
   rw [if_neg (by decide), if_neg (by omega), Int.toNat_natCast, if_neg (by omega), g2]
  unfold backS
  rw [hlen]
  dsimp only
  rw [hdist]
  dsimp only
  by_cases c1 : (o.length : Int) < t.f2
  ·rw [if_pos c1, if_pos c1]
  rw [if_neg c1, if_neg c1]
  by_cases c2 : most < (o.length : Int) + t.f1
  ·rw [if_pos c2, if_pos c2]
  rw [if_neg c2, if_neg c2]
set_option maxRecDepth 100000 in
theorem coded_cut (Z M : Nat) (most : Int) (f p : Nat) (o : List Int) (t : S106) (r : Nat) (h : TokAt Z p t r) (hp : p ≤ M) (hr : M < r) : codedS fixA fixB Z M most (f + 1) p o = .error 3 := by
 rcases h with ⟨h0, b, h1, h2, h⟩ | ⟨h0, s, j, p1, p2, p3, a1, a2, a3, h1, rfl, g1, h2, rfl, g2⟩
 ·rw [codedS, h.cut fixA_ok hp hr, if_pos (by decide)]
 ·have l1 := h1.lt
  have l2 := h2.lt
  by_cases c1 : M < p1
  ·rw [codedS, h1.cut fixA_ok hp c1, if_pos (by decide)]
  rw [codedS, h1.read fixA_ok (by omega)]
  dsimp only
  rw [if_neg (by decide), if_neg (by omega), if_pos (by omega)]
  have he : backS fixB Z M most (s : Int) p1 o = .error 3 := by
   unfold backS
   by_cases c2 : M < p1 + bitsL (s - 257)
   ·have hlen : lenS Z M (s : Int) p1 = .error 3 := by
     unfold lenS
     rw [if_neg (by omega), lenB_nat, if_pos c2]
    rw [hlen]
   have hlen : lenS Z M (s : Int) p1 = .ok (t.f1, p1 + bitsL (s - 257)) := by
    unfold lenS
    rw [if_neg (by omega), lenB_nat, if_neg (by omega)]
    unfold lenV
    rw [g1, if_pos rfl]
   rw [hlen]
   dsimp only
   have hd : distS fixB Z M (p1 + bitsL (s - 257)) = .error 3 := by
    unfold distS
    by_cases c3 : M < p3
    ·rw [h2.cut fixB_ok (by omega) c3, if_pos (by decide)]
    rw [h2.read fixB_ok (by omega)]
    dsimp only
    rw [if_neg (by decide), if_neg (by omega), Int.toNat_natCast, if_pos (by omega)]
   rw [hd]
  rw [he]
/-- Tokens one behind the other. -/
def EncT (Z : Nat) : Nat → List S106 → Nat → Prop
 | p, [], q => q = p
 | p, t :: l, q => ∃ r, TokAt Z p t r ∧ EncT Z r l q
theorem EncT.le {Z : Nat} : ∀ {l : List S106} {p q : Nat}, EncT Z p l q → p + l.length ≤ q
 | [], p, q, h => by rw [EncT] at h; simp; omega
 | t :: l, p, q, ⟨r, h1, h2⟩ => by have := h1.lt; have := EncT.le h2; simp; omega
theorem EncT.loc {Z Z' w : Nat} (hz : Z' % 2 ^ w = Z % 2 ^ w) : ∀ {l : List S106} {p q : Nat}, EncT Z p l q → q ≤ w → EncT Z' p l q
 | [], p, q, h, hq => h
 | t :: l, p, q, ⟨r, h1, h2⟩, hq => ⟨r, h1.loc hz (by have := h2.le; omega), h2.loc hz hq⟩
theorem EncT.snoc {Z : Nat} {t : S106} {r : Nat} : ∀ {l : List S106} {p q : Nat}, EncT Z p l q → TokAt Z q t r → EncT Z p (l ++ [t]) r
 | [], p, q, h, ht => by rw [EncT] at h; subst h; exact ⟨r, ht, rfl⟩
 | t' :: l, p, q, ⟨r', h1, h2⟩, ht => ⟨r', h1, h2.snoc ht⟩
/-- What tokens say behind o. -/
def expT : List S106 → List Int → List Int
 | [], o => o
 | t :: l, o => if t.f1 = 0 then expT l (o ++ [t.f0]) else expT l (copyS t.f2.toNat t.f1.toNat o)
/-- May they be followed? -/
def okT : List S106 → List Int → Prop
 | [], _ => True
 | t :: l, o => if t.f1 = 0 then okT l (o ++ [t.f0]) else (t.f2 ≤ (o.length : Int) ∧ 0 < t.f1 ∧ okT l (copyS t.f2.toNat t.f1.toNat o))
theorem expT_le : ∀ (l : List S106) (o : List Int), o.length ≤ (expT l o).length
 | [], o => Nat.le_refl _
 | t :: l, o => by
  rw [expT]
  by_cases h : t.f1 = 0
  ·rw [if_pos h]; have := expT_le l (o ++ [t.f0]); simp at this; omega
  ·rw [if_neg h]; have := expT_le l (copyS t.f2.toNat t.f1.toNat o); rw [copyS_len] at this; omega
set_option maxRecDepth 100000 in
theorem coded_ok (Z M : Nat) (most : Int) : ∀ (l : List S106) (p : Nat) (o : List Int) (q r f : Nat), EncT Z p l q → At fixA Z q 256 r → r ≤ M → okT l o → ((expT l o).length : Int) ≤ most → l.length < f → codedS fixA fixB Z M most f p o = .ok (r, expT l o)
 | [], p, o, q, r, f, h, ha, hr, hk, hm, hf => by
  rw [EncT] at h
  subst h
  obtain ⟨f, rfl⟩ : ∃ g, f = g + 1 := ⟨f - 1, by simp at hf; omega⟩
  rw [codedS, ha.read fixA_ok hr]
  dsimp only
  rw [if_neg (by decide), if_pos (by decide)]
  rfl
 | t :: l, p, o, q, r, f, ⟨u, h1, h2⟩, ha, hr, hk, hm, hf => by
  obtain ⟨f, rfl⟩ : ∃ g, f = g + 1 := ⟨f - 1, by simp at hf; omega⟩
  have l1 := h2.le
  have l2 := ha.lt
  rw [coded_step Z M most f p o t u h1 (by omega)]
  rw [okT] at hk
  rw [expT] at hm ⊢
  simp only [List.length_cons] at hf
  by_cases h : t.f1 = 0
  ·rw [if_pos h] at hk hm
   rw [if_pos h, if_pos h]
   have := expT_le l (o ++ [t.f0])
   simp at this
   rw [if_neg (by omega)]
   exact coded_ok Z M most l u _ q r f h2 ha hr hk hm (by omega)
  ·rw [if_neg h] at hk hm
   rw [if_neg h, if_neg h]
   have := expT_le l (copyS t.f2.toNat t.f1.toNat o)
   rw [copyS_len] at this
   rw [if_neg (by omega), if_neg (by omega)]
   exact coded_ok Z M most l u _ q r f h2 ha hr hk.2.2 hm (by omega)
set_option maxRecDepth 100000 in
theorem coded_limit (Z M : Nat) (most : Int) : ∀ (l : List S106) (p : Nat) (o : List Int) (q f : Nat), EncT Z p l q → q ≤ M → okT l o → (o.length : Int) ≤ most → most < ((expT l o).length : Int) → l.length < f → codedS fixA fixB Z M most f p o = .error 7
 | [], p, o, q, f, h, hr, hk, hm, hm2, hf => by rw [expT] at hm2; omega
 | t :: l, p, o, q, f, ⟨u, h1, h2⟩, hr, hk, hm, hm2, hf => by
  obtain ⟨f, rfl⟩ : ∃ g, f = g + 1 := ⟨f - 1, by simp at hf; omega⟩
  have l1 := h2.le
  rw [coded_step Z M most f p o t u h1 (by omega)]
  rw [okT] at hk
  rw [expT] at hm2
  simp only [List.length_cons] at hf
  by_cases h : t.f1 = 0
  ·rw [if_pos h] at hk hm2
   rw [if_pos h]
   by_cases c : most ≤ (o.length : Int)
   ·rw [if_pos c]
   ·rw [if_neg c]
    exact coded_limit Z M most l u _ q f h2 hr hk (by simp; omega) hm2 (by omega)
  ·rw [if_neg h] at hk hm2
   rw [if_neg h, if_neg (by omega)]
   by_cases c : most < (o.length : Int) + t.f1
   ·rw [if_pos c]
   ·rw [if_neg c]
    exact coded_limit Z M most l u _ q f h2 hr hk.2.2 (by rw [copyS_len]; omega) hm2 (by omega)
set_option maxRecDepth 100000 in
theorem coded_short (Z M : Nat) (most : Int) : ∀ (l : List S106) (p : Nat) (o : List Int) (q r f : Nat), EncT Z p l q → At fixA Z q 256 r → p ≤ M → M < r → okT l o → ((expT l o).length : Int) ≤ most → M < p + f → codedS fixA fixB Z M most f p o = .error 3
 | [], p, o, q, r, f, h, ha, hp, hr, hk, hm, hf => by
  rw [EncT] at h
  subst h
  obtain ⟨f, rfl⟩ : ∃ g, f = g + 1 := ⟨f - 1, by omega⟩
  rw [codedS, ha.cut fixA_ok hp hr, if_pos (by decide)]
 | t :: l, p, o, q, r, f, ⟨u, h1, h2⟩, ha, hp, hr, hk, hm, hf => by
  obtain ⟨f, rfl⟩ : ∃ g, f = g + 1 := ⟨f - 1, by omega⟩
  have l0 := h1.lt
  by_cases c0 : M < u
  ·exact coded_cut Z M most f p o t u h1 hp c0
  rw [coded_step Z M most f p o t u h1 (by omega)]
  rw [okT] at hk
  rw [expT] at hm
  by_cases h : t.f1 = 0
  ·rw [if_pos h] at hk hm
   rw [if_pos h]
   have := expT_le l (o ++ [t.f0])
   simp at this
   rw [if_neg (by omega)]
   exact coded_short Z M most l u _ q r f h2 ha (by omega) hr hk hm (by omega)
  ·rw [if_neg h] at hk hm
   rw [if_neg h]
   have := expT_le l (copyS t.f2.toNat t.f1.toNat o)
   rw [copyS_len] at this
   rw [if_neg (by omega), if_neg (by omega)]
   exact coded_short Z M most l u _ q r f h2 ha (by omega) hr hk.2.2 hm (by omega)
/-! The stream of one block of kind 1. -/
theorem stream_one (Z M : Nat) (most : Int) (h8 : Z % 8 = 3) (hM : 3 ≤ M) : streamS Z M most (M + 1) 0 [] [] = (match codedS fixA fixB Z M most (M + 1) 3 [] with
  | .error e => .error e
  | .ok (q, o2) => .ok (q, o2, [1])) := by
 have k1 : Z / 2 ^ (0 + 1) % 2 ^ 2 = 1 := by show Z / 2 % 4 = 1; omega
 have k0 : Z / 2 ^ 0 % 2 ^ 1 = 1 := by show Z / 1 % 2 = 1; omega
 rw [streamS, if_neg (by omega), k1, k0]
 have hb : bodyS Z M most 1 (0 + 3) [] = codedS fixA fixB Z M most (M + 1) 3 [] := rfl
 rw [hb]
 rcases codedS fixA fixB Z M most (M + 1) 3 [] with e | ⟨q, o2⟩
 ·rfl
 ·show (if 1 = 1 then Except.ok (q, o2, [] ++ [((1 : Nat) : Int)]) else _) = _
  rw [if_pos rfl]
  rfl
end Go.Proofs.Ytmanmjjjepdhlaa.XPrefix
