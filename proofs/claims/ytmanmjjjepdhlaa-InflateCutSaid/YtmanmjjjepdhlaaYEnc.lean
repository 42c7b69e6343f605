/- A symbol and its bits. It has no conditions. -/
import Derived.Test.YtmanmjjjepdhlaaYTabRead
import Derived.Test.YtmanmjjjepdhlaaYRev
import Derived.Test.YtmanmjjjepdhlaaXTk
import Derived.BigRegion
import Derived.RegionTactic
import Derived.ChangeAlike
import Derived.Deep.RegionWith
import Derived.Deep.RegionLaw
import Derived.Laws.Tables
import Derived.Deep.QuietTactic
import Derived.BigQuiet
import Derived.Deep.RegionHeld3
import Derived.Deep.AppendLies
import Derived.Deep.DrawnRows
import Derived.Laws.CopyOwn
import Derived.Deep.MidRow
import Derived.Laws.ResultCell
import Derived.ChangeKeysEq
import Derived.Laws.BitsAllLaws
namespace Go.Proofs.Ytmanmjjjepdhlaa.XPrefix
set_option linter.unusedVariables false
set_option linter.unusedSimpArgs false
open Go.RowKit Go.Proofs.YtmanmjjjepdhlaaW.PrintWords Go.Proofs.YtmanmjjjepdhlaaW.PrintLast Go.Proofs.YtmanmjjjepdhlaaW.PrintMore
open XInflateAny
theorem ilt {c L : Nat} (h : (c : Int) < 2 ^ L) : c < 2 ^ L := by
 have : ((c : Nat) : Int) < ((2 ^ L : Nat) : Int) := by simpa using h
 omega
theorem nx_lf (c : Nat → Int) : ∀ n, 1 ≤ n → nx c n + c n = 2 ^ n - lf c n
 | 1, _ => by
  show (0 : Int) + c 1 = 2 ^ 1 - (2 * 1 - c 1)
  omega
 | n + 2, _ => by
  have ih := nx_lf c (n + 1) (by omega)
  rw [nx, show lf c (n + 2) = 2 * lf c (n + 1) - c (n + 2) from rfl, ih, Int.pow_succ 2 (n + 1)]
  omega
theorem KRes.lf0 {l : List Int} {k : Int} (h : KRes l k 0) : ∀ j, j ≤ 15 → 0 ≤ lf (cnt l l.length) j := by
 rcases h with ⟨_, _, h⟩ | ⟨_, _, _, h⟩ | ⟨_, h, _⟩
 ·exact absurd h (by decide)
 ·exact absurd h (by decide)
 ·exact h
theorem nx_pos (c : Nat → Int) (hc : ∀ j, 0 ≤ c j) : ∀ n, 0 ≤ nx c n
 | 0 => by simp [nx]
 | 1 => by simp [nx]
 | n + 2 => by have := nx_pos c hc (n + 1); have := hc (n + 1); rw [nx]; omega
/-- A symbol's code has as many bits as told. -/
theorem cod_lt {l : List Int} {kd : Int} (h : KRes l kd 0) (s : Nat) (hs : s < l.length) (L : Nat) (hL : rd l (s : Int) = L) (h1 : 1 ≤ L) :
  L ≤ 15 ∧ 0 ≤ cod l s ∧ cod l s < 2 ^ L ∧ nx (cnt l l.length) L ≤ cod l s ∧ cod l s - nx (cnt l l.length) L < cnt l l.length L := by
 have ok := h.okl.2 s hs
 have hlf := h.lf0 L (by omega)
 have hx := nx_lf (cnt l l.length) L h1
 have hn := nx_pos (cnt l l.length) (fun j => (cnt_range l l.length j).1) L
 have hc0 := (cnt_range l s L).1
 have hm := cnt_mono l L (s + 1) l.length hs
 rw [show cnt l (s + 1) L = cnt l s L + if rd l (s : Int) = L then 1 else 0 from rfl, if_pos hL] at hm
 have e : cod l s = nx (cnt l l.length) L + cnt l s L := by rw [cod, hL, if_pos (by omega), Int.toNat_natCast]
 rw [e]
 exact ⟨by omega, by omega, by omega, by omega, by omega⟩
theorem cnt_three (l : List Int) (n : Nat) (hn : 2 ≤ n) : ∀ i, cnt l i 0 + cnt l i 1 + cnt l i n ≤ i
 | 0 => by simp [cnt]
 | i + 1 => by
  have ih := cnt_three l n hn i
  simp only [cnt]
  split <;> split <;> split <;> omega
theorem cnt_pos (l : List Int) (s : Nat) (hs : s < l.length) (L : Nat) (hL : rd l (s : Int) = L) : 1 ≤ cnt l l.length L := by
 have hm := cnt_mono l L (s + 1) l.length hs
 rw [show cnt l (s + 1) L = cnt l s L + if rd l (s : Int) = L then 1 else 0 from rfl, if_pos hL] at hm
 have := (cnt_range l s L).1
 omega
theorem cnt_two (l : List Int) (n : Nat) (hn : 1 ≤ n) : ∀ i, cnt l i 0 + cnt l i n ≤ i
 | 0 => by simp [cnt]
 | i + 1 => by
  have ih := cnt_two l n hn i
  simp only [cnt]
  split <;> split <;> omega
theorem lone_one {l : List Int} (h : KRes l 1 0) (s : Nat) (hs : s < l.length) (L : Nat) (hL : rd l (s : Int) = L) (h1 : 1 ≤ L) : L = 1 := by
 have hp := cnt_pos l s hs L hL
 have h2 : (l.length : Int) - cnt l l.length 0 = 1 ∧ cnt l l.length 1 = 1 := by
  rcases h with ⟨_, _, h⟩ | ⟨_, _, _, h⟩ | ⟨_, _, h⟩
  ·exact absurd h (by decide)
  ·exact absurd h (by decide)
  ·rcases h with ⟨_, h, _⟩ | ⟨_, h1, h2, _⟩ | ⟨_, _, _, h, _⟩ | ⟨_, _, _, h, _⟩
   ·exact absurd h (by decide)
   ·exact ⟨by have : ¬ ¬ ((l.length : Int) - cnt l l.length 0 = 1) := h1; omega, h2⟩
   ·exact absurd h (by decide)
   ·exact absurd h (by decide)
 by_cases e : L = 1
 ·exact e
 ·have := cnt_three l L (by omega) l.length
  omega
theorem no_empty {l : List Int} (h : KRes l 2 0) (s : Nat) (hs : s < l.length) (L : Nat) (hL : rd l (s : Int) = L) (h1 : 1 ≤ L) : False := by
 have hp := cnt_pos l s hs L hL
 have h2 : (l.length : Int) - cnt l l.length 0 = 0 := by
  rcases h with ⟨_, _, h⟩ | ⟨_, _, _, h⟩ | ⟨_, _, h⟩
  ·exact absurd h (by decide)
  ·exact absurd h (by decide)
  ·rcases h with ⟨h, _⟩ | ⟨_, _, _, h, _⟩ | ⟨_, _, _, h, _⟩ | ⟨_, _, _, h, _⟩
   ·exact h
   ·exact absurd h (by decide)
   ·exact absurd h (by decide)
   ·exact absurd h (by decide)
 have := cnt_two l L h1 l.length
 omega
/-- The codes of a length begin behind all shorter ones. -/
theorem nx_far (c : Nat → Int) (hc : ∀ j, 0 ≤ c j) (k : Nat) (hk : 1 ≤ k) : ∀ d, (nx c k + c k) * 2 ^ (d + 1) ≤ nx c (k + 1 + d)
 | 0 => by
  obtain ⟨m, rfl⟩ : ∃ m, k = m + 1 := ⟨k - 1, by omega⟩
  rw [show m + 1 + 1 + 0 = m + 2 from rfl, nx]; omega
 | d + 1 => by
  have ih := nx_far c hc k hk d
  have h := hc (k + 1 + d)
  obtain ⟨m, hm⟩ : ∃ m, k + 1 + d = m + 1 := ⟨k + d, by omega⟩
  rw [show k + 1 + (d + 1) = m + 2 from by omega, nx, ← hm, Int.pow_succ, ← Int.mul_assoc]
  omega
/-- A symbol's bits, as a number, and how many. -/
def encV (l : List Int) (s : Nat) : Nat := revN (rd l (s : Int)).toNat (cod l s).toNat
theorem bitsV_enc {l : List Int} {kd : Int} (h : KRes l kd 0) (s : Nat) (hs : s < l.length) (L : Nat) (hL : rd l (s : Int) = L) (h1 : 1 ≤ L) : bitsV l s = encV l s ∧ encV l s < 2 ^ L := by
 obtain ⟨h2, h3, h4, _⟩ := cod_lt h s hs L hL h1
 obtain ⟨c, hc⟩ : ∃ c : Nat, cod l s = c := ⟨(cod l s).toNat, by omega⟩
 have e := rv_shift L c h2 (ilt (hc ▸ h4))
 unfold bitsV encV
 rw [hL, if_neg (by omega), hc, Int.toNat_natCast, Int.toNat_natCast, show (32 - (L : Int)).toNat = 32 - L from by omega, e]
 exact ⟨rfl, revN_lt _ _⟩
/-- Reading a symbol's bits. -/
theorem readK_enc {l : List Int} {kd : Int} (h : KRes l kd 0) (s : Nat) (hs : s < l.length) (L : Nat) (hL : rd l (s : Int) = L) (h1 : 1 ≤ L) (Z N p : Nat) (hp : p + L ≤ N) (hZ : Z / 2 ^ p % 2 ^ L = encV l s) :
  readA l kd Z N p = ((s : Int), 0, p + L, false) := by
 obtain ⟨h2, h3, h4, h5, h6⟩ := cod_lt h s hs L hL h1
 obtain ⟨c, hc⟩ : ∃ c : Nat, cod l s = c := ⟨(cod l s).toNat, by omega⟩
 have hcl : c < 2 ^ L := ilt (hc ▸ h4)
 have hkd : kd ≠ 2 := fun e => by subst e; exact no_empty h s hs L hL h1
 have hbit : ∀ k, k < L → bitZ Z (p + k) = ((c / 2 ^ (L - 1 - k) % 2 : Nat) : Int) := fun k hk => by
  have e : encV l s = revN L c := by unfold encV; rw [hL, hc, Int.toNat_natCast, Int.toNat_natCast]
  have := revN_bit L c k hk
  rw [← e, ← hZ, mod_bit _ _ _ hk, Nat.div_div_eq_div_mul, ← Nat.pow_add] at this
  unfold bitZ
  rw [this]
 have key : ∀ d k : Nat, k + d + 1 = L → ∀ D, k + D = 15 → readK l kd (bitZ Z) N D k ((c / 2 ^ (L - k) : Nat) : Int) (p + k) = ((s : Int), 0, p + L, false) := by
  intro d
  induction d with
  | zero =>
   intro k hk D hD
   obtain ⟨D, rfl⟩ : ∃ m, D = m + 1 := ⟨D - 1, by omega⟩
   have e1 : 2 * ((c / 2 ^ (L - k) : Nat) : Int) + ((c / 2 ^ (L - 1 - k) % 2 : Nat) : Int) = (c : Int) := by
    rw [show L - k = 1 from by omega, show L - 1 - k = 0 from by omega]; simp; omega
   rw [readK, if_neg (by omega), hbit k (by omega), e1]
   obtain rfl : L = k + 1 := by omega
   rw [hc] at h5 h6
   rw [if_pos h6]
   obtain ⟨j, g1, g2, g3, g4⟩ := sym_of l k (c : Int) h5 h6 h2
   have g5 : j = s := cnt_inj l (k + 1) j s g2 hL (by
    have h7 : cod l j = cod l s := by rw [g3, hc]
    rw [cod, cod, g2, hL, if_pos (by omega), Int.toNat_natCast] at h7
    omega)
   rw [g4, g5]
   rfl
  | succ d ih =>
   intro k hk D hD
   obtain ⟨D, rfl⟩ : ∃ m, D = m + 1 := ⟨D - 1, by omega⟩
   have e1 : 2 * ((c / 2 ^ (L - k) : Nat) : Int) + ((c / 2 ^ (L - 1 - k) % 2 : Nat) : Int) = ((c / 2 ^ (L - (k + 1)) : Nat) : Int) := by
    rw [show L - 1 - k = L - (k + 1) from by omega, show L - k = (L - (k + 1)) + 1 from by omega, Nat.pow_succ, ← Nat.div_div_eq_div_mul]
    omega
   have hmiss : ¬ (((c / 2 ^ (L - (k + 1)) : Nat) : Int) - nx (cnt l l.length) (k + 1) < cnt l l.length (k + 1)) := by
    have hf := nx_far (cnt l l.length) (fun j => (cnt_range l l.length j).1) (k + 1) (by omega) d
    rw [show k + 1 + 1 + d = L from by omega] at hf
    rw [hc] at h5
    obtain ⟨a, ha⟩ : ∃ a : Nat, nx (cnt l l.length) (k + 1) + cnt l l.length (k + 1) = a := ⟨(nx (cnt l l.length) (k + 1) + cnt l l.length (k + 1)).toNat, by
     have := nx_pos (cnt l l.length) (fun j => (cnt_range l l.length j).1) (k + 1)
     have := (cnt_range l l.length (k + 1)).1
     omega⟩
    rw [ha] at hf
    have h7 : a * 2 ^ (d + 1) ≤ c := by
     have : ((a * 2 ^ (d + 1) : Nat) : Int) ≤ (c : Int) := by
      rw [Int.natCast_mul, show ((2 ^ (d + 1) : Nat) : Int) = 2 ^ (d + 1) from by simp]; omega
     omega
    have h8 : a ≤ c / 2 ^ (L - (k + 1)) := by
     rw [show L - (k + 1) = d + 1 from by omega]
     exact (Nat.le_div_iff_mul_le (Nat.two_pow_pos _)).2 h7
    omega
   have hk1 : kd ≠ 1 := fun e => by subst e; have := lone_one h s hs L hL h1; omega
   rw [readK, if_neg (by omega), hbit k (by omega), e1, if_neg hmiss, if_neg hk1]
   exact ih (k + 1) (by omega) D (by omega)
 unfold readA
 rw [if_neg hkd]
 have h0 := key (L - 1) 0 (by omega) 15 rfl
 rw [Nat.sub_zero, Nat.div_eq_of_lt hcl] at h0
 exact h0
open XInflateAny
open XInflateTokens (montageref05_Bits.f montageref05_Bits.l0)
theorem rbits_l0 (L c : Nat) (hL : L ≤ 15) (hc : c < 2 ^ L) : ∀ (k : Nat) (out : List Int), k ≤ L → out.length = L → (∀ j, k ≤ j → j < L → rd out (j : Int) = ((c / 2 ^ (L - 1 - j) % 2 : Nat) : Int)) →
  Ev (fun q => montageref05_Bits.l0 q out ((c / 2 ^ (L - k) : Nat) : Int) ((k : Int) - 1)) (bl (revN L c) L)
 | 0, out, hk, hl, h => by
  refine Ev.step (f := fun _ => some (bl (revN L c) L)) (fun q => ?_) (Ev.now _)
  simp only [montageref05_Bits.l0]
  rw [if_neg (by omega)]
  congr 1
  apply List.ext_getElem
  ·rw [hl, bl_len]
  ·intro i h1 h2
   have h3 := h i (by omega) (by omega)
   unfold rd at h3
   rw [Int.toNat_natCast, List.getD_eq_getElem?_getD, List.getElem?_eq_getElem h1, Option.getD_some] at h3
   rw [h3, ← revN_bit L c i (by omega)]
   simp [bl]
 | k + 1, out, hk, hl, h => by
  have h1 : c / 2 ^ (L - (k + 1)) ≤ c := Nat.div_le_self _ _
  have h2 : 2 ^ L ≤ 2 ^ 15 := Nat.pow_le_pow_right (by decide) hL
  have e0 : ((k + 1 : Nat) : Int) - 1 = (k : Int) := by omega
  have e1 : Int.tmod ((c / 2 ^ (L - (k + 1)) : Nat) : Int) 2 % 256 = ((c / 2 ^ (L - 1 - k) % 2 : Nat) : Int) := by
   rw [show L - 1 - k = L - (k + 1) from by omega]
   generalize c / 2 ^ (L - (k + 1)) = x
   rw [Int.tmod_eq_emod_of_nonneg (by omega)]; omega
  have e2 : Int.tdiv ((c / 2 ^ (L - (k + 1)) : Nat) : Int) 2 = ((c / 2 ^ (L - k) : Nat) : Int) := by
   rw [show L - k = (L - (k + 1)) + 1 from by omega, Nat.pow_succ, ← Nat.div_div_eq_div_mul]
   generalize c / 2 ^ (L - (k + 1)) = x
   rw [Int.tdiv_eq_ediv_of_nonneg (by omega)]; omega
  have h3 : c / 2 ^ (L - k) ≤ c := Nat.div_le_self _ _
  have ih := rbits_l0 L c hL hc k (out.set k ((c / 2 ^ (L - 1 - k) % 2 : Nat) : Int)) (by omega) (by simp [hl]) (fun j hj1 hj2 => by
   by_cases e : j = k
   ·subst e
    unfold rd
    rw [Int.toNat_natCast, List.getD_eq_getElem?_getD, List.getElem?_set_self (by omega), Option.getD_some]
   ·rw [← h j (by omega) hj2]
    unfold rd
    rw [Int.toNat_natCast, List.getD_eq_getElem?_getD, List.getD_eq_getElem?_getD, List.getElem?_set_ne (by omega)])
  refine Ev.step (fun q => ?_) ih
  simp only [montageref05_Bits.l0]
  rw [e0, if_pos (by omega), if_pos (by omega), if_pos (by omega), e1, e2, Int.toNat_natCast, w64 (x := ((c / 2 ^ (L - k) : Nat) : Int)) (by clear e1 e2 ih; generalize c / 2 ^ (L - k) = x at *; omega) (by clear e1 e2 ih; generalize c / 2 ^ (L - k) = x at *; omega), w64 (x := (k : Int) - 1) (by clear e1 e2 ih; omega) (by clear e1 e2 ih; omega)]
/-- The document's bits of a symbol. -/
theorem rbits {l : List Int} {kd : Int} (h : KRes l kd 0) (s : Nat) (hs : s < l.length) (L : Nat) (hL : rd l (s : Int) = L) (h1 : 1 ≤ L) : Ev (fun q => montageref05_Bits.f q l (codL l) (s : Int)) (bl (encV l s) L) := by
 obtain ⟨h2, h3, h4, h5, h6⟩ := cod_lt h s hs L hL h1
 obtain ⟨c, hc⟩ : ∃ c : Nat, cod l s = c := ⟨(cod l s).toNat, by omega⟩
 have hcl : c < 2 ^ L := ilt (hc ▸ h4)
 have hlen : (codL l).length = l.length := listOf_len _ _
 have h0 := rbits_l0 L c h2 hcl L (List.replicate L 0) (Nat.le_refl _) (by simp) (fun j hj hj2 => absurd hj (by omega))
 rw [Nat.sub_self, Nat.pow_zero, Nat.div_one] at h0
 have e : encV l s = revN L c := by unfold encV; rw [hL, hc, Int.toNat_natCast, Int.toNat_natCast]
 rw [e]
 refine Ev.congr (fun q => ?_) h0
 unfold montageref05_Bits.f
 rw [if_pos (by omega), if_pos (by omega), hL, if_pos (by omega), if_pos (by omega), if_pos (by rw [hlen]; omega), codL_rd l s hs, hc, Int.toNat_natCast, w64 (by omega) (by omega)]
end Go.Proofs.Ytmanmjjjepdhlaa.XPrefix
