/- PrefixBack: symbols that are written are read again. It has no conditions. -/
import Derived.Test.YtiemjhoadobigaaYPrefixRev
import Derived.Test.YtiemjhoadobigaaYPrefixText
import Derived.Test.YtiemjhoadobigaaYPrefixReads
import Derived.BigRegion
import Derived.RegionTactic
import Derived.ChangeAlike
import Derived.Deep.RegionWith
import Derived.Deep.RegionLaw
import Derived.Laws.Tables
import Derived.Deep.QuietTactic
import Derived.BigQuiet
import Derived.Deep.RegionHeld3
import Derived.Deep.AppendLies
import Derived.Deep.DrawnRows
import Derived.Laws.CopyOwn
import Derived.Deep.MidRow
import Derived.Laws.ResultCell
import Derived.ChangeKeysEq
namespace Go.Proofs.Ytiemjhoadobigaa.XPrefix
set_option linter.unusedVariables false
set_option linter.unusedSimpArgs false
open Go.RowKit Go.Proofs.YtiemjhoadobigaaW.PrintWords Go.Proofs.YtiemjhoadobigaaW.PrintLast Go.Proofs.YtiemjhoadobigaaW.PrintMore

open XPrefixReads
theorem ilt {c L : Nat} (h : (c : Int) < 2 ^ L) : c < 2 ^ L := by
  have : ((c : Nat) : Int) < ((2 ^ L : Nat) : Int) := by simpa using h
  omega
theorem nx_lf (c : Nat → Int) : ∀ n, 1 ≤ n → nx c n + c n = 2 ^ n - lf c n
  | 1, _ => by
    show (0 : Int) + c 1 = 2 ^ 1 - (2 * 1 - c 1)
    omega
  | n + 2, _ => by
    have ih := nx_lf c (n + 1) (by omega)
    rw [nx, show lf c (n + 2) = 2 * lf c (n + 1) - c (n + 2) from rfl, ih, Int.pow_succ 2 (n + 1)]
    omega
theorem KRes.lf0 {l : List Int} {k : Int} (h : KRes l k 0) : ∀ j, j ≤ 15 → 0 ≤ lf (cnt l l.length) j := by
  rcases h with ⟨_, _, h⟩ | ⟨_, _, _, h⟩ | ⟨_, h, _⟩
  · exact absurd h (by decide)
  · exact absurd h (by decide)
  · exact h
theorem nx_pos (c : Nat → Int) (hc : ∀ j, 0 ≤ c j) : ∀ n, 0 ≤ nx c n
  | 0 => by simp [nx]
  | 1 => by simp [nx]
  | n + 2 => by have := nx_pos c hc (n + 1); have := hc (n + 1); rw [nx]; omega
/-- A symbol's code has as many bits as told. -/
theorem cod_lt {l : List Int} {kd : Int} (h : KRes l kd 0) (s : Nat) (hs : s < l.length) (L : Nat) (hL : rd l (s : Int) = L) (h1 : 1 ≤ L) :
    L ≤ 15 ∧ 0 ≤ cod l s ∧ cod l s < 2 ^ L ∧ nx (cnt l l.length) L ≤ cod l s ∧ cod l s - nx (cnt l l.length) L < cnt l l.length L := by
  have ok := h.okl.2 s hs
  have hlf := h.lf0 L (by omega)
  have hx := nx_lf (cnt l l.length) L h1
  have hn := nx_pos (cnt l l.length) (fun j => (cnt_range l l.length j).1) L
  have hc0 := (cnt_range l s L).1
  have hm := cnt_mono l L (s + 1) l.length hs
  rw [show cnt l (s + 1) L = cnt l s L + if rd l (s : Int) = L then 1 else 0 from rfl, if_pos hL] at hm
  have e : cod l s = nx (cnt l l.length) L + cnt l s L := by rw [cod, hL, if_pos (by omega), Int.toNat_natCast]
  rw [e]
  exact ⟨by omega, by omega, by omega, by omega, by omega⟩
theorem cnt_three (l : List Int) (n : Nat) (hn : 2 ≤ n) : ∀ i, cnt l i 0 + cnt l i 1 + cnt l i n ≤ i
  | 0 => by simp [cnt]
  | i + 1 => by
    have ih := cnt_three l n hn i
    simp only [cnt]
    split <;> split <;> split <;> omega
theorem cnt_pos (l : List Int) (s : Nat) (hs : s < l.length) (L : Nat) (hL : rd l (s : Int) = L) : 1 ≤ cnt l l.length L := by
  have hm := cnt_mono l L (s + 1) l.length hs
  rw [show cnt l (s + 1) L = cnt l s L + if rd l (s : Int) = L then 1 else 0 from rfl, if_pos hL] at hm
  have := (cnt_range l s L).1
  omega
theorem cnt_two (l : List Int) (n : Nat) (hn : 1 ≤ n) : ∀ i, cnt l i 0 + cnt l i n ≤ i
  | 0 => by simp [cnt]
  | i + 1 => by
    have ih := cnt_two l n hn i
    simp only [cnt]
    split <;> split <;> omega
theorem lone_one {l : List Int} (h : KRes l 1 0) (s : Nat) (hs : s < l.length) (L : Nat) (hL : rd l (s : Int) = L) (h1 : 1 ≤ L) : L = 1 := by
  have hp := cnt_pos l s hs L hL
  have h2 : (l.length : Int) - cnt l l.length 0 = 1 ∧ cnt l l.length 1 = 1 := by
    rcases h with ⟨_, _, h⟩ | ⟨_, _, _, h⟩ | ⟨_, _, h⟩
    · exact absurd h (by decide)
    · exact absurd h (by decide)
    · rcases h with ⟨_, h, _⟩ | ⟨_, h1, h2, _⟩ | ⟨_, _, _, h, _⟩ | ⟨_, _, _, h, _⟩
      · exact absurd h (by decide)
      · exact ⟨by have : ¬ ¬ ((l.length : Int) - cnt l l.length 0 = 1) := h1; omega, h2⟩
      · exact absurd h (by decide)
      · exact absurd h (by decide)
  by_cases e : L = 1
  · exact e
  · have := cnt_three l L (by omega) l.length
    omega
theorem no_empty {l : List Int} (h : KRes l 2 0) (s : Nat) (hs : s < l.length) (L : Nat) (hL : rd l (s : Int) = L) (h1 : 1 ≤ L) : False := by
  have hp := cnt_pos l s hs L hL
  have h2 : (l.length : Int) - cnt l l.length 0 = 0 := by
    rcases h with ⟨_, _, h⟩ | ⟨_, _, _, h⟩ | ⟨_, _, h⟩
    · exact absurd h (by decide)
    · exact absurd h (by decide)
    · rcases h with ⟨h, _⟩ | ⟨_, _, _, h, _⟩ | ⟨_, _, _, h, _⟩ | ⟨_, _, _, h, _⟩
      · exact h
      · exact absurd h (by decide)
      · exact absurd h (by decide)
      · exact absurd h (by decide)
  have := cnt_two l L h1 l.length
  omega
/-- The codes of a length begin behind all shorter ones. -/
theorem nx_far (c : Nat → Int) (hc : ∀ j, 0 ≤ c j) (k : Nat) (hk : 1 ≤ k) : ∀ d, (nx c k + c k) * 2 ^ (d + 1) ≤ nx c (k + 1 + d)
  | 0 => by
    obtain ⟨m, rfl⟩ : ∃ m, k = m + 1 := ⟨k - 1, by omega⟩
    rw [show m + 1 + 1 + 0 = m + 2 from rfl, nx]; omega
  | d + 1 => by
    have ih := nx_far c hc k hk d
    have h := hc (k + 1 + d)
    obtain ⟨m, hm⟩ : ∃ m, k + 1 + d = m + 1 := ⟨k + d, by omega⟩
    rw [show k + 1 + (d + 1) = m + 2 from by omega, nx, ← hm, Int.pow_succ, ← Int.mul_assoc]
    omega
/-- A symbol's bits, as a number, and how many. -/
def encV (l : List Int) (s : Nat) : Nat := revN (rd l (s : Int)).toNat (cod l s).toNat
theorem bitsV_enc {l : List Int} {kd : Int} (h : KRes l kd 0) (s : Nat) (hs : s < l.length) (L : Nat) (hL : rd l (s : Int) = L) (h1 : 1 ≤ L) : bitsV l s = encV l s ∧ encV l s < 2 ^ L := by
  obtain ⟨h2, h3, h4, _⟩ := cod_lt h s hs L hL h1
  obtain ⟨c, hc⟩ : ∃ c : Nat, cod l s = c := ⟨(cod l s).toNat, by omega⟩
  have e := rv_shift L c h2 (ilt (hc ▸ h4))
  unfold bitsV encV
  rw [hL, if_neg (by omega), hc, Int.toNat_natCast, Int.toNat_natCast, show (32 - (L : Int)).toNat = 32 - L from by omega, e]
  exact ⟨rfl, revN_lt _ _⟩
/-- Reading a symbol's bits. -/
theorem readK_enc {l : List Int} {kd : Int} (h : KRes l kd 0) (s : Nat) (hs : s < l.length) (L : Nat) (hL : rd l (s : Int) = L) (h1 : 1 ≤ L) (Z N p : Nat) (hp : p + L ≤ N) (hZ : Z / 2 ^ p % 2 ^ L = encV l s) :
    readA l kd Z N p = ((s : Int), 0, p + L, false) := by
  obtain ⟨h2, h3, h4, h5, h6⟩ := cod_lt h s hs L hL h1
  obtain ⟨c, hc⟩ : ∃ c : Nat, cod l s = c := ⟨(cod l s).toNat, by omega⟩
  have hcl : c < 2 ^ L := ilt (hc ▸ h4)
  have hkd : kd ≠ 2 := fun e => by subst e; exact no_empty h s hs L hL h1
  have hbit : ∀ k, k < L → bitZ Z (p + k) = ((c / 2 ^ (L - 1 - k) % 2 : Nat) : Int) := fun k hk => by
    have e : encV l s = revN L c := by unfold encV; rw [hL, hc, Int.toNat_natCast, Int.toNat_natCast]
    have := revN_bit L c k hk
    rw [← e, ← hZ, mod_bit _ _ _ hk, Nat.div_div_eq_div_mul, ← Nat.pow_add] at this
    unfold bitZ
    rw [this]
  have key : ∀ d k : Nat, k + d + 1 = L → ∀ D, k + D = 15 → readK l kd (bitZ Z) N D k ((c / 2 ^ (L - k) : Nat) : Int) (p + k) = ((s : Int), 0, p + L, false) := by
    intro d
    induction d with
    | zero =>
      intro k hk D hD
      obtain ⟨D, rfl⟩ : ∃ m, D = m + 1 := ⟨D - 1, by omega⟩
      have e1 : 2 * ((c / 2 ^ (L - k) : Nat) : Int) + ((c / 2 ^ (L - 1 - k) % 2 : Nat) : Int) = (c : Int) := by
        rw [show L - k = 1 from by omega, show L - 1 - k = 0 from by omega]; simp; omega
      rw [readK, if_neg (by omega), hbit k (by omega), e1]
      obtain rfl : L = k + 1 := by omega
      rw [hc] at h5 h6
      rw [if_pos h6]
      obtain ⟨j, g1, g2, g3, g4⟩ := sym_of l k (c : Int) h5 h6 h2
      have g5 : j = s := cnt_inj l (k + 1) j s g2 hL (by
        have h7 : cod l j = cod l s := by rw [g3, hc]
        rw [cod, cod, g2, hL, if_pos (by omega), Int.toNat_natCast] at h7
        omega)
      rw [g4, g5]
      rfl
    | succ d ih =>
      intro k hk D hD
      obtain ⟨D, rfl⟩ : ∃ m, D = m + 1 := ⟨D - 1, by omega⟩
      have e1 : 2 * ((c / 2 ^ (L - k) : Nat) : Int) + ((c / 2 ^ (L - 1 - k) % 2 : Nat) : Int) = ((c / 2 ^ (L - (k + 1)) : Nat) : Int) := by
        rw [show L - 1 - k = L - (k + 1) from by omega, show L - k = (L - (k + 1)) + 1 from by omega, Nat.pow_succ, ← Nat.div_div_eq_div_mul]
        omega
      have hmiss : ¬ (((c / 2 ^ (L - (k + 1)) : Nat) : Int) - nx (cnt l l.length) (k + 1) < cnt l l.length (k + 1)) := by
        have hf := nx_far (cnt l l.length) (fun j => (cnt_range l l.length j).1) (k + 1) (by omega) d
        rw [show k + 1 + 1 + d = L from by omega] at hf
        rw [hc] at h5
        obtain ⟨a, ha⟩ : ∃ a : Nat, nx (cnt l l.length) (k + 1) + cnt l l.length (k + 1) = a := ⟨(nx (cnt l l.length) (k + 1) + cnt l l.length (k + 1)).toNat, by
          have := nx_pos (cnt l l.length) (fun j => (cnt_range l l.length j).1) (k + 1)
          have := (cnt_range l l.length (k + 1)).1
          omega⟩
        rw [ha] at hf
        have h7 : a * 2 ^ (d + 1) ≤ c := by
          have : ((a * 2 ^ (d + 1) : Nat) : Int) ≤ (c : Int) := by
            rw [Int.natCast_mul, show ((2 ^ (d + 1) : Nat) : Int) = 2 ^ (d + 1) from by simp]; omega
          omega
        have h8 : a ≤ c / 2 ^ (L - (k + 1)) := by
          rw [show L - (k + 1) = d + 1 from by omega]
          exact (Nat.le_div_iff_mul_le (Nat.two_pow_pos _)).2 h7
        omega
      have hk1 : kd ≠ 1 := fun e => by subst e; have := lone_one h s hs L hL h1; omega
      rw [readK, if_neg (by omega), hbit k (by omega), e1, if_neg hmiss, if_neg hk1]
      exact ih (k + 1) (by omega) D (by omega)
  unfold readA
  rw [if_neg hkd]
  have h0 := key (L - 1) 0 (by omega) 15 rfl
  rw [Nat.sub_zero, Nat.div_eq_of_lt hcl] at h0
  exact h0

open XPrefixBack (montageref05_Bits.f montageref05_Bits.l0)
theorem rbits_l0 (L c : Nat) (hL : L ≤ 15) (hc : c < 2 ^ L) : ∀ (k : Nat) (out : List Int), k ≤ L → out.length = L → (∀ j, k ≤ j → j < L → rd out (j : Int) = ((c / 2 ^ (L - 1 - j) % 2 : Nat) : Int)) →
    Ev (fun q => montageref05_Bits.l0 q out ((c / 2 ^ (L - k) : Nat) : Int) ((k : Int) - 1)) (bl (revN L c) L)
  | 0, out, hk, hl, h => by
    refine Ev.step (f := fun _ => some (bl (revN L c) L)) (fun q => ?_) (Ev.now _)
    simp only [montageref05_Bits.l0]
    rw [if_neg (by omega)]
    congr 1
    apply List.ext_getElem
    · rw [hl, bl_len]
    · intro i h1 h2
      have h3 := h i (by omega) (by omega)
      unfold rd at h3
      rw [Int.toNat_natCast, List.getD_eq_getElem?_getD, List.getElem?_eq_getElem h1, Option.getD_some] at h3
      rw [h3, ← revN_bit L c i (by omega)]
      simp [bl]
  | k + 1, out, hk, hl, h => by
    have h1 : c / 2 ^ (L - (k + 1)) ≤ c := Nat.div_le_self _ _
    have h2 : 2 ^ L ≤ 2 ^ 15 := Nat.pow_le_pow_right (by decide) hL
    have e0 : ((k + 1 : Nat) : Int) - 1 = (k : Int) := by omega
    have e1 : Int.tmod ((c / 2 ^ (L - (k + 1)) : Nat) : Int) 2 % 256 = ((c / 2 ^ (L - 1 - k) % 2 : Nat) : Int) := by
      rw [show L - 1 - k = L - (k + 1) from by omega]
      generalize c / 2 ^ (L - (k + 1)) = x
      rw [Int.tmod_eq_emod_of_nonneg (by omega)]; omega
    have e2 : Int.tdiv ((c / 2 ^ (L - (k + 1)) : Nat) : Int) 2 = ((c / 2 ^ (L - k) : Nat) : Int) := by
      rw [show L - k = (L - (k + 1)) + 1 from by omega, Nat.pow_succ, ← Nat.div_div_eq_div_mul]
      generalize c / 2 ^ (L - (k + 1)) = x
      rw [Int.tdiv_eq_ediv_of_nonneg (by omega)]; omega
    have h3 : c / 2 ^ (L - k) ≤ c := Nat.div_le_self _ _
    have ih := rbits_l0 L c hL hc k (out.set k ((c / 2 ^ (L - 1 - k) % 2 : Nat) : Int)) (by omega) (by simp [hl]) (fun j hj1 hj2 => by
      by_cases e : j = k
      · subst e
        unfold rd
        rw [Int.toNat_natCast, List.getD_eq_getElem?_getD, List.getElem?_set_self (by omega), Option.getD_some]
      · rw [← h j (by omega) hj2]
        unfold rd
        rw [Int.toNat_natCast, List.getD_eq_getElem?_getD, List.getD_eq_getElem?_getD, List.getElem?_set_ne (by omega)])
    refine Ev.step (fun q => ?_) ih
    simp only [montageref05_Bits.l0]
    rw [e0, if_pos (by omega), if_pos (by omega), if_pos (by omega), e1, e2, Int.toNat_natCast, w64 (x := ((c / 2 ^ (L - k) : Nat) : Int)) (by clear e1 e2 ih; generalize c / 2 ^ (L - k) = x at *; omega) (by clear e1 e2 ih; generalize c / 2 ^ (L - k) = x at *; omega), w64 (x := (k : Int) - 1) (by clear e1 e2 ih; omega) (by clear e1 e2 ih; omega)]
/-- The document's bits of a symbol. -/
theorem rbits {l : List Int} {kd : Int} (h : KRes l kd 0) (s : Nat) (hs : s < l.length) (L : Nat) (hL : rd l (s : Int) = L) (h1 : 1 ≤ L) : Ev (fun q => montageref05_Bits.f q l (codL l) (s : Int)) (bl (encV l s) L) := by
  obtain ⟨h2, h3, h4, h5, h6⟩ := cod_lt h s hs L hL h1
  obtain ⟨c, hc⟩ : ∃ c : Nat, cod l s = c := ⟨(cod l s).toNat, by omega⟩
  have hcl : c < 2 ^ L := ilt (hc ▸ h4)
  have hlen : (codL l).length = l.length := listOf_len _ _
  have h0 := rbits_l0 L c h2 hcl L (List.replicate L 0) (Nat.le_refl _) (by simp) (fun j hj hj2 => absurd hj (by omega))
  rw [Nat.sub_self, Nat.pow_zero, Nat.div_one] at h0
  have e : encV l s = revN L c := by unfold encV; rw [hL, hc, Int.toNat_natCast, Int.toNat_natCast]
  rw [e]
  refine Ev.congr (fun q => ?_) h0
  unfold montageref05_Bits.f
  rw [if_pos (by omega), if_pos (by omega), hL, if_pos (by omega), if_pos (by omega), if_pos (by rw [hlen]; omega), codL_rd l s hs, hc, Int.toNat_natCast, w64 (by omega) (by omega)]

open XPrefixReads
/-- Symbols and their bits. -/
def Coded (l : List Int) (xs : List Int) (Z m : Nat) : Prop := ∃ off : Nat → Nat, off 0 = 0 ∧ off xs.length = m ∧ ∀ i : Nat, i < xs.length → ∃ s L : Nat, rd xs (i : Int) = s ∧ s < l.length ∧ rd l (s : Int) = L ∧ 1 ≤ L ∧ off (i + 1) = off i + L ∧ off (i + 1) ≤ m ∧ Z / 2 ^ off i % 2 ^ L = encV l s
theorem Coded.nil (l : List Int) : Coded l [] 0 0 := ⟨fun _ => 0, rfl, rfl, fun i h => absurd h (by simp)⟩
theorem Coded.add {l xs : List Int} {Z m : Nat} (h : Coded l xs Z m) (hZ : Z < 2 ^ m) (s L : Nat) (hs : s < l.length) (hL : rd l (s : Int) = L) (h1 : 1 ≤ L) (hV : encV l s < 2 ^ L) :
    Coded l (xs ++ [(s : Int)]) (Z + encV l s * 2 ^ m) (m + L) ∧ Z + encV l s * 2 ^ m < 2 ^ (m + L) := by
  obtain ⟨off, h0, hm, hi⟩ := h
  obtain ⟨o2, ho⟩ : ∃ o2 : Nat → Nat, ∀ i, o2 i = if i ≤ xs.length then off i else m + L := ⟨_, fun _ => rfl⟩
  have hA : ∀ i, i ≤ xs.length → o2 i = off i := fun i h => by rw [ho, if_pos h]
  have hB : o2 (xs.length + 1) = m + L := by rw [ho, if_neg (by omega)]
  refine ⟨⟨o2, by rw [hA 0 (by omega)]; exact h0, by rw [List.length_append, List.length_singleton]; exact hB, fun i hlt => ?_⟩, ?_⟩
  · rw [List.length_append, List.length_singleton] at hlt
    by_cases e : i = xs.length
    · subst e
      refine ⟨s, L, ?_, hs, hL, h1, by rw [hB, hA _ (Nat.le_refl _), hm], by rw [hB]; omega, ?_⟩
      · unfold rd
        rw [Int.toNat_natCast, List.getD_eq_getElem?_getD, List.getElem?_append_right (Nat.le_refl _), Nat.sub_self]
        rfl
      · rw [hA _ (Nat.le_refl _), hm, Nat.add_mul_div_right _ _ (Nat.two_pow_pos m), Nat.div_eq_of_lt hZ, Nat.zero_add, Nat.mod_eq_of_lt hV]
    · obtain ⟨s', L', g1, g2, g3, g4, g5, g6, g7⟩ := hi i (by omega)
      refine ⟨s', L', ?_, g2, g3, g4, by rw [hA _ (by omega), hA _ (by omega)]; exact g5, by rw [hA _ (by omega)]; omega, ?_⟩
      · rw [← g1]
        unfold rd
        rw [Int.toNat_natCast, List.getD_eq_getElem?_getD, List.getD_eq_getElem?_getD, List.getElem?_append_left (by omega)]
      · rw [hA _ (by omega), ← g7, show 2 ^ m = 2 ^ (m - off i - L') * 2 ^ L' * 2 ^ off i from by rw [← Nat.pow_add, ← Nat.pow_add]; congr 1; omega, ← Nat.mul_assoc, ← Nat.mul_assoc, Nat.add_mul_div_right _ _ (Nat.two_pow_pos _), Nat.add_mul_mod_self_right]
  · rw [Nat.pow_add, Nat.mul_comm (2 ^ m)]
    calc Z + encV l s * 2 ^ m < 2 ^ m + encV l s * 2 ^ m := by omega
      _ = (encV l s + 1) * 2 ^ m := by rw [Nat.add_mul, Nat.one_mul, Nat.add_comm]
      _ ≤ 2 ^ L * 2 ^ m := Nat.mul_le_mul_right _ hV
theorem IsW.grown {w0 W W1 : World} {g : Nat} {v : Value} {B : List Int} {last n : Int} (h : IsW w0 W g v B last n) {row : Option Nat} (hg : W.grownBy W1 row) (h1 : some g ≠ row) (h2 : ∀ k, v.ownBlock = some k → some k ≠ row) : IsW w0 W1 g v B last n :=
  ⟨(hg.block g (blk_lt h.1) h1).trans h.1, h.2.1, own_move h.2.2 (fun k hk => hg.block k (own_lt h.2.2 k hk) (h2 k hk))⟩
theorem want_put {W w' : World} {base gw : Nat} {vW v' v : Value} {xs : List Int} {cs : Array Value} (h : Kd.R (Kd.int .u8) 5 W base (fun k => some k ≠ vW.ownBlock) v xs) (hgw : W.heap[gw]? = some (.cells cs 66 (0, 0))) (hk : KeepBut W w' gw vW.ownBlock)
    (ha : v'.ownBlock = vW.ownBlock ∨ ∃ b, v'.ownBlock = some b ∧ W.heap.size ≤ b) : Kd.R (Kd.int .u8) 5 w' base (fun k => some k ≠ v'.ownBlock) v xs := by
  have h1 := Kd.R_types h hgw (fun q hq => by
    have : q = 5 := by simpa [Kd.int, Kd.scalar] using hq
    omega)
  have h2 := Kd.R_bound h1
  refine Kd.R_mono (Kd.R_step (w1 := w') h2 (fun k ho hlt => hk.2 k hlt ho.1.2 ho.1.1)) (fun k ho e => ?_)
  rcases ha with ha | ⟨b, ha, hb⟩
  · exact ho.1.1 (e.trans ha)
  · rw [ha] at e
    injection e with e
    have := ho.2.2.1
    omega
theorem there_put {W w' w0 : World} {base gw : Nat} {vW v : Value} {xs B : List Int} {last n : Int} (h : Kd.R (Kd.int .i64) 3 W base (fun _ => True) v xs) (hI : IsW w0 W gw vW B last n) (hk : KeepBut W w' gw vW.ownBlock) : Kd.R (Kd.int .i64) 3 w' base (fun _ => True) v xs := by
  have hq : ∀ {n : Nat} (q : Nat), q ∈ 3 :: (Kd.int .i64).E → n ≠ 3 → q ≠ n := fun q hq hn => by
    have : q = 3 := by simpa [Kd.int, Kd.scalar] using hq
    omega
  have h1 := Kd.R_types h hI.1 (fun q h => hq q h (by decide))
  have h2 := Kd.R_apart' h1 (fun k hk => own_typed hI.2.2 k hk) (fun q h => hq q h (by decide))
  exact Kd.R_mono (Kd.R_step (w1 := w') h2 (fun k ho hlt => hk.2 k hlt ho.1.2 ho.2)) (fun _ _ => trivial)
theorem inv_last {B : List Int} {last n Z : Int} {t : Nat} (h : Inv B last n Z t) : 0 ≤ last ∧ last < 256 := by
  obtain ⟨h0, h1, h2, h3, _⟩ := h
  have h7 : (2 : Nat) ^ n.toNat ≤ 2 ^ 7 := Nat.pow_le_pow_right (by omega) (by omega)
  have : ((2 ^ n.toNat : Nat) : Int) ≤ ((2 ^ 7 : Nat) : Int) := by omega
  have h8 : (2 : Int) ^ n.toNat ≤ 2 ^ 7 := by simpa using this
  omega
theorem inv_nums {B : List Int} {last n Z : Int} {t : Nat} (h : Inv B last n Z t) : 0 ≤ n ∧ n < 8 ∧ 8 * B.length ≤ t := by
  obtain ⟨h0, h1, h2, h3, h4, h5, _⟩ := h
  omega
theorem i64_ne {n : Nat} (hn : n ≠ 3) : ∀ q, q ∈ 3 :: (Kd.int .i64).E → q ≠ n := fun q hq => by
  have : q = 3 := by simpa [Kd.int, Kd.scalar] using hq
  omega
theorem u8_ne {n : Nat} (hn : n ≠ 5) : ∀ q, q ∈ 5 :: (Kd.int .u8).E → q ≠ n := fun q hq => by
  have : q = 5 := by simpa [Kd.int, Kd.scalar] using hq
  omega
theorem own_apart {w : World} {base n : Nat} {v u : Value} {xs : List Value} (h : w.ownsRow base 5 1 v n xs) (hu : ∀ k, u.ownBlock = some k → ∃ cells, w.heap[k]? = some (.cells cells 3 (0, 0))) (k : Nat) (hk : v.ownBlock = some k) : some k ≠ u.ownBlock := fun e => by
  obtain ⟨c1, h1⟩ := own_typed h k hk
  obtain ⟨c2, h2⟩ := hu k e.symm
  rw [h1] at h2
  injection h2 with h2
  injection h2 with _ h2
  exact absurd h2 (by decide)
theorem cellC {w w' : World} {ad : Addr} {n : Nat} {l : List Int} (h : Kd.C (Kd.int .i64) w (some ad) n l) (hb : Below w.heap.size w w') (j : Nat) (hj : j < n) {L : Int} (hL : rd l (j : Int) = L) : w'.cell? (ad.add j) = some (.int .i64 L) := by
  obtain ⟨a, ea, hx⟩ := Kd.at_int (Kd.C_below h hb) (j : Int) (by omega) (by omega)
  cases ea
  rw [hL, Int.toNat_natCast] at hx
  exact hx
theorem enc_put {l : List Int} {kd : Int} (h : KRes l kd 0) (s : Int) (hno : atN l s ≠ 0) : ∃ (j L : Nat), s = j ∧ j < l.length ∧ rd l (j : Int) = L ∧ 1 ≤ L ∧ L ≤ 15 ∧ atN l s = L ∧ atV l s = encV l j ∧ encV l j < 2 ^ L ∧ encV l j < 32768 := by
  have hin : 0 ≤ s ∧ s < l.length := by
    by_cases h1 : 0 ≤ s ∧ s < l.length
    · exact h1
    · exact absurd (show atN l s = 0 from if_neg h1) hno
  obtain ⟨j, rfl⟩ : ∃ j : Nat, s = j := ⟨s.toNat, by omega⟩
  have ok := h.okl.2 j (by omega)
  have e1 : atN l j = rd l (j : Int) := if_pos hin
  obtain ⟨L, hL⟩ : ∃ L : Nat, rd l (j : Int) = L := ⟨(rd l (j : Int)).toNat, by omega⟩
  have h1 : 1 ≤ L := by
    have : rd l (j : Int) ≠ 0 := fun e => hno (e1.trans e)
    omega
  obtain ⟨g1, g2⟩ := bitsV_enc h j (by omega) L hL h1
  have h15 : L ≤ 15 := by omega
  have h16 : 2 ^ L ≤ 2 ^ 15 := Nat.pow_le_pow_right (by decide) h15
  exact ⟨j, L, rfl, by omega, hL, h1, h15, e1.trans hL, (if_pos hin : atV l j = bitsV l (j : Int).toNat).trans g1, g2, by omega⟩
theorem read_nil (gr : Nat) (w : World) :
    Calls Try.prog 17 #[.pointer none, .pointer (some ⟨gr, 0, none⟩)] w fun e w' => e = .returned (.tuple #[.int .i64 0, .int .i64 1]) ∧ w = w' := by
  go_enter Try.func17, Try.ntmps17
  go_wp2
  go_ret2
  exact ⟨rfl, rfl⟩
set_option maxHeartbeats 800000 in
set_option maxRecDepth 100000 in
theorem at_nil (s : Int) (w : World) :
    Calls Try.prog 28 #[.pointer none, .int .i64 s] w fun e w' => e = .returned (.agg #[.int .u32 0, .int .i64 0]) ∧ Below w.heap.size w w' := by
  go_enter Try.func28, Try.ntmps28
  go_wp2_with (first | ((with_reducible refine gate_dst (N := 4) rfl ?_); refine box_event rfl (N := 4) rfl (cs := #[.int .u32 0, .int .i64 0]) (t := 63) (by first | kernel_rfl | (go_simp; done) | (go_simp; rfl)) ?_; intro g4 hg w2 hblk hb; have G4 := Aside0.mk (Nat.le_of_eq hg.symm); have BK4 := Aside0.mk hblk; have HB2 := Aside0.mk hb; have z0 := blk_cell hblk 0; have z1 := blk_cell hblk 1; have y0 := blk_frozen hblk 0; have y1 := blk_frozen hblk 1; clear hg hblk hb))
  exact bodyPost_ret (results_cell_row rfl _ _ g4 63 #[.int .u32 0, .int .i64 0] (0, 0) _ rfl (by refine blk_put (cs := #[.int .u32 0, .int .i64 0]) ?_ 1 _ rfl; refine blk_put (cs := #[.int .u32 0, .int .i64 0]) ?_ 0 _ rfl; exact BK4.out) Try.underlying63 rfl (by kernel_rfl)) rfl ⟨rfl, below_set (below_set HB2.out G4.out) G4.out⟩
set_option maxHeartbeats 800000 in
set_option maxRecDepth 100000 in
theorem bits_nil (s : Int) (w : World) :
    Calls Try.prog 12 #[.pointer none, .int .i64 s] w fun e w' => e = .returned (.int .i64 0) ∧ Below w.heap.size w w' := by
  have hfd : ∀ (z0 z1 : Value) (W : World), (Instr.field 63 (.agg #[z0, z1]) 1).run Try.prog W = .ok z1 W := fun z0 z1 W => by kernel_rfl
  go_enter Try.func12, Try.ntmps12
  go_wp2_with fail
  refine (at_nil s _).mono ?_
  rintro e w' ⟨rfl, hB⟩
  have HB := Aside0.mk hB
  clear hB
  go_wp2
  go_ret
  exact ⟨rfl, HB.out⟩
set_option maxHeartbeats 800000 in
set_option maxRecDepth 100000 in
theorem write_nil (gw : Nat) (s : Int) (w : World) :
    Calls Try.prog 11 #[.pointer none, .pointer (some ⟨gw, 0, none⟩), .int .i64 s] w fun e w' => e = .returned (.int .i64 1) ∧ Below w.heap.size w w' := by
  go_enter Try.func11, Try.ntmps11
  go_wp2_with fail
  refine (at_nil s _).mono ?_
  rintro e w1 ⟨rfl, hB⟩
  have HB := Aside0.mk hB
  clear hB
  have e0 : ((0 : Int) == 0) = true := rfl
  go_wp2_with (first | ((with_reducible refine gate_dst (N := 7) rfl ?_); refine box_event rfl (N := 7) rfl (cs := #[.int .u32 0, .int .i64 0]) (t := 63) (by first | kernel_rfl | (go_simp; done) | (go_simp; rfl)) ?_; intro g4 hg w2 hblk hb; have G4 := Aside0.mk (show w.heap.size ≤ g4 by have := below_size HB.out; omega); have BK4 := Aside0.mk hblk; have HB2 := Aside0.mk (below_step HB.out hb); have z0 := blk_cell hblk 0; have z1 := blk_cell hblk 1; have y0 := blk_frozen hblk 0; have y1 := blk_frozen hblk 1; clear hg hblk hb))
  go_ret
  exact ⟨rfl, below_set (below_set HB2.out G4.out) G4.out⟩

set_option maxHeartbeats 1600000 in
set_option maxRecDepth 100000 in
theorem prefixBack_walk (A0 : Option Addr) (c0 : Nat) (l : List Int) (A1 : Option Addr) (c1 : Nat) (ss : List Int) (w : World) (hr0 : Kd.C (Kd.int .i64) w A0 l.length l) (hc0 : l.length ≤ c0) (hm0 : l.length ≤ maxLen) (y0 : l.length * 8 ≤ 140737488351232) (g0 : ∀ x ∈ l, (Lit.int .i64 x).wf = true)
    (hr1 : Kd.C (Kd.int .i64) w A1 ss.length ss) (hc1 : ss.length ≤ c1) (hm1 : ss.length ≤ maxLen) (y1 : ss.length * 8 ≤ 140737488351232) (g1 : ∀ x ∈ ss, (Lit.int .i64 x).wf = true) :
    Calls Try.prog 3 #[.slice A0 l.length c0, .slice A1 ss.length c1] w fun e w' => e = .returned (.bool true) ∧ Below w.heap.size w w' := by
  have HR0 := Aside0.mk hr0
  have HC0 := Aside0.mk hc0
  have HR1 := Aside0.mk hr1
  have HC1 := Aside0.mk hc1
  clear hr0 hc0 hm0 y0 g0 hr1 hc1 hm1 y1 g1
  by_cases hbig : 60 < l.length ∨ 60 < ss.length
  · go_enter Try.func3, Try.ntmps3
    have HBig := Aside0.mk hbig
    clear hbig
    go_wp2_with fail
    refine (awake_calls _).mono ?_
    rintro e w1 ⟨rfl, hb⟩
    have HB := Aside0.mk hb
    clear hb
    by_cases h2 : 60 < l.length
    · have d2 : decide (60 < l.length) = true := decide_eq_true h2
      have d3 : decide (60 < (l.length : Int)) = true := decide_eq_true (by omega)
      go_wp2
      go_ret
      exact ⟨rfl, HB.out⟩
    · have d2 : decide (60 < l.length) = false := decide_eq_false h2
      have d3 : decide (60 < (l.length : Int)) = false := decide_eq_false (by omega)
      have h : 60 < ss.length := by have := HBig.out; omega
      have d0 : decide (60 < ss.length) = true := decide_eq_true h
      have d1 : decide (60 < (ss.length : Int)) = true := decide_eq_true (by omega)
      go_wp2
      go_ret
      exact ⟨rfl, HB.out⟩
  · have d0 : decide (60 < l.length) = false := decide_eq_false (by omega)
    have d1 : decide (60 < (l.length : Int)) = false := decide_eq_false (by omega)
    have d2 : decide (60 < ss.length) = false := decide_eq_false (by omega)
    have d3 : decide (60 < (ss.length : Int)) = false := decide_eq_false (by omega)
    obtain ⟨k, er, hK⟩ := KRes.some l
    obtain ⟨q1, hq1⟩ := (check_same l k er hK).rounds
    have HK := Aside0.mk hK
    have HQ1 := Aside0.mk hq1
    have HL := Aside0.mk hbig
    clear hK hq1 hbig
    go_enter Try.func3, Try.ntmps3
    go_wp2_with fail
    refine (awake_calls _).mono ?_
    rintro e w1 ⟨rfl, hb⟩
    have B1 := Aside0.mk hb
    have R1 := Aside0.mk (Kd.C_below HR0.out hb)
    clear hb
    go_wp2_with fail
    refine (montageref05_Check.calls q1 A0 c0 l k er _ R1.out HC0.out HQ1.out).mono ?_
    rintro e w2 ⟨rfl, hd2⟩
    obtain ⟨m2, rfl⟩ := hd2
    have B2 := Aside0.mk (pw_below_drewN B1.out m2)
    have R2 := Aside0.mk (Kd.C_below HR0.out B2.out)
    clear B1 R1
    by_cases her : er = 0
    · subst her
      go_wp2_with fail
      refine (new_calls A0 c0 l _ R2.out).mono ?_
      rintro e w3 ⟨k2, er2, hK2, hb, hres⟩
      obtain ⟨rfl, rfl⟩ := HK.out.same hK2
      rcases hres with ⟨h, _⟩ | ⟨_, g, rfl, hT⟩
      · exact absurd rfl h
      have T3 := Aside0.mk hT
      have B3 := Aside0.mk (below_step B2.out hb)
      have R3 := Aside0.mk (Kd.C_below HR0.out B3.out)
      clear hb hK2 hT B2 R2
      obtain ⟨base, hbase⟩ : ∃ b, (w1.drewN m2).heap.size = b := ⟨_, rfl⟩
      rw [hbase] at T3
      clear hbase
      obtain ⟨q2, hq2⟩ := (codes_same l HK.out.okl).rounds
      have HQ2 := Aside0.mk hq2
      clear hq2
      go_wp2_with fail
      refine (montageref05_Codes.calls q2 A0 c0 l (codL l) _ R3.out HC0.out HQ2.out).mono ?_
      rintro e w4 ⟨v4, rfl, hR4, hb⟩
      obtain ⟨Ac, cc, rfl⟩ := Kd.R_slice hR4
      obtain ⟨b4, hb4⟩ : ∃ b, w3.heap.size = b := ⟨_, rfl⟩
      rw [hb4] at hR4
      have B4 := Aside0.mk (below_step B3.out hb)
      have T4 := Aside0.mk (T3.out.below hb)
      have O4 := Aside0.mk hR4
      have C4 := Aside0.mk (Kd.C_below HR0.out B4.out)
      have D4 := Aside0.mk (Kd.C_below HR1.out B4.out)
      clear hb hR4 hb4 B3 T3 R3 HR0 HR1 HQ1 HQ2
      go_wp2_with fail
      refine (new_walk w4 w4 (Below.refl _ _)).mono ?_
      rintro e w5 ⟨gw, rfl, hI, _, hb⟩
      have I5 := Aside0.mk hI
      have B5 := Aside0.mk hb
      clear hI hb
      go_wp2
      go_loopw [11, 12, 51] (fun v11 v12 v51 wr => ∃ (i : Nat) (xs : List Int) (Z m : Nat) (vW : Value) (B : List Int) (last n : Int), v51 = .int .i64 (i : Int) ∧ i ≤ ss.length ∧ Aside0 (IsW w4 wr gw vW B last n) ∧ Aside0 (Inv B last n (Z : Int) m ∧ Z < 2 ^ m ∧ Coded l xs Z m ∧ m ≤ 15 * i ∧ xs.length ≤ i) ∧ Aside0 (Below w4.heap.size w4 wr) ∧ Aside0 (Kd.R (Kd.int .u8) 5 wr w4.heap.size (fun k => some k ≠ vW.ownBlock) v11 (bl Z m)) ∧ Aside0 (Kd.R (Kd.int .i64) 3 wr w4.heap.size (fun _ => True) v12 xs)) (fun _ _ v51 _ => ss.length + 1 - (intOf v51).toNat)
      case atStart => exact ⟨0, [], 0, 0, .slice none 0 0, [], 0, 0, rfl, by omega, I5, ⟨⟨by omega, by omega, by omega, by decide, by decide, rfl, fun b hb => by simp at hb⟩, by decide, Coded.nil l, by omega, by simp⟩, B5, ⟨Kd.R_nil _ _ _ _ _⟩, ⟨Kd.R_nil _ _ _ _ _⟩⟩
      case round =>
        clear I5 B5
        obtain ⟨i, xs, Z, m, vW, B, last, n, rfl, hi, I5, F5, B5, W5, X5⟩ := hrel
        have hss : ss.length ≤ 60 := by have := HL.out; omega
        by_cases hlt : i < ss.length
        · have dl : decide ((i : Int) < (ss.length : Int)) = true := decide_eq_true (by omega)
          have dl2 : decide (i < ss.length) = true := decide_eq_true hlt
          have p1 : 0 ≤ (i : Int) := by omega
          have q1 : (i : Int) < (ss.length : Int) := by omega
          have DW := Aside0.mk (Kd.C_below D4.out B5.out)
          obtain ⟨ad1, e1, hx1⟩ := Kd.at_int DW.out (i : Int) p1 q1
          cases e1
          obtain ⟨s, hs⟩ : ∃ s, rd ss (i : Int) = s := ⟨_, rfl⟩
          rw [hs, Int.toNat_natCast] at hx1
          clear hs
          obtain ⟨A11, c11, rfl⟩ := Kd.R_slice W5.out
          obtain ⟨A12, c12, rfl⟩ := Kd.R_slice X5.out
          by_cases hno : atN l s = 0
          · go_wp2_with fail
            refine (write_none base g gw l k s _ (T4.out.below B5.out) hno).mono ?_
            rintro e w6 ⟨rfl, hb⟩
            have I6 := Aside0.mk (I5.out.below hb)
            have B6 := Aside0.mk (below_step B5.out hb)
            have W6 := Aside0.mk (Kd.R_below W5.out hb)
            have X6 := Aside0.mk (Kd.R_below X5.out hb)
            have C6 := Aside0.mk (Kd.C_below C4.out B6.out)
            clear hb I5 B5 W5 X5 DW
            have HB12 : Calls Try.prog 12 #[.pointer (some ⟨g, 0, none⟩), .int .i64 s] w6 fun e w' => e = .returned (.int .i64 0) ∧ Below w6.heap.size w6 w' := by
              have := bits_calls base g l k s w6 (T4.out.below B6.out)
              rw [hno] at this
              exact this
            have HC12 := Aside0.mk HB12
            have HNO := Aside0.mk hno
            clear HB12 hno
            by_cases h1 : s < 0
            · have g1 : decide (s < 0) = true := decide_eq_true h1
              go_wp2_with fail
              refine HC12.out.mono ?_
              rintro e w7 ⟨rfl, hb⟩
              have I7 := Aside0.mk (I6.out.below hb)
              have B7 := Aside0.mk (below_step B6.out hb)
              have W7 := Aside0.mk (Kd.R_below W6.out hb)
              have X7 := Aside0.mk (Kd.R_below X6.out hb)
              clear hb
              go_wp2
              go_roundw
              case rel => exact ⟨i + 1, xs, Z, m, vW, B, last, n, by go_num, by omega, I7, ⟨F5.out.1, F5.out.2.1, F5.out.2.2.1, by have := F5.out; omega, by have := F5.out; omega⟩, B7, W7, X7⟩
              case measure => simp [intOf]; omega
            · have g1 : decide (s < 0) = false := decide_eq_false h1
              by_cases h2 : (l.length : Int) ≤ s
              · have g2 : decide ((l.length : Int) ≤ s) = true := decide_eq_true h2
                go_wp2_with fail
                refine HC12.out.mono ?_
                rintro e w7 ⟨rfl, hb⟩
                have I7 := Aside0.mk (I6.out.below hb)
                have B7 := Aside0.mk (below_step B6.out hb)
                have W7 := Aside0.mk (Kd.R_below W6.out hb)
                have X7 := Aside0.mk (Kd.R_below X6.out hb)
                clear hb
                go_wp2
                go_roundw
                case rel => exact ⟨i + 1, xs, Z, m, vW, B, last, n, by go_num, by omega, I7, ⟨F5.out.1, F5.out.2.1, F5.out.2.2.1, by have := F5.out; omega, by have := F5.out; omega⟩, B7, W7, X7⟩
                case measure => simp [intOf]; omega
              · have g2 : decide ((l.length : Int) ≤ s) = false := decide_eq_false h2
                have h0 : rd l s = 0 := by have := HNO.out; rwa [atN, if_pos ⟨by omega, by omega⟩] at this
                have p2 : 0 ≤ s := by omega
                have q2 : s < (l.length : Int) := by omega
                obtain ⟨ad2, e2, hx2⟩ := Kd.at_int C6.out s p2 q2
                cases e2
                rw [h0] at hx2
                have e0 : ((0 : Int) == 0) = true := rfl
                clear h0 h1 h2
                go_wp2_with fail
                refine HC12.out.mono ?_
                rintro e w7 ⟨rfl, hb⟩
                have I7 := Aside0.mk (I6.out.below hb)
                have B7 := Aside0.mk (below_step B6.out hb)
                have W7 := Aside0.mk (Kd.R_below W6.out hb)
                have X7 := Aside0.mk (Kd.R_below X6.out hb)
                clear hb
                go_wp2
                go_roundw
                case rel => exact ⟨i + 1, xs, Z, m, vW, B, last, n, by go_num, by omega, I7, ⟨F5.out.1, F5.out.2.1, F5.out.2.2.1, by have := F5.out; omega, by have := F5.out; omega⟩, B7, W7, X7⟩
                case measure => simp [intOf]; omega
          · obtain ⟨j, L, rfl, hj, hL, h1, h15, hN, hV, hV1, hV2⟩ := enc_put HK.out s hno
            have INV := F5.out.1
            have h5 := INV
            obtain ⟨hn0, hn8, _, _, _, hlen, _⟩ := h5
            obtain ⟨p1', p2', p3', p4'⟩ := put_inv B last n (Z : Int) m (encV l j : Int) L INV (by omega) (by omega) (by omega)
            have HP4 := Aside0.mk p4'
            have hB15 : B.length ≤ 1000000000 := by have := F5.out.2.2.2.1; omega
            have HWS := Aside0.mk (write_some base g gw l k (j : Int) (encV l j : Int) (L : Int) vW B last n (last + ((encV l j : Int) % 2 ^ L) * 2 ^ n.toNat) w4 wr (T4.out.below B5.out) I5.out B5.out hV hN (by omega) (by omega) hn0 hn8 p1' (by omega) (by omega) p2' p3' hB15)
            have HJ := Aside0.mk hj
            have HLL := Aside0.mk hL
            have HV1 := Aside0.mk hV1
            have HN := Aside0.mk hN
            clear p1' p2' p3' p4' INV hlen hV hN hV1 hV2 hno
            go_wp2_with fail
            refine HWS.out.mono ?_
            rintro e w6 ⟨rfl, W2, hb, v6, hI, hb6, hk, ha⟩
            obtain ⟨B', hB'⟩ : ∃ z, (fl 5 B (last + ((encV l j : Int) % 2 ^ L) * 2 ^ n.toNat) (n + (L : Int))) = z := ⟨_, rfl⟩
            rw [hB'] at hI HP4
            have I6 := Aside0.mk hI
            have B6 := Aside0.mk hb6
            have W6 := Aside0.mk (want_put (Kd.R_below W5.out hb) (blk_below I5.out.1 hb) hk ha)
            have X6 := Aside0.mk (there_put (Kd.R_below X5.out hb) (I5.out.below hb) hk)
            have C6 := Aside0.mk (Kd.C_below C4.out B6.out)
            clear hb hI hb6 hk ha I5 B5 W5 X5 DW HWS hB'
            have g1 : decide ((j : Int) < 0) = false := decide_eq_false (by omega)
            have g2 : decide ((l.length : Int) ≤ (j : Int)) = false := decide_eq_false (by omega)
            have g2b : decide (l.length ≤ j) = false := decide_eq_false (by omega)
            have p2 : 0 ≤ (j : Int) := by omega
            have q2 : (j : Int) < (l.length : Int) := by omega
            obtain ⟨ad2, e2, hx2⟩ := Kd.at_int C6.out (j : Int) p2 q2
            cases e2
            rw [hL, Int.toNat_natCast] at hx2
            have e0 : ((L : Int) == 0) = false := beq_eq_false_iff_ne.mpr (by omega)
            have e1 : ((L : Int) == (L : Int)) = true := beq_self_eq_true _
            have e1' : ((L : Int) != (L : Int)) = false := bne_self_eq_false _
            clear hL hj
            go_wp2
            go_region_held3 (fun W => W.cell? (ad2.add j) = some (.int .i64 (L : Int))) (first | go_keep | assumption)
              ((go_at_call 12; refine (bits_calls base g l k (j : Int) _ (T4.out.below (by first | exact B6.out | exact below_drew1 B6.out | exact pw_below_drewN B6.out _))).mono ?_; rw [HN.out]; rintro e w7 ⟨rfl, hb⟩; have k7 : w7.cell? (ad2.add j) = some (.int .i64 (L : Int)) := cellC (Kd.C_drew C6.out) hb j HJ.out HLL.out; have HB7 := Aside0.mk (below_step (below_drew1 (Below.refl w6.heap.size w6)) hb); clear hb))
            have I7 := Aside0.mk (I6.out.below HB7.out)
            have B7 := Aside0.mk (below_step B6.out HB7.out)
            have W7 := Aside0.mk (Kd.R_below W6.out HB7.out)
            have X7 := Aside0.mk (Kd.R_below X6.out HB7.out)
            have C7 := Aside0.mk (Kd.C_below C6.out HB7.out)
            obtain ⟨q6, hq6⟩ := (rbits HK.out j HJ.out L HLL.out (by omega)).rounds
            have HQ6 := Aside0.mk hq6
            clear hq6 k7 hx2 I6 B6 W6 X6 C6 HB7
            go_wp2_with fail
            refine (XPrefixBack.montageref05_Bits.calls q6 (some ad2) c0 l Ac cc (codL l) (j : Int) (bl (encV l j) L) _ C7.out HC0.out (Kd.R_reads' (Kd.R_below O4.out B7.out)).2.2 (Kd.R_reads' (Kd.R_below O4.out B7.out)).2.1 HQ6.out).mono ?_
            rintro e w8 ⟨v8, rfl, hR, hb⟩
            obtain ⟨A8, c8, rfl⟩ := Kd.R_slice hR
            have I8 := Aside0.mk (I7.out.below hb)
            have B8 := Aside0.mk (below_step B7.out hb)
            have W8 := Aside0.mk (Kd.R_below W7.out hb)
            have X8 := Aside0.mk (Kd.R_below X7.out hb)
            have R8 := Aside0.mk hR
            clear hb hR I7 B7 W7 X7 C7
            have HF := Aside0.mk (show ∀ k, w8.heap.size ≤ k → some k ≠ v6.ownBlock from fun k hk e => by have := own_lt I8.out.2.2 k e.symm; omega)
            go_wp2_with (first | ((with_reducible refine gate_builtin (b := .append) (xs := #[.tmp 94, .tmp 98]) rfl ?_); at_builtin; refine Kd.R_append_rows (Kd.int .u8) (Rr := (Kd.int .u8).K w8) (w0 := w4) w4.heap.size rfl (.tmp 94) (.tmp 98) 33 5 (.int .u8 0) 1 rfl Try.underlying33 info5 rfl (by decide) (by omega) (.slice A11 (bl Z m).length c11) (bl Z m) (bl (encV l j) L) A8 (bl (encV l j) L).length c8 (fun k => some k ≠ v6.ownBlock) (fun _ => False) rfl rfl W8.out (Kd.R_reads' R8.out).2.2 (fun _ _ h => h) (fun _ h => h.elim) HF.out B8.out (below_size B8.out) (by rw [bl_len, bl_len]; have := F5.out.2.2.2.1; omega) ?_; intro v9 w9 ho hb hg hat; have W9 := Aside0.mk ho; have B9 := Aside0.mk hb; have I9 := Aside0.mk (IsW.grown I8.out hg (Kd.R_ne W8.out I8.out.1 (by decide)) (fun k hk e => W8.out.1 k e.symm hk.symm)); have X9 := Aside0.mk (Kd.R_over X8.out W8.out (i64_ne (by decide)) hg); clear ho hb hg hat) | ((with_reducible refine gate_builtin (b := .append) (xs := #[.tmp 100, .tmp 102]) rfl ?_); at_builtin; refine Kd.R_append (Kd.int .i64) (w0 := w4) w4.heap.size rfl (.tmp 100) (.tmp 102) 22 3 (.int .i64 0) 8 rfl Try.underlying22 info3 rfl (by decide) (by omega) (.slice A12 xs.length c12) xs (j : Int) [.int .i64 (j : Int)] (fun _ => True) (fun _ => False) rfl rfl rfl (fun _ h => h.elim) (fun _ _ => trivial) X9.out B9.out (below_size B9.out) (by have := F5.out.2.2.2.2; omega) ?_; intro v10 w10 ho hb hg hat; have X10 := Aside0.mk ho; have B10 := Aside0.mk hb; have I10 := Aside0.mk (IsW.grown I9.out hg (Kd.R_ne X9.out I9.out.1 (by decide)) (fun k hk e => own_apart I9.out.2.2 (Kd.R_typed X9.out) k hk e)); have W10 := Aside0.mk (Kd.R_over W9.out X9.out (u8_ne (by decide)) hg); clear ho hb hg hat))
            have e3 : encV l j % 2 ^ L = encV l j := Nat.mod_eq_of_lt HV1.out
            have e4 : (Z : Int) + ((encV l j : Int) % 2 ^ L) * 2 ^ m = ((Z + encV l j * 2 ^ m : Nat) : Int) := by
              rw [show (encV l j : Int) % 2 ^ L = ((encV l j % 2 ^ L : Nat) : Int) from by simp, e3]; simp
            have hap := bl_app Z m (encV l j) L F5.out.2.1
            rw [e3] at hap
            rw [hap] at W10
            rw [e4] at HP4
            have HC := Aside0.mk (F5.out.2.2.1.add F5.out.2.1 j L HJ.out HLL.out (by omega) HV1.out)
            clear e3 e4 hap W9 B9 I9 X9 W8 X8 I8 B8 R8
            go_roundw
            case rel => exact ⟨i + 1, xs ++ [(j : Int)], Z + encV l j * 2 ^ m, m + L, v6, B'.1, B'.2.1, B'.2.2, by go_num, by omega, I10, ⟨HP4.out, HC.out.2, HC.out.1, by have := F5.out; omega, by rw [List.length_append, List.length_singleton]; have := F5.out; omega⟩, B10, W10, X10⟩
            case measure => simp [intOf]; omega
        · have dl : decide ((i : Int) < (ss.length : Int)) = false := decide_eq_false (by omega)
          have dl2 : decide (i < ss.length) = false := decide_eq_false hlt
          obtain ⟨A11, c11, rfl⟩ := Kd.R_slice W5.out
          obtain ⟨A12, c12, rfl⟩ := Kd.R_slice X5.out
          have hil := inv_last F5.out.1
          have hin := inv_nums F5.out.1
          have hm15 := F5.out.2.2.2.1
          have HTW := Aside0.mk (fun (W : World) (hI : IsW w4 W gw vW B last n) => text_walk gw vW B last n w4 W hI hin.1 hin.2.1 hil.1 hil.2 (by omega))
          have hTI := text_is B last n Z m F5.out.1
          obtain ⟨q7, hq7⟩ := (rtext_is Z m (by omega) F5.out.2.1).rounds
          have hTR := text_reads B last n Z m F5.out.1
          rw [hTI] at HTW hTR
          obtain ⟨S, hS⟩ : ∃ S, strOfNums (by8 Z ((m + 7) / 8)) = S := ⟨_, rfl⟩
          rw [hS] at HTW hTR hq7
          have HTR := Aside0.mk hTR
          have HQ7 := Aside0.mk hq7
          clear hil hin hTI hTR hq7 hS hlt
          go_wp2_with fail
          refine (HTW.out _ I5.out).mono ?_
          rintro e w6 ⟨rfl, hb⟩
          have I6 := Aside0.mk (I5.out.below hb)
          have B6 := Aside0.mk (below_step B5.out hb)
          have W6 := Aside0.mk (Kd.R_below W5.out hb)
          have X6 := Aside0.mk (Kd.R_below X5.out hb)
          clear hb I5 B5 W5 X5
          go_wp2_with fail
          refine (XPrefixBack.montageref01_Text.calls q7 A11 c11 (bl Z m) S _ (Kd.R_reads' W6.out).2.2 (Kd.R_reads' W6.out).2.1 HQ7.out).mono ?_
          rintro e w7 ⟨rfl, hb⟩
          have I7 := Aside0.mk (I6.out.below hb)
          have B7 := Aside0.mk (below_step B6.out hb)
          have X7 := Aside0.mk (Kd.R_below X6.out hb)
          clear hb I6 B6 W6 X6
          go_wp2_with fail
          refine (HTW.out _ I7.out).mono ?_
          rintro e w8 ⟨rfl, hb⟩
          have I8 := Aside0.mk (I7.out.below hb)
          have B8 := Aside0.mk (below_step B7.out hb)
          have X8 := Aside0.mk (Kd.R_below X7.out hb)
          clear hb I7 B7 X7
          go_wp2_with fail
          refine (bits_NewReader.calls S S 0 false w4 w8 B8.out rfl).mono ?_
          rintro e w9 ⟨gr, rfl, hI, hb, hb2⟩
          have J9 := Aside0.mk hI
          have B9 := Aside0.mk hb
          have X9 := Aside0.mk (Kd.R_below X8.out hb2)
          clear hI hb hb2 I8 B8 X8 HTW HQ7
          obtain ⟨off, ho0, hom, hoff⟩ := F5.out.2.2.1
          have HO0 := Aside0.mk ho0
          have HOF := Aside0.mk hoff
          have hxl : xs.length ≤ 60 := by have := F5.out.2.2.2.2; omega
          clear hoff
          go_wp2
          go_loopw [119] (fun v119 wr => ∃ i : Nat, v119 = .int .i64 (i : Int) ∧ i ≤ xs.length ∧ Aside0 (IsS70 w4 wr gr S ((off i : Nat) : Int) false) ∧ Aside0 (Below w4.heap.size w4 wr) ∧ Aside0 (Kd.R (Kd.int .i64) 3 wr w4.heap.size (fun _ => True) (.slice A12 xs.length c12) xs)) (fun v119 _ => xs.length + 1 - (intOf v119).toNat)
          case atStart => exact ⟨0, rfl, by omega, by rw [ho0]; exact J9, B9, X9⟩
          case round =>
            clear J9 B9 X9 ho0 hom
            obtain ⟨i2, rfl, hi2, J9, B9, X9⟩ := hrel
            by_cases hlt : i2 < xs.length
            · have dm : decide ((i2 : Int) < (xs.length : Int)) = true := decide_eq_true (by omega)
              have dm2 : decide (i2 < xs.length) = true := decide_eq_true hlt
              have p1 : 0 ≤ (i2 : Int) := by omega
              have q1 : (i2 : Int) < (xs.length : Int) := by omega
              obtain ⟨ad1, e1, hx1⟩ := Kd.at_int (Kd.R_reads' X9.out).2.2 (i2 : Int) p1 q1
              cases e1
              obtain ⟨s, L, g1, g2, g3, g4, g5, g6, g7⟩ := HOF.out i2 hlt
              rw [g1, Int.toNat_natCast] at hx1
              have htr := HTR.out
              have hrd := readK_enc HK.out s g2 L g3 g4 Z (8 * S.size) (off i2) (by omega) g7
              have hcl := read_all base g gr l k (off i2) Z S w4 wr (T4.out.below B9.out) J9.out B9.out (by omega) (by omega) (by have := HL.out; omega) htr.2.2
              rw [hrd, ← g5] at hcl
              have HCL := Aside0.mk hcl
              have e2 : ((s : Int) == (s : Int)) = true := beq_self_eq_true _
              have e3 : ((s : Int) != (s : Int)) = false := bne_self_eq_false _
              clear hcl hrd htr g1 g2 g3 g4 g5 g6 g7 hlt
              go_wp2_with fail
              refine HCL.out.mono ?_
              rintro e w10 ⟨rfl, hI, hb, hk⟩
              have J10 := Aside0.mk hI
              have B10 := Aside0.mk hb
              have X10 := Aside0.mk (Kd.R_mono (Kd.R_keep (Kd.R_far1 X9.out rfl (Kd.R_ne X9.out J9.out.1 (by decide))) hk (fun k hk => hk.2)) (fun _ _ => trivial))
              clear hI hb hk HCL J9 B9 X9
              go_wp2
              go_roundw
              case rel => exact ⟨i2 + 1, by go_num, by omega, J10, B10, X10⟩
              case measure => simp [intOf]; omega
            · have dm : decide ((i2 : Int) < (xs.length : Int)) = false := decide_eq_false (by omega)
              have dm2 : decide (i2 < xs.length) = false := decide_eq_false hlt
              go_wp2_with fail
              refine (read_nil gr _).mono ?_
              rintro e w10 ⟨rfl, rfl⟩
              go_wp2_with fail
              refine (write_nil gw 0 _).mono ?_
              rintro e w11 ⟨rfl, hb⟩
              have B11 := Aside0.mk (below_step B9.out hb)
              clear hb
              go_wp2_with fail
              refine (bits_nil 0 _).mono ?_
              rintro e w12 ⟨rfl, hb⟩
              have B12 := Aside0.mk (below_step B11.out hb)
              clear hb
              go_wp2
              go_ret
              exact ⟨rfl, below_step B4.out B12.out⟩
    · have f0 : (er == 0) = false := beq_eq_false_iff_ne.mpr her
      have f1 : (er != 0) = true := bne_iff_ne.mpr her
      go_wp2
      go_ret
      exact ⟨rfl, B2.out⟩

end Go.Proofs.Ytiemjhoadobigaa.XPrefix
