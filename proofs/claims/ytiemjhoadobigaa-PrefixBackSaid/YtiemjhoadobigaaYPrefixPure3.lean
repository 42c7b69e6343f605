/- prefix: the symbol that is read is the document's. It has no conditions. -/
import Derived.Test.YtiemjhoadobigaaYPrefixBit
import Derived.Test.YtiemjhoadobigaaYPrefixPure
import Derived.Test.YtiemjhoadobigaaYPrefixPure2
import Derived.BigRegion
import Derived.RegionTactic
import Derived.ChangeAlike
import Derived.Deep.RegionWith
import Derived.Deep.RegionLaw
import Derived.Laws.Tables
import Derived.Deep.QuietTactic
import Derived.BigQuiet
import Derived.Deep.RegionHeld3
import Derived.Deep.AppendLies
import Derived.Deep.DrawnRows
import Derived.Laws.CopyOwn
import Derived.Deep.MidRow
import Derived.Laws.ResultCell
import Derived.ChangeKeysEq
namespace Go.Proofs.Ytiemjhoadobigaa.XPrefix
set_option linter.unusedVariables false
set_option linter.unusedSimpArgs false
open Go.RowKit Go.Proofs.YtiemjhoadobigaaW.PrintWords Go.Proofs.YtiemjhoadobigaaW.PrintLast Go.Proofs.YtiemjhoadobigaaW.PrintMore

open XPrefixReads
/-- Symbol j stands behind cnt others of its length. -/
theorem symRow_at (l : List Int) (n : Nat) : ∀ (i j : Nat), j < i → rd l (j : Int) = n → (symRow l n i)[(cnt l j n).toNat]? = some (j : Int)
  | 0, _, h, _ => absurd h (by omega)
  | i + 1, j, h, hj => by
    have hc := symRow_cnt l n i
    rw [symRow]
    by_cases e : j = i
    · subst e
      rw [if_pos hj, ← hc, Int.toNat_natCast, List.getElem?_append_right (Nat.le_refl _), Nat.sub_self]
      rfl
    · have ih := symRow_at l n i j (by omega) hj
      have hlt : (cnt l j n).toNat < (symRow l n i).length := by
        rcases Nat.lt_or_ge (cnt l j n).toNat (symRow l n i).length with h1 | h1
        · exact h1
        · rw [List.getElem?_eq_none h1] at ih; exact absurd ih (by simp)
      rw [List.getElem?_append_left hlt]
      exact ih
/-- Whatever stands in the row is a symbol of that length, with so many ahead of it. -/
theorem symRow_of (l : List Int) (n : Nat) : ∀ (i m : Nat), (m : Int) < cnt l i n → ∃ j, j < i ∧ rd l (j : Int) = n ∧ cnt l j n = m
  | 0, m, h => by rw [cnt] at h; omega
  | i + 1, m, h => by
    by_cases h1 : (m : Int) < cnt l i n
    · obtain ⟨j, h2, h3⟩ := symRow_of l n i m h1
      exact ⟨j, by omega, h3⟩
    · rw [cnt] at h
      by_cases e : rd l (i : Int) = n
      · rw [if_pos e] at h
        exact ⟨i, by omega, e, by omega⟩
      · rw [if_neg e] at h; omega
theorem cnt_mono (l : List Int) (n : Nat) : ∀ (i j : Nat), i ≤ j → cnt l i n ≤ cnt l j n
  | i, 0, h => by rw [show i = 0 from by omega]; exact Int.le_refl _
  | i, j + 1, h => by
    by_cases e : i = j + 1
    · rw [e]; exact Int.le_refl _
    · have := cnt_mono l n i j (by omega)
      rw [show cnt l (j + 1) n = cnt l j n + if rd l (j : Int) = n then 1 else 0 from rfl]
      split <;> omega
theorem cnt_inj (l : List Int) (n i j : Nat) (hi : rd l (i : Int) = n) (hj : rd l (j : Int) = n) (h : cnt l i n = cnt l j n) : i = j := by
  have key : ∀ i j : Nat, i < j → rd l (i : Int) = n → cnt l i n < cnt l j n := fun i j hij h0 => by
    have := cnt_mono l n (i + 1) j hij
    rw [show cnt l (i + 1) n = cnt l i n + if rd l (i : Int) = n then 1 else 0 from rfl, if_pos h0] at this
    omega
  rcases Nat.lt_trichotomy i j with h1 | h1 | h1
  · have := key i j h1 hi; omega
  · exact h1
  · have := key j i h1 hj; omega
theorem symUp_at (l : List Int) (k m : Nat) (x : Int) (h : (symRow l (k + 1) l.length)[m]? = some x) : ∀ n, k + 1 ≤ n → (symUp l n)[(symUp l k).length + m]? = some x
  | 0, hn => absurd hn (by omega)
  | n + 1, hn => by
    rw [symUp]
    by_cases e : k = n
    · subst e
      rw [List.getElem?_append_right (by omega), Nat.add_sub_cancel_left]
      exact h
    · have ih := symUp_at l k m x h n (by omega)
      have hlt : (symUp l k).length + m < (symUp l n).length := by
        rcases Nat.lt_or_ge ((symUp l k).length + m) (symUp l n).length with h1 | h1
        · exact h1
        · rw [List.getElem?_eq_none h1] at ih; exact absurd ih (by simp)
      rw [List.getElem?_append_left hlt]
      exact ih
theorem codL_rd (l : List Int) (j : Nat) (h : j < l.length) : rd (codL l) (j : Int) = cod l j := rd_listOf _ _ _ h
/-- The code n of length k: whose it is. -/
theorem sym_of (l : List Int) (k : Nat) (n : Int) (h0 : nx (cnt l l.length) (k + 1) ≤ n) (h1 : n - nx (cnt l l.length) (k + 1) < cnt l l.length (k + 1)) (hk : k + 1 ≤ 15) :
    ∃ j, j < l.length ∧ rd l (j : Int) = ((k + 1 : Nat) : Int) ∧ cod l j = n ∧ rd (symUp l 15) ((symUp l k).length + (n - nx (cnt l l.length) (k + 1))) = j := by
  obtain ⟨m, hm⟩ : ∃ m : Nat, n - nx (cnt l l.length) (k + 1) = m := ⟨(n - nx (cnt l l.length) (k + 1)).toNat, by omega⟩
  obtain ⟨j, h2, h3, h4⟩ := symRow_of l (k + 1) l.length m (by omega)
  have h5 := symRow_at l (k + 1) l.length j h2 h3
  rw [h4, Int.toNat_natCast] at h5
  have h6 := symUp_at l k m (j : Int) h5 15 hk
  refine ⟨j, h2, h3, ?_, ?_⟩
  · rw [cod, h3, if_pos (by omega), Int.toNat_natCast, h4]; omega
  · rw [hm, show ((symUp l k).length : Int) + (m : Int) = (((symUp l k).length + m : Nat) : Int) from by omega]
    unfold rd
    rw [Int.toNat_natCast, List.getD_eq_getElem?_getD, h6]
    rfl
/-- A code of another number is no symbol's. -/
theorem no_sym (l : List Int) (k : Nat) (n : Int) (h1 : ¬ n - nx (cnt l l.length) (k + 1) < cnt l l.length (k + 1)) (j : Nat) (hj : j < l.length) (h2 : rd l (j : Int) = ((k + 1 : Nat) : Int)) : cod l j ≠ n := by
  intro h
  rw [cod, h2, if_pos (by omega), Int.toNat_natCast] at h
  have := cnt_mono l (k + 1) (j + 1) l.length hj
  rw [show cnt l (j + 1) (k + 1) = cnt l j (k + 1) + if rd l (j : Int) = ((k + 1 : Nat) : Int) then 1 else 0 from rfl, if_pos h2] at this
  omega
theorem rdr_l1_hit (l b : List Int) (at' kd n : Int) (k : Nat) (hl : l.length ≤ 288) (j : Nat) (hj : j < l.length) (h2 : rd l (j : Int) = ((k + 1 : Nat) : Int)) (h3 : cod l j = n) :
    ∀ d i : Nat, j - i = d → i ≤ j → Ev (fun q => montageref05_Read.l1 q l b at' kd (codL l) n ((k + 1 : Nat) : Int) (i : Int)) ((j : Int), at', 0) := by
  have hlen : (codL l).length = l.length := listOf_len _ _
  intro d
  induction d with
  | zero =>
    intro i hd hi
    obtain rfl : i = j := by omega
    refine Ev.step (f := fun _ => some ((i : Int), at', 0)) (fun q => ?_) (Ev.now _)
    simp only [montageref05_Read.l1]
    rw [if_pos (by omega), if_pos (by omega), if_pos h2, if_pos (by rw [hlen]; omega), codL_rd l i hj, if_pos h3]
  | succ d ih =>
    intro i hd hi
    refine Ev.step (f := fun q => montageref05_Read.l1 q l b at' kd (codL l) n ((k + 1 : Nat) : Int) ((i + 1 : Nat) : Int)) (fun q => ?_) (ih (i + 1) (by omega) (by omega))
    simp only [montageref05_Read.l1]
    rw [if_pos (by omega), if_pos (by omega), w64 (x := (i : Int) + 1) (by omega) (by omega)]
    by_cases e : rd l (i : Int) = ((k + 1 : Nat) : Int)
    · rw [if_pos e, if_pos (by rw [hlen]; omega), codL_rd l i (by omega), if_neg (fun h4 => by
        have h5 : cod l i = cod l j := h4.trans h3.symm
        rw [cod, cod, e, h2, if_pos (by omega), if_pos (by omega), Int.toNat_natCast] at h5
        have := cnt_inj l (k + 1) i j e h2 (by omega)
        omega)]
      rfl
    · rw [if_neg e]
      rfl
theorem rdr_l1_miss (l b : List Int) (at' kd n : Int) (k : Nat) (hl : l.length ≤ 288) (hno : ∀ j, j < l.length → rd l (j : Int) = ((k + 1 : Nat) : Int) → cod l j ≠ n) (r : Int × Int × Int)
    (h1 : kd = 1 → r = (0, at', 10)) (h2 : kd ≠ 1 → Ev (fun q => montageref05_Read.l0 q l b at' kd (codL l) n (((k + 1 : Nat) : Int) + 1)) r) (hk : k ≤ 15) :
    ∀ d i : Nat, l.length - i = d → i ≤ l.length → Ev (fun q => montageref05_Read.l1 q l b at' kd (codL l) n ((k + 1 : Nat) : Int) (i : Int)) r := by
  have hlen : (codL l).length = l.length := listOf_len _ _
  intro d
  induction d with
  | zero =>
    intro i hd hi
    obtain rfl : i = l.length := by omega
    by_cases e : kd = 1
    · rw [h1 e]
      refine Ev.step (f := fun _ => some (0, at', 10)) (fun q => ?_) (Ev.now _)
      simp only [montageref05_Read.l1]
      rw [if_neg (by omega), if_pos e]
    · refine Ev.step (fun q => ?_) (h2 e)
      simp only [montageref05_Read.l1]
      rw [if_neg (by omega), if_neg e, w64 (by omega) (by omega)]
  | succ d ih =>
    intro i hd hi
    refine Ev.step (f := fun q => montageref05_Read.l1 q l b at' kd (codL l) n ((k + 1 : Nat) : Int) ((i + 1 : Nat) : Int)) (fun q => ?_) (ih (i + 1) (by omega) (by omega))
    simp only [montageref05_Read.l1]
    rw [if_pos (by omega), if_pos (by omega), w64 (x := (i : Int) + 1) (by omega) (by omega)]
    by_cases e : rd l (i : Int) = ((k + 1 : Nat) : Int)
    · rw [if_pos e, if_pos (by rw [hlen]; omega), codL_rd l i (by omega), if_neg (hno i (by omega) e)]
      rfl
    · rw [if_neg e]
      rfl
/-- What the document reads. -/
def docR (R : Int × Int × Nat × Bool) : Int × Int × Int := (R.1, (R.2.2.1 : Int), R.2.1)
theorem rdr_l0 (l : List Int) (kd : Int) (Z M : Nat) (hl : l.length ≤ 288) (hM : M ≤ 1000000) : ∀ (d k : Nat) (n : Int) (p : Nat), k + d = 15 → p ≤ M → 0 ≤ n → n < 2 ^ k → nx (cnt l l.length) (k + 1) ≤ 2 * n →
    Ev (fun q => montageref05_Read.l0 q l (bl Z M) (p : Int) kd (codL l) n ((k + 1 : Nat) : Int)) (docR (readK l kd (bitZ Z) M d k n p))
  | 0, k, n, p, hd, hp, hn0, hn1, hx => by
    refine Ev.step (f := fun _ => some (0, (p : Int), 10)) (fun q => ?_) (Ev.now _)
    simp only [montageref05_Read.l0]
    rw [if_neg (by omega)]
  | d + 1, k, n, p, hd, hp, hn0, hn1, hx => by
    have hlen := bl_len Z M
    have hpow := pow_le_15 k (by omega)
    rw [readK]
    by_cases hM2 : M ≤ p
    · rw [if_pos hM2]
      refine Ev.step (f := fun _ => some (0, (p : Int), 3)) (fun q => ?_) (Ev.now _)
      simp only [montageref05_Read.l0]
      rw [if_pos (by omega), if_pos (by omega)]
    · rw [if_neg hM2]
      have hb : rd (bl Z M) (p : Int) = bitZ Z p := bl_get Z M p (by omega)
      have hb2 : bitZ Z p = 0 ∨ bitZ Z p = 1 := by unfold bitZ; omega
      obtain ⟨b, hbb⟩ : ∃ b, bitZ Z p = b := ⟨_, rfl⟩
      rw [hbb] at hb hb2 ⊢
      have hstep : ∀ r, Ev (fun q => montageref05_Read.l1 q l (bl Z M) ((p + 1 : Nat) : Int) kd (codL l) (2 * n + b) ((k + 1 : Nat) : Int) ((0 : Nat) : Int)) r → Ev (fun q => montageref05_Read.l0 q l (bl Z M) (p : Int) kd (codL l) n ((k + 1 : Nat) : Int)) r := fun r h => by
        refine Ev.step (fun q => ?_) h
        simp only [montageref05_Read.l0]
        rw [if_pos (by omega), if_neg (by omega), if_pos (by omega), if_pos (by omega), hb, w64 (x := 2 * n) (by omega) (by omega), w64 (x := b) (by omega) (by omega), w64 (x := 2 * n + b) (by omega) (by omega), w64 (x := (p : Int) + 1) (by omega) (by omega)]
        rfl
      refine hstep _ ?_
      by_cases hit : 2 * n + b - nx (cnt l l.length) (k + 1) < cnt l l.length (k + 1)
      · rw [if_pos hit]
        obtain ⟨j, h1, h2, h3, h4⟩ := sym_of l k (2 * n + b) (by omega) hit (by omega)
        rw [h4]
        exact rdr_l1_hit l (bl Z M) _ kd (2 * n + b) k hl j h1 h2 h3 j 0 (by omega) (by omega)
      · rw [if_neg hit]
        refine rdr_l1_miss l (bl Z M) _ kd (2 * n + b) k hl (no_sym l k _ hit) _ ?_ ?_ (by omega) l.length 0 (by omega) (by omega)
        · intro e
          rw [if_pos e]; rfl
        · intro e
          rw [if_neg e]
          exact rdr_l0 l kd Z M hl hM d (k + 1) (2 * n + b) (p + 1) (by omega) (by omega) (by omega) (by rw [Int.pow_succ]; omega) (by rw [nx]; omega)
theorem read_same (l : List Int) (kd : Int) (hK : KRes l kd 0) (Z M p : Nat) (hM : M ≤ 1000000) (hp : p ≤ M) (hkd : kd ≠ 2) :
    Ev (fun q => montageref05_Read.f q l (bl Z M) (p : Int)) (docR (readK l kd (bitZ Z) M 15 0 0 p)) := by
  have ok := hK.okl
  unfold montageref05_Read.f
  refine Ev.bind (check_same l kd 0 hK) ?_
  simp only [if_neg hkd]
  refine Ev.bind (codes_same l ok) ?_
  exact rdr_l0 l kd Z M ok.1 hM 15 0 0 p rfl hp (by omega) (by decide) (by simp [nx])
theorem read_none (l : List Int) (hK : KRes l 2 0) (Z M p : Nat) :
    Ev (fun q => montageref05_Read.f q l (bl Z M) (p : Int)) (0, (p : Int), 10) := by
  unfold montageref05_Read.f
  refine Ev.bind (check_same l 2 0 hK) ?_
  simp only [if_true]
  exact Ev.now _

end Go.Proofs.Ytiemjhoadobigaa.XPrefix
