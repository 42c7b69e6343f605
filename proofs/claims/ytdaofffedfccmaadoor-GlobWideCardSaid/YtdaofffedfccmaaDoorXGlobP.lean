/- Glob: do n pieces fit m things, the plain law. It has no conditions. -/
import Derived.BigRegion
import Derived.RegionTactic
import Derived.ChangeAlike
import Derived.Deep.RegionWith
import Derived.Deep.RegionLaw
import Derived.Laws.Tables
import Derived.Deep.QuietTactic
import Derived.BigQuiet
import Derived.Deep.RegionHeld3
import Derived.Deep.AppendLies
import Derived.Deep.DrawnRows
import Derived.Laws.CopyOwn
import Derived.Deep.MidRow
import Derived.Laws.ResultCell
import Derived.ChangeKeysEq
import Derived.Laws.BitsAllLaws
namespace Go.Proofs.YtdaofffedfccmaaDoor.XGlob
set_option linter.unusedVariables false
set_option linter.unusedSimpArgs false
/-! ### Do n pieces fit m things? The document's way, by all lengths, and the program's, by the last star. -/
section
variable (many : Nat → Bool) (fits : Nat → Nat → Bool) (n m : Nat)
/-- The pieces from i on fit the things from k on. -/
inductive Mt : Nat → Nat → Prop
  | done : Mt n m
  | skip (i k : Nat) : i < n → many i = true → Mt (i + 1) k → Mt i k
  | eat (i k : Nat) : i < n → many i = true → k < m → Mt i (k + 1) → Mt i k
  | one (i k : Nat) : i < n → many i = false → k < m → fits i k = true → Mt (i + 1) (k + 1) → Mt i k
/-- The first i pieces fit the first k things. -/
inductive Pf : Nat → Nat → Prop
  | zero : Pf 0 0
  | star (i k j : Nat) : Pf i k → many i = true → k ≤ j → j ≤ m → Pf (i + 1) j
  | one (i k : Nat) : Pf i k → many i = false → k < m → fits i k = true → Pf (i + 1) (k + 1)
end
section
variable {many : Nat → Bool} {fits : Nat → Nat → Bool} {n m : Nat}
theorem Mt.le {i k : Nat} (h : Mt many fits n m i k) : i ≤ n ∧ k ≤ m := by
  induction h with
  | done => exact ⟨Nat.le_refl _, Nat.le_refl _⟩
  | skip i k h1 h2 h3 ih => exact ⟨by omega, ih.2⟩
  | eat i k h1 h2 h3 h4 ih => exact ⟨by omega, by omega⟩
  | one i k h1 h2 h3 h4 h5 ih => exact ⟨by omega, by omega⟩
theorem Pf.le {i k : Nat} (h : Pf many fits m i k) : k ≤ m := by
  induction h with
  | zero => exact Nat.zero_le _
  | star i k j h1 h2 h3 h4 ih => exact h4
  | one i k h1 h2 h3 h4 ih => omega
/-- A star, and what is behind it. -/
theorem Mt.eats {i : Nat} (hi : i < n) (hm : many i = true) : ∀ (d k : Nat), k + d ≤ m → Mt many fits n m i (k + d) → Mt many fits n m i k
  | 0, k, _, h => h
  | d + 1, k, hk, h => .eat i k hi hm (by omega) (Mt.eats hi hm d (k + 1) (by omega) (by rw [show k + 1 + d = k + (d + 1) from by omega]; exact h))
theorem Mt.star_of {i k j : Nat} (hi : i < n) (hm : many i = true) (hkj : k ≤ j) (hj : j ≤ m) (h : Mt many fits n m (i + 1) j) : Mt many fits n m i k :=
  Mt.eats hi hm (j - k) k (by omega) (by rw [show k + (j - k) = j from by omega]; exact .skip i j hi hm h)
theorem Mt.star_inv {i k : Nat} (h : Mt many fits n m i k) (hi : i < n) (hm : many i = true) : ∃ j, k ≤ j ∧ j ≤ m ∧ Mt many fits n m (i + 1) j := by
  induction h with
  | done => omega
  | skip i k h1 h2 h3 ih => exact ⟨k, Nat.le_refl _, h3.le.2, h3⟩
  | eat i k h1 h2 h3 h4 ih =>
    obtain ⟨j, a, b, c⟩ := ih hi hm
    exact ⟨j, by omega, b, c⟩
  | one i k h1 h2 h3 h4 h5 ih => rw [hm] at h2; cases h2
theorem Mt.one_inv {i k : Nat} (h : Mt many fits n m i k) (hi : i < n) (hm : many i = false) : k < m ∧ fits i k = true ∧ Mt many fits n m (i + 1) (k + 1) := by
  cases h with
  | done => omega
  | skip _ _ h1 h2 h3 => rw [hm] at h2; cases h2
  | eat _ _ h1 h2 h3 h4 => rw [hm] at h2; cases h2
  | one _ _ h1 h2 h3 h4 h5 => exact ⟨h3, h4, h5⟩
theorem Mt.end_inv {k : Nat} (h : Mt many fits n m n k) : k = m := by
  cases h with
  | done => rfl
  | skip _ _ h1 h2 h3 => omega
  | eat _ _ h1 h2 h3 h4 => omega
  | one _ _ h1 h2 h3 h4 h5 => omega
/-- Both ways say the same. -/
theorem Pf.mt {i k : Nat} (h : Pf many fits m i k) : i ≤ n → Mt many fits n m i k → Mt many fits n m 0 0 := by
  induction h with
  | zero => exact fun _ h => h
  | star i k j h1 h2 h3 h4 ih => exact fun hi h => ih (by omega) (Mt.star_of (by omega) h2 h3 h4 h)
  | one i k h1 h2 h3 h4 ih => exact fun hi h => ih (by omega) (.one i k (by omega) h2 h3 h4 h)
theorem Mt.pf : ∀ (d i k : Nat), n - i = d → i ≤ n → Mt many fits n m i k → Pf many fits m i k → Pf many fits m n m
  | 0, i, k, hd, hi, h, hp => by
    obtain rfl : i = n := by omega
    rw [h.end_inv] at hp
    exact hp
  | d + 1, i, k, hd, hi, h, hp => by
    cases hm : many i with
    | true =>
      obtain ⟨j, a, b, c⟩ := Mt.star_inv h (by omega) hm
      exact Mt.pf d (i + 1) j (by omega) (by omega) c (.star i k j hp hm a b)
    | false =>
      obtain ⟨a, b, c⟩ := Mt.one_inv h (by omega) hm
      exact Mt.pf d (i + 1) (k + 1) (by omega) (by omega) c (.one i k hp hm a b)
theorem pf_iff : Pf many fits m n m ↔ Mt many fits n m 0 0 := ⟨fun h => h.mt (Nat.le_refl _) .done, fun h => Mt.pf n 0 0 rfl (Nat.zero_le _) h .zero⟩
/-! The program's way: where it is (i, k), the last star and the place from which it fits. -/
/-- What the program knows: without a star; with one. -/
def Inv0 (many : Nat → Bool) (fits : Nat → Nat → Bool) (n m i k : Nat) : Prop := i ≤ n ∧ k ≤ m ∧ (Mt many fits n m 0 0 ↔ Mt many fits n m i k)
def Inv1 (many : Nat → Bool) (fits : Nat → Nat → Bool) (n m i k st fr : Nat) : Prop := st < i ∧ i ≤ n ∧ k ≤ m ∧ many st = true ∧ k = fr + (i - st - 1) ∧ (∀ d, d < i - st - 1 → many (st + 1 + d) = false ∧ fits (st + 1 + d) (fr + d) = true) ∧ (Mt many fits n m 0 0 ↔ ∃ j, fr ≤ j ∧ j ≤ m ∧ Mt many fits n m (st + 1) j)
/-- Single pieces one by one. -/
theorem Mt.seg {st fr : Nat} : ∀ (L : Nat), (∀ d, d < L → many (st + 1 + d) = false) → st + 1 + L ≤ n → ∀ j, Mt many fits n m (st + 1) j → j + L ≤ m ∧ Mt many fits n m (st + 1 + L) (j + L)
  | 0, _, _, j, h => ⟨h.le.2, h⟩
  | L + 1, hs, hn, j, h => by
    obtain ⟨a, b⟩ := Mt.seg (st := st) (fr := fr) L (fun d hd => hs d (by omega)) (by omega) j h
    obtain ⟨c, _, e⟩ := Mt.one_inv b (by omega) (hs L (by omega))
    exact ⟨by omega, e⟩
theorem Mt.seg_back {st fr : Nat} : ∀ (L : Nat), (∀ d, d < L → many (st + 1 + d) = false ∧ fits (st + 1 + d) (fr + d) = true) → st + 1 + L ≤ n → fr + L ≤ m → Mt many fits n m (st + 1 + L) (fr + L) → Mt many fits n m (st + 1) fr
  | 0, _, _, _, h => h
  | L + 1, hs, hn, hm, h => Mt.seg_back L (fun d hd => hs d (by omega)) (by omega) (by omega) (.one _ _ (by omega) (hs L (by omega)).1 (by omega) (hs L (by omega)).2 h)
theorem inv_star0 {i k : Nat} (h : Inv0 many fits n m i k) (hi : i < n) (hm : many i = true) (hk : k ≤ m) : Inv1 many fits n m (i + 1) k i k := by
  obtain ⟨h1, h2, h3⟩ := h
  refine ⟨by omega, by omega, hk, hm, by omega, fun d hd => by omega, h3.trans ⟨fun h => Mt.star_inv h hi hm, ?_⟩⟩
  rintro ⟨j, a, b, c⟩
  exact Mt.star_of hi hm a b c
theorem inv_star1 {i k st fr : Nat} (h : Inv1 many fits n m i k st fr) (hi : i < n) (hm : many i = true) : Inv1 many fits n m (i + 1) k i k := by
  obtain ⟨h1, h2, h3, h4, h5, h6, h7⟩ := h
  refine ⟨by omega, by omega, h3, hm, by omega, fun d hd => by omega, h7.trans ?_⟩
  clear h7
  constructor
  · rintro ⟨j, a, b, c⟩
    obtain ⟨a1, b1⟩ := Mt.seg (st := st) (fr := fr) (i - st - 1) (fun d hd => (h6 d hd).1) (by omega) j c
    rw [show st + 1 + (i - st - 1) = i from by omega] at b1
    obtain ⟨j2, a2, b2, c2⟩ := Mt.star_inv b1 hi hm
    exact ⟨j2, by omega, b2, c2⟩
  · rintro ⟨j, a, b, c⟩
    refine ⟨fr, Nat.le_refl _, by omega, Mt.seg_back (i - st - 1) h6 (by omega) (by omega) ?_⟩
    rw [show st + 1 + (i - st - 1) = i from by omega, ← h5]
    exact Mt.star_of hi hm a b c
theorem inv_one0 {i k : Nat} (h : Inv0 many fits n m i k) (hi : i < n) (hk : k < m) (hm : many i = false) (hf : fits i k = true) : Inv0 many fits n m (i + 1) (k + 1) :=
  ⟨by omega, by omega, h.2.2.trans ⟨fun h => (Mt.one_inv h hi hm).2.2, fun h => .one i k hi hm hk hf h⟩⟩
theorem inv_one1 {i k st fr : Nat} (h : Inv1 many fits n m i k st fr) (hi : i < n) (hk : k < m) (hm : many i = false) (hf : fits i k = true) : Inv1 many fits n m (i + 1) (k + 1) st fr := by
  obtain ⟨h1, h2, h3, h4, h5, h6, h7⟩ := h
  have e5 : k + 1 = fr + (i + 1 - st - 1) := by clear h7; omega
  refine ⟨by omega, by omega, by omega, h4, e5, fun d hd => ?_, h7⟩
  clear h7
  by_cases e : d < i - st - 1
  · exact h6 d e
  · obtain rfl : d = i - st - 1 := by omega
    rw [show st + 1 + (i - st - 1) = i from by omega, ← h5]
    exact ⟨hm, hf⟩
theorem inv_miss {i k st fr : Nat} (h : Inv1 many fits n m i k st fr) (hk : k < m) (hx : i = n ∨ (many i = false ∧ fits i k = false)) : Inv1 many fits n m (st + 1) (fr + 1) st (fr + 1) := by
  obtain ⟨h1, h2, h3, h4, h5, h6, h7⟩ := h
  refine ⟨by omega, by omega, by omega, h4, by omega, fun d hd => by omega, h7.trans ?_⟩
  clear h7
  constructor
  · rintro ⟨j, a, b, c⟩
    refine ⟨j, ?_, b, c⟩
    by_cases e : j = fr
    · exfalso
      subst e
      obtain ⟨a1, b1⟩ := Mt.seg (st := st) (fr := j) (i - st - 1) (fun d hd => (h6 d hd).1) (by omega) j c
      rw [show st + 1 + (i - st - 1) = i from by omega, ← h5] at b1
      rcases hx with rfl | ⟨x1, x2⟩
      · have := b1.end_inv; omega
      · by_cases hin : i = n
        · subst hin; have := b1.end_inv; omega
        · have := (Mt.one_inv b1 (by omega) x1).2.1
          rw [x2] at this; cases this
    · omega
  · rintro ⟨j, a, b, c⟩
    exact ⟨j, by omega, b, c⟩
theorem inv_none {i k : Nat} (h : Inv0 many fits n m i k) (hk : k < m) (hx : i = n ∨ (many i = false ∧ fits i k = false)) : ¬ Mt many fits n m 0 0 := by
  intro h0
  have h1 := h.2.2.1 h0
  by_cases hin : i = n
  · subst hin; have := h1.end_inv; omega
  · rcases hx with rfl | ⟨x1, x2⟩
    · exact hin rfl
    · have := (Mt.one_inv h1 (by have := h.1; omega) x1).2.1
      rw [x2] at this; cases this
/-- At the end: stars alone. -/
theorem mt_end : ∀ (d i : Nat), n - i = d → i ≤ n → (Mt many fits n m i m ↔ ∀ x, i ≤ x → x < n → many x = true)
  | 0, i, hd, hi => by
    obtain rfl : i = n := by omega
    exact ⟨fun _ x h1 h2 => by omega, fun _ => .done⟩
  | d + 1, i, hd, hi => by
    have ih := mt_end d (i + 1) (by omega) (by omega)
    cases hm : many i with
    | true =>
      constructor
      · intro h x h1 h2
        obtain ⟨j, a, b, c⟩ := Mt.star_inv h (by omega) hm
        by_cases e : x = i
        · subst e; exact hm
        · obtain rfl : j = m := by omega
          exact ih.1 c x (by omega) h2
      · exact fun h => .skip i m (by omega) hm (ih.2 (fun x h1 h2 => h x (by omega) h2))
    | false =>
      constructor
      · intro h
        have := (Mt.one_inv h (by omega) hm).1
        omega
      · intro h
        have := h i (Nat.le_refl _) (by omega)
        rw [hm] at this; cases this
theorem inv_end0 {i : Nat} (h : Inv0 many fits n m i m) : Mt many fits n m 0 0 ↔ ∀ x, i ≤ x → x < n → many x = true := h.2.2.trans (mt_end (fits := fits) (m := m) (n - i) i rfl h.1)
theorem inv_end1 {i st fr : Nat} (h : Inv1 many fits n m i m st fr) : Mt many fits n m 0 0 ↔ ∀ x, i ≤ x → x < n → many x = true := by
  obtain ⟨h1, h2, h3, h4, h5, h6, h7⟩ := h
  refine h7.trans (Iff.trans ?_ (mt_end (fits := fits) (m := m) (n - i) i rfl h2))
  clear h7
  constructor
  · rintro ⟨j, a, b, c⟩
    obtain ⟨a1, b1⟩ := Mt.seg (st := st) (fr := fr) (i - st - 1) (fun d hd => (h6 d hd).1) (by omega) j c
    rw [show st + 1 + (i - st - 1) = i from by omega] at b1
    obtain e : j + (i - st - 1) = m := by omega
    rwa [e] at b1
  · intro h
    refine ⟨fr, Nat.le_refl _, by omega, Mt.seg_back (i - st - 1) h6 (by omega) (by omega) ?_⟩
    rw [show st + 1 + (i - st - 1) = i from by omega, ← h5]
    exact h
end
section
variable {many : Nat → Bool} {fits : Nat → Nat → Bool} {m : Nat}
/-- One piece more. -/
theorem pf_step {i j : Nat} (hj : j ≤ m) : Pf many fits m (i + 1) j ↔ (many i = true ∧ ∃ k, k ≤ j ∧ Pf many fits m i k) ∨ (many i = false ∧ ∃ k, k < m ∧ Pf many fits m i k ∧ fits i k = true ∧ j = k + 1) := by
  constructor
  · intro h
    cases h with
    | star _ k _ h1 h2 h3 h4 => exact .inl ⟨h2, k, h3, h1⟩
    | one _ k h1 h2 h3 h4 => exact .inr ⟨h2, k, h3, h1, h4, rfl⟩
  · rintro (⟨h2, k, h3, h1⟩ | ⟨h2, k, h3, h1, h4, rfl⟩)
    · exact .star i k j h1 h2 h3 hj
    · exact .one i k h1 h2 h3 h4
theorem pf_zero {j : Nat} : Pf many fits m 0 j ↔ j = 0 := by
  constructor
  · intro h
    cases h
    rfl
  · rintro rfl
    exact .zero
/-- A row of answers that says where the first i pieces end. -/
def IsRow (many : Nat → Bool) (fits : Nat → Nat → Bool) (m i : Nat) (l : List Bool) : Prop := l.length = m + 1 ∧ ∀ j, j ≤ m → (l.getD j false = true ↔ Pf many fits m i j)
/-- .. under way, when the places below k are looked at. -/
def IsNext (many : Nat → Bool) (fits : Nat → Nat → Bool) (m i k : Nat) (l : List Bool) : Prop := l.length = m + 1 ∧ ∀ j, j ≤ m → (l.getD j false = true ↔ (many i = true ∧ ∃ q, q < k ∧ q ≤ j ∧ Pf many fits m i q) ∨ (many i = false ∧ ∃ q, q < k ∧ q < m ∧ Pf many fits m i q ∧ fits i q = true ∧ j = q + 1))
theorem getD_set (l : List Bool) (a j : Nat) (ha : a < l.length) : (l.set a true).getD j false = if j = a then true else l.getD j false := by
  rw [List.getD_eq_getElem?_getD, List.getElem?_set]
  by_cases h : a = j
  · subst h
    rw [if_pos rfl, if_pos ha, if_pos rfl]
    rfl
  · rw [if_neg h, if_neg (fun e => h e.symm), List.getD_eq_getElem?_getD]
theorem isRow_start : IsRow many fits m 0 ((List.replicate (m + 1) false).set 0 true) := by
  refine ⟨by simp, fun j hj => ?_⟩
  rw [getD_set _ _ _ (by simp), pf_zero]
  by_cases h : j = 0
  · rw [if_pos h]; simp [h]
  · rw [if_neg h]
    constructor
    · intro e
      rw [List.getD_eq_getElem?_getD, List.getElem?_replicate] at e
      split at e <;> simp at e
    · exact fun e => absurd e h
theorem isNext_start {i : Nat} : IsNext many fits m i 0 (List.replicate (m + 1) false) := by
  refine ⟨by simp, fun j hj => ?_⟩
  constructor
  · intro e
    rw [List.getD_eq_getElem?_getD, List.getElem?_replicate] at e
    split at e <;> simp at e
  · rintro (⟨_, q, h, _⟩ | ⟨_, q, h, _⟩) <;> omega
theorem isNext_end {i : Nat} {l : List Bool} (h : IsNext many fits m i (m + 1) l) : IsRow many fits m (i + 1) l := by
  refine ⟨h.1, fun j hj => (h.2 j hj).trans (Iff.trans ?_ (pf_step hj).symm)⟩
  constructor
  · rintro (⟨a, q, b, c, d⟩ | ⟨a, q, b, c, d, e, f⟩)
    · exact .inl ⟨a, q, c, d⟩
    · exact .inr ⟨a, q, c, d, e, f⟩
  · rintro (⟨a, q, c, d⟩ | ⟨a, q, c, d, e, f⟩)
    · exact .inl ⟨a, q, by omega, c, d⟩
    · exact .inr ⟨a, q, by omega, c, d, e, f⟩
theorem isNext_skip {i k : Nat} {l : List Bool} (h : IsNext many fits m i k l) (hn : ¬ Pf many fits m i k ∨ (many i = false ∧ ¬ (k < m ∧ fits i k = true))) : IsNext many fits m i (k + 1) l := by
  refine ⟨h.1, fun j hj => (h.2 j hj).trans ?_⟩
  constructor
  · rintro (⟨a, q, b, c, d⟩ | ⟨a, q, b, c, d, e, f⟩)
    · exact .inl ⟨a, q, by omega, c, d⟩
    · exact .inr ⟨a, q, by omega, c, d, e, f⟩
  · rintro (⟨a, q, b, c, d⟩ | ⟨a, q, b, c, d, e, f⟩)
    · refine .inl ⟨a, q, ?_, c, d⟩
      by_cases hq : q = k
      · subst hq
        rcases hn with hn | ⟨hn, _⟩
        · exact absurd d hn
        · rw [hn] at a; cases a
      · omega
    · refine .inr ⟨a, q, ?_, c, d, e, f⟩
      by_cases hq : q = k
      · subst hq
        rcases hn with hn | ⟨_, hn⟩
        · exact absurd d hn
        · exact absurd ⟨c, e⟩ hn
      · omega
theorem isNext_one {i k : Nat} {l : List Bool} (h : IsNext many fits m i k l) (hp : Pf many fits m i k) (hm : many i = false) (hk : k < m) (hf : fits i k = true) : IsNext many fits m i (k + 1) (l.set (k + 1) true) := by
  refine ⟨by rw [List.length_set]; exact h.1, fun j hj => ?_⟩
  rw [getD_set _ _ _ (by have := h.1; omega)]
  constructor
  · intro e
    by_cases hjk : j = k + 1
    · exact .inr ⟨hm, k, by omega, hk, hp, hf, hjk⟩
    · rw [if_neg hjk] at e
      rcases (h.2 j hj).1 e with ⟨a, q, b, c, d⟩ | ⟨a, q, b, c, d, e, f⟩
      · exact .inl ⟨a, q, by omega, c, d⟩
      · exact .inr ⟨a, q, by omega, c, d, e, f⟩
  · rintro (⟨a, q, b, c, d⟩ | ⟨a, q, b, c, d, e, f⟩)
    · rw [hm] at a; cases a
    · by_cases hjk : j = k + 1
      · rw [if_pos hjk]
      · rw [if_neg hjk]
        exact (h.2 j hj).2 (.inr ⟨a, q, by omega, c, d, e, f⟩)
/-- A star at a place: all from there on, up to j. -/
def fillFrom (l : List Bool) (k : Nat) : Nat → List Bool
  | 0 => l
  | d + 1 => (fillFrom l k d).set (k + d) true
theorem fillFrom_len (l : List Bool) (k : Nat) : ∀ d, (fillFrom l k d).length = l.length
  | 0 => rfl
  | d + 1 => by rw [fillFrom, List.length_set, fillFrom_len l k d]
theorem fillFrom_get (l : List Bool) (k j : Nat) : ∀ d, k + d ≤ l.length → (fillFrom l k d).getD j false = if k ≤ j ∧ j < k + d then true else l.getD j false
  | 0, _ => by rw [if_neg (by omega)]; rfl
  | d + 1, h => by
    rw [fillFrom, getD_set _ _ _ (by rw [fillFrom_len]; omega), fillFrom_get l k j d (by omega)]
    by_cases h1 : j = k + d
    · rw [if_pos h1, if_pos (by omega)]
    · rw [if_neg h1]
      by_cases h2 : k ≤ j ∧ j < k + d
      · rw [if_pos h2, if_pos (by omega)]
      · rw [if_neg h2, if_neg (by omega)]
theorem isNext_star {i k : Nat} {l : List Bool} (h : IsNext many fits m i k l) (hp : Pf many fits m i k) (hm : many i = true) (hk : k ≤ m) : IsNext many fits m i (k + 1) (fillFrom l k (m + 1 - k)) := by
  refine ⟨by rw [fillFrom_len]; exact h.1, fun j hj => ?_⟩
  rw [fillFrom_get l k j _ (by have := h.1; omega)]
  constructor
  · intro e
    by_cases hjk : k ≤ j ∧ j < k + (m + 1 - k)
    · exact .inl ⟨hm, k, by omega, hjk.1, hp⟩
    · rw [if_neg hjk] at e
      rcases (h.2 j hj).1 e with ⟨a, q, b, c, d⟩ | ⟨a, q, b, c, d, e, f⟩
      · exact .inl ⟨a, q, by omega, c, d⟩
      · rw [hm] at a; cases a
  · rintro (⟨a, q, b, c, d⟩ | ⟨a, q, b, c, d, e, f⟩)
    · by_cases hjk : k ≤ j ∧ j < k + (m + 1 - k)
      · rw [if_pos hjk]
      · rw [if_neg hjk]
        exact (h.2 j hj).2 (.inl ⟨a, q, by omega, c, d⟩)
    · rw [hm] at a; cases a
end

def lx (n m s fr k : Nat) : Nat := ((n + 1 - s) * (m + 1) + (m - fr)) * (m + 1) + (m - k)
theorem lx_one {n m s fr k : Nat} (h : k < m) : lx n m s fr (k + 1) < lx n m s fr k := by
  unfold lx; omega
theorem lx_miss {n m s fr k k' : Nat} (h : fr < m) : lx n m s (fr + 1) k' < lx n m s fr k := by
  unfold lx
  rw [show m - fr = (m - (fr + 1)) + 1 from by omega, ← Nat.add_assoc, Nat.succ_mul]
  omega
theorem lx_star {n m s s' fr fr' k : Nat} (h : s < s') (h2 : s' ≤ n + 1) (h3 : fr ≤ fr') : lx n m s' fr' k < lx n m s fr k := by
  unfold lx
  have e : (n + 1 - s) = (n + 1 - s') + 1 + (s' - s - 1) := by omega
  rw [e, Nat.add_mul (n + 1 - s' + 1), Nat.add_mul (n + 1 - s') 1]
  generalize (n + 1 - s') * (m + 1) = A
  generalize (s' - s - 1) * (m + 1) = B
  have e2 : (A + (m - fr')) * (m + 1) + (m + 1) ≤ (A + 1 * (m + 1) + B + (m - fr)) * (m + 1) := by
    have := Nat.mul_le_mul_right (m + 1) (show A + (m - fr') + 1 ≤ A + 1 * (m + 1) + B + (m - fr) from by omega)
    rw [Nat.succ_mul] at this
    exact this
  omega
/-- What the program knows at the head of its loop: s is 0, or the last star's place and one. -/
def St (many : Nat → Bool) (fits : Nat → Nat → Bool) (n m i k s fr : Nat) : Prop := (s = 0 ∧ fr = 0 ∧ Inv0 many fits n m i k) ∨ (∃ st, s = st + 1 ∧ Inv1 many fits n m i k st fr)
section
variable {many : Nat → Bool} {fits : Nat → Nat → Bool} {n m : Nat}
theorem St.le {i k s fr : Nat} (h : St many fits n m i k s fr) : i ≤ n ∧ k ≤ m ∧ fr ≤ k ∧ s ≤ i := by
  rcases h with ⟨rfl, rfl, h⟩ | ⟨st, rfl, h⟩
  · exact ⟨h.1, h.2.1, Nat.zero_le _, Nat.zero_le _⟩
  · obtain ⟨a, b, c, d, e, f, g⟩ := h
    clear f g
    exact ⟨b, c, by omega, a⟩
theorem St.star {i k s fr : Nat} (h : St many fits n m i k s fr) (hi : i < n) (hm : many i = true) : St many fits n m (i + 1) k (i + 1) k := by
  have hk := h.le.2.1
  rcases h with ⟨rfl, rfl, h⟩ | ⟨st, rfl, h⟩
  · exact .inr ⟨i, rfl, inv_star0 h hi hm hk⟩
  · exact .inr ⟨i, rfl, inv_star1 h hi hm⟩
theorem St.one {i k s fr : Nat} (h : St many fits n m i k s fr) (hi : i < n) (hk : k < m) (hm : many i = false) (hf : fits i k = true) : St many fits n m (i + 1) (k + 1) s fr := by
  rcases h with ⟨rfl, rfl, h⟩ | ⟨st, rfl, h⟩
  · exact .inl ⟨rfl, rfl, inv_one0 h hi hk hm hf⟩
  · exact .inr ⟨st, rfl, inv_one1 h hi hk hm hf⟩
theorem St.miss {i k s fr : Nat} (h : St many fits n m i k s fr) (hs : 0 < s) (hk : k < m) (hx : i = n ∨ (many i = false ∧ fits i k = false)) : St many fits n m s (fr + 1) s (fr + 1) := by
  rcases h with ⟨rfl, rfl, h⟩ | ⟨st, rfl, h⟩
  · exact absurd hs (Nat.lt_irrefl _)
  · exact .inr ⟨st, rfl, inv_miss h hk hx⟩
theorem St.none {i k s fr : Nat} (h : St many fits n m i k s fr) (hs : s = 0) (hk : k < m) (hx : i = n ∨ (many i = false ∧ fits i k = false)) : ¬ Mt many fits n m 0 0 := by
  rcases h with ⟨rfl, rfl, h⟩ | ⟨st, rfl, h⟩
  · exact inv_none h hk hx
  · exact absurd hs (by omega)
theorem St.fin {i s fr : Nat} (h : St many fits n m i m s fr) : Mt many fits n m 0 0 ↔ ∀ x, i ≤ x → x < n → many x = true := by
  rcases h with ⟨rfl, rfl, h⟩ | ⟨st, rfl, h⟩
  · exact inv_end0 h
  · exact inv_end1 h
end

/-- Do the pieces from i on fit the things from k on? By d rounds. -/
def mtB (many : Nat → Bool) (fits : Nat → Nat → Bool) (n m : Nat) : Nat → Nat → Nat → Bool
  | 0, i, k => decide (i = n) && decide (k = m)
  | d + 1, i, k => if i < n then (if many i = true then (mtB many fits n m d (i + 1) k || (decide (k < m) && mtB many fits n m d i (k + 1))) else (decide (k < m) && (fits i k && mtB many fits n m d (i + 1) (k + 1)))) else decide (k = m)
theorem mtB_iff {many : Nat → Bool} {fits : Nat → Nat → Bool} {n m : Nat} : ∀ (d i k : Nat), i ≤ n → k ≤ m → (n - i) + (m - k) ≤ d → (mtB many fits n m d i k = true ↔ Mt many fits n m i k)
  | 0, i, k, hi, hk, hd => by
    obtain rfl : i = n := by omega
    obtain rfl : k = m := by omega
    simp only [mtB, decide_true, Bool.and_self, true_iff]
    exact .done
  | d + 1, i, k, hi, hk, hd => by
    rw [mtB]
    by_cases h : i < n
    · rw [if_pos h]
      have i1 := mtB_iff (many := many) (fits := fits) (n := n) (m := m) d (i + 1) k (by omega) hk (by omega)
      cases hm : many i with
      | true =>
        rw [if_pos rfl, Bool.or_eq_true, i1, Bool.and_eq_true, decide_eq_true_eq]
        constructor
        · rintro (a | ⟨a, b⟩)
          · exact .skip i k h hm a
          · replace a : k < m := a
            exact .eat i k h hm a ((mtB_iff d i (k + 1) hi a (by omega)).1 b)
        · intro a
          cases a with
          | done => omega
          | skip _ _ h1 h2 h3 => exact .inl h3
          | eat _ _ h1 h2 h3 h4 => exact .inr ⟨h3, (mtB_iff d i (k + 1) hi (by omega) (by omega)).2 h4⟩
          | one _ _ h1 h2 h3 h4 h5 => rw [hm] at h2; cases h2
      | false =>
        rw [if_neg Bool.false_ne_true, Bool.and_eq_true, Bool.and_eq_true, decide_eq_true_eq]
        constructor
        · rintro ⟨a, b, c⟩
          replace a : k < m := a
          exact .one i k h hm a b ((mtB_iff d (i + 1) (k + 1) (by omega) a (by omega)).1 c)
        · intro a
          obtain ⟨a, b, c⟩ := a.one_inv h hm
          exact ⟨a, b, (mtB_iff d (i + 1) (k + 1) (by omega) (by omega) (by omega)).2 c⟩
    · obtain rfl : i = n := by omega
      rw [if_neg h, decide_eq_true_eq]
      constructor
      · rintro rfl; exact .done
      · exact fun a => a.end_inv
/-- All of them. -/
def mtAll (many : Nat → Bool) (fits : Nat → Nat → Bool) (n m : Nat) : Bool := mtB many fits n m (n + m) 0 0
theorem mtAll_iff {many : Nat → Bool} {fits : Nat → Nat → Bool} {n m : Nat} : mtAll many fits n m = true ↔ Mt many fits n m 0 0 := mtB_iff _ _ _ (Nat.zero_le _) (Nat.zero_le _) (by omega)

end Go.Proofs.YtdaofffedfccmaaDoor.XGlob
