/- MatchRuns: a text of one byte has few tokens: plain facts. It has no conditions. -/
import Derived.Test.YtlgdjacgdflfaaaYMatchPure
namespace Go.Proofs.Ytlgdjacgdflfaaa.XMatchTokens
set_option linter.unusedVariables false
set_option linter.unusedSimpArgs false
open Go.RowKit Go.Proofs.YtlgdjacgdflfaaaW.PrintWords Go.Proofs.YtlgdjacgdflfaaaW.PrintLast Go.Proofs.YtlgdjacgdflfaaaW.PrintMore
/-- A text of one byte. -/
def One (S : ByteArray) (c : Int) : Prop := ∀ i, i < S.size → bt S (i : Int) = c
theorem one_hv {S : ByteArray} {c : Int} (h : One S c) (p q : Nat) (hp : p + 3 ≤ S.size) (hq : q + 3 ≤ S.size) : hv S p = hv S q := by
  unfold hv
  rw [h p (by omega), h q (by omega), h (p + 1) (by omega), h (q + 1) (by omega), h (p + 2) (by omega), h (q + 2) (by omega)]
theorem one_same {S : ByteArray} {c : Int} (h : One S c) (p b : Nat) (hb : b < p) (hp : p ≤ S.size) : sameN S p b = min 258 (S.size - p) := by
  obtain ⟨s1, s2, s3, s4⟩ := sm_spec S p b 258 0
  unfold sameN
  by_cases h1 : sm S p b 258 0 < 258
  · have h2 := s4 (by omega)
    by_cases h3 : p + sm S p b 258 0 < S.size
    · exact absurd ⟨h1, h3, by rw [h _ h3, h _ (by omega)]⟩ h2
    · by_cases h0 : sm S p b 258 0 = 0
      · omega
      · have := (s3 (sm S p b 258 0 - 1) (by omega) (by omega)).1
        omega
  · have := (s3 257 (by omega) (by omega)).1
    omega
theorem findl_top {S : ByteArray} {c : Int} (h : One S c) (AA : Nat → Int) (p q : Nat) (hq : q ≤ p) (hp : p < S.size) (hA : ∀ i, i < S.size → -1 ≤ AA i ∧ (AA i < q ∨ AA i < 1)) : ∀ (t : Nat) (be : Int) (ba : Nat), be < p → findl S AA p t be (min 258 (S.size - p)) ba = (min 258 (S.size - p), ba)
  | 0, be, ba, _ => rfl
  | t + 1, be, ba, h1 => by
    unfold findl
    have hM : ∃ M : Int, (if (p : Int) - 32768 < 0 then (0 : Int) else (p : Int) - 32768) = M ∧ 0 ≤ M := ⟨_, rfl, by split <;> omega⟩
    obtain ⟨M, hM, hM0⟩ := hM
    rw [hM]
    by_cases h2 : be < M
    · rw [if_pos h2]
    · obtain ⟨b, rfl⟩ : ∃ b : Nat, be = b := ⟨be.toNat, by omega⟩
      rw [if_neg h2, Int.toNat_natCast, one_same h p b (by omega) (by omega), if_neg (by omega)]
      have hb := hA b (by omega)
      exact findl_top h AA p q hq hp hA t _ _ (by omega)
theorem one_find {S : ByteArray} {c : Int} (h : One S c) (tries : Nat) (ht : 0 < tries) (LL AA : Nat → Int) (p : Nat) (hp0 : 0 < p) (hp : p + 3 ≤ S.size) (hBd : Bd S LL AA p) (hL : LL (hv S p).toNat = ((p - 1 : Nat) : Int)) : find S tries LL AA p = (min 258 (S.size - p), 1) := by
  obtain ⟨t, rfl⟩ : ∃ t, tries = t + 1 := ⟨tries - 1, by omega⟩
  have e : findl S AA p (t + 1) ((p - 1 : Nat) : Int) 2 0 = (min 258 (S.size - p), 1) := by
    unfold findl
    have hM : ∃ M : Int, (if (p : Int) - 32768 < 0 then (0 : Int) else (p : Int) - 32768) = M ∧ M ≤ (p : Int) - 1 := ⟨_, rfl, by split <;> omega⟩
    obtain ⟨M, hM, hM0⟩ := hM
    rw [hM, if_neg (by omega), Int.toNat_natCast, one_same h p (p - 1) (by omega) (by omega), if_pos (by omega), show p - (p - 1) = 1 from by omega]
    have hb := hBd.2 (p - 1) (by omega)
    exact findl_top h AA p p (Nat.le_refl _) (by omega) hBd.2 t _ _ (by omega)
  unfold find
  rw [if_neg (by omega), hL, e, if_neg (by show ¬ (1 : Nat) = 0; decide)]
theorem one_look {S : ByteArray} {c : Int} (h : One S c) (level : Nat) (hl : 1 ≤ level) (tries : Nat) (ht : 0 < tries) (LL AA : Nat → Int) (p : Nat) (hp0 : 0 < p) (hp : p + 3 ≤ S.size) (hBd : Bd S LL AA p) (hL : LL (hv S p).toNat = ((p - 1 : Nat) : Int)) : lookf level S tries LL AA p = (min 258 (S.size - p), 1) := by
  have hf := one_find h tries ht LL AA p hp0 hp hBd hL
  have h2 := find_good S tries LL AA (p + 1) p (by omega) hBd
  have h3 := find_le S tries LL AA (p + 1)
  unfold lookf
  rw [if_neg (by omega), hf]
  by_cases h1 : level = 1
  · rw [if_pos h1]
  · rw [if_neg h1]
    by_cases h4 : min 258 (S.size - p) = 0 ∨ min 258 (S.size - p) = 258
    · rw [if_pos h4]
    · rw [if_neg h4, if_neg]
      show ¬ min 258 (S.size - p) < (find S tries LL AA (p + 1)).1
      rcases h2 with h2 | h2
      · rw [h2]; show ¬ _ < 0; omega
      · have := h2.2.2.2.2.2.1
        omega
theorem short_look (S : ByteArray) (level tries : Nat) (LL AA : Nat → Int) (p : Nat) (hp : S.size < p + 3) : lookf level S tries LL AA p = (0, 0) := by
  have hf : find S tries LL AA p = (0, 0) := if_pos hp
  unfold lookf
  rw [hf]
  split
  · rfl
  · split
    · rfl
    · rw [if_pos (.inl rfl)]
theorem start_look (S : ByteArray) (level tries : Nat) (AA : Nat → Int) : lookf level S tries (fun _ => -1) AA 0 = (0, 0) := by
  have hl : ∀ t, findl S AA 0 t (-1) 2 0 = (2, 0) := by
    intro t
    cases t with
    | zero => rfl
    | succ t =>
      unfold findl
      rw [if_pos (by decide)]
  have hf : find S tries (fun _ => -1) AA 0 = (0, 0) := by
    unfold find
    split
    · rfl
    · rw [if_pos (by rw [hl])]
  unfold lookf
  rw [hf]
  split
  · rfl
  · split
    · rfl
    · rw [if_pos (.inl rfl)]
theorem ents_last {S : ByteArray} {c : Int} (h : One S c) (p : Nat) (st : (Nat → Int) × (Nat → Int)) (j : Nat) (hj : 0 < j) (hp : p + j + 3 ≤ S.size) : (ents S p st j).1 (hv S (p + j)).toNat = ((p + j - 1 : Nat) : Int) := by
  obtain ⟨i, rfl⟩ : ∃ i, j = i + 1 := ⟨j - 1, by omega⟩
  show entL S (p + i) (ents S p st i).1 _ = _
  unfold entL upd
  rw [if_pos (by omega), if_pos (by rw [one_hv h (p + (i + 1)) (p + i) (by omega) (by omega)])]
  rfl
/-- How far a run is, and with how many tokens. -/
def Few (K p n : Nat) : Prop := (p = 0 ∧ n = 0) ∨ ∃ j e, 1 + 258 * j ≤ p ∧ e ≤ 2 ∧ n ≤ 1 + j + e ∧ ((e = 0 ∧ p = 1 + 258 * j) ∨ (p + 3 > K ∧ K < 1 + 258 * j + 3 ∧ p = 1 + 258 * j + e) ∨ p = K)
theorem run_few {level : Nat} (hl : 1 ≤ level) {S : ByteArray} {c : Int} (h1 : One S c) {p : Nat} {l : List S30} {LL AA : Nat → Int} (h : Run level S p l LL AA) :
    Few S.size p l.length ∧ (p = 0 → LL = (fun _ => -1) ∧ AA = fun _ => 0) ∧ (0 < p → p + 3 ≤ S.size → LL (hv S p).toNat = ((p - 1 : Nat) : Int)) := by
  have ht : 0 < triesOf level := by unfold triesOf; split <;> (try split) <;> (try split) <;> omega
  induction h with
  | start => exact ⟨.inl ⟨rfl, rfl⟩, fun _ => ⟨rfl, rfl⟩, fun h => absurd h (by omega)⟩
  | @step p l LL AA hr hp ih =>
    obtain ⟨i1, i2, i3⟩ := ih
    have hbd := hr.bd.1
    have hst := step_le level S (triesOf level) LL AA p hp hbd
    have hlen : ∀ t : S30, (l ++ [t]).length = l.length + 1 := fun t => by simp
    refine ⟨?_, fun h0 => by omega, fun _ h3 => ents_last h1 p (LL, AA) _ (by omega) h3⟩
    rw [hlen]
    rcases i1 with ⟨rfl, h0⟩ | ⟨j, e, a1, a2, a3, a4⟩
    · obtain ⟨rfl, rfl⟩ := i2 rfl
      rw [start_look]
      have hs : stepOf (0, 0) = 1 := rfl
      rw [hs]
      have k1 : 1 + 258 * 0 ≤ 0 + 1 := by omega
      have k2 : l.length + 1 ≤ 1 + 0 + 0 := by omega
      refine .inr ⟨0, 0, k1, Nat.zero_le 2, k2, .inl ⟨rfl, ?_⟩⟩
      rfl
    · by_cases h3 : p + 3 ≤ S.size
      · have e0 : e = 0 ∧ p = 1 + 258 * j := by rcases a4 with a4 | a4 | a4 <;> omega
        have hk := one_look h1 level hl (triesOf level) ht LL AA p (by omega) h3 hbd (i3 (by omega) h3)
        rw [hk]
        have hs : stepOf (min 258 (S.size - p), 1) = min 258 (S.size - p) := if_neg (by show ¬ min 258 (S.size - p) = 0; omega)
        rw [hs]
        by_cases hm : 258 ≤ S.size - p
        · have m1 : min 258 (S.size - p) = 258 := by omega
          obtain ⟨M, hM⟩ : ∃ M, min 258 (S.size - p) = M := ⟨_, rfl⟩
          have m2 : M = 258 := by rw [← hM, m1]
          rw [hM]
          clear hs hk hM m1
          obtain ⟨e00, e01⟩ := e0
          have k3 : p + M = 1 + 258 * (j + 1) := by rw [Nat.mul_succ, ← Nat.add_assoc, ← e01, m2]
          have k1 : 1 + 258 * (j + 1) ≤ p + M := Nat.le_of_eq k3.symm
          have k2 : l.length + 1 ≤ 1 + (j + 1) + 0 := by omega
          exact .inr ⟨j + 1, 0, k1, Nat.zero_le 2, k2, .inl ⟨rfl, k3⟩⟩
        · have m1 : min 258 (S.size - p) = S.size - p := by omega
          rw [m1]
          have k1 : 1 + 258 * j ≤ p + (S.size - p) := by omega
          have k2 : l.length + 1 ≤ 1 + j + 1 := by omega
          have k3 : p + (S.size - p) = S.size := by omega
          exact .inr ⟨j, 1, k1, by decide, k2, .inr (.inr k3)⟩
      · rw [short_look S level _ LL AA p (by omega)]
        have hs : stepOf (0, 0) = 1 := rfl
        rw [hs]
        rcases a4 with ⟨rfl, a4⟩ | ⟨b1, b2, b3⟩ | a4
        · exact .inr ⟨j, 1, by omega, by omega, by omega, .inr (.inl ⟨by omega, by omega, by omega⟩)⟩
        · exact .inr ⟨j, e + 1, by omega, by omega, by omega, .inr (.inl ⟨by omega, by omega, by omega⟩)⟩
        · omega
theorem run_count {level : Nat} (hl : 1 ≤ level) {S : ByteArray} {c : Int} (h1 : One S c) {l : List S30} {LL AA : Nat → Int} (h : Run level S S.size l LL AA) : l.length ≤ 4 + S.size / 258 := by
  rcases (run_few hl h1 h).1 with ⟨_, h0⟩ | ⟨j, e, a1, a2, a3, _⟩
  · omega
  · omega
end Go.Proofs.Ytlgdjacgdflfaaa.XMatchTokens
