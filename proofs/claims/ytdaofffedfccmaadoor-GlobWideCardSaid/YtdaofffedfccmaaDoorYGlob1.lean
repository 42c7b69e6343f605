/- Glob: parts of a text. It has no conditions. -/
import Derived.Test.YtdaofffedfccmaaDoorXSplit
import Derived.BigRegion
import Derived.RegionTactic
import Derived.ChangeAlike
import Derived.Deep.RegionWith
import Derived.Deep.RegionLaw
import Derived.Laws.Tables
import Derived.Deep.QuietTactic
import Derived.BigQuiet
import Derived.Deep.RegionHeld3
import Derived.Deep.AppendLies
import Derived.Deep.DrawnRows
import Derived.Laws.CopyOwn
import Derived.Deep.MidRow
import Derived.Laws.ResultCell
import Derived.ChangeKeysEq
import Derived.Laws.BitsAllLaws
namespace Go.Proofs.YtdaofffedfccmaaDoor.XGlob
set_option linter.unusedVariables false
set_option linter.unusedSimpArgs false
open Go.RowKit Go.Proofs.YtdaofffedfccmaaDoorW.PrintWords Go.Proofs.YtdaofffedfccmaaDoorW.PrintLast Go.Proofs.YtdaofffedfccmaaDoorW.PrintMore
attribute [local go_sem] max2_int min2_int max_two min_two max_three min_three max_four min_four
/-! ### Parts, between bytes '/'. -/
def sp : List UInt8 → List (List UInt8)
  | [] => [[]]
  | c :: l => if c = 47 then [] :: sp l else match sp l with
    | [] => [[c]]
    | h :: t => (c :: h) :: t
theorem sp_ne (l : List UInt8) : sp l ≠ [] := by
  cases l with
  | nil => simp [sp]
  | cons c l =>
    rw [sp]
    by_cases h : c = 47
    · rw [if_pos h]; simp
    · rw [if_neg h]; split <;> simp
theorem sp_slash (l : List UInt8) : sp (47 :: l) = [] :: sp l := by rw [sp, if_pos rfl]
theorem sp_other (c : UInt8) (l : List UInt8) (h : c ≠ 47) : ∃ a t, sp l = a :: t ∧ sp (c :: l) = (c :: a) :: t := by
  cases hl : sp l with
  | nil => exact absurd hl (sp_ne l)
  | cons a t => exact ⟨a, t, rfl, by rw [sp, if_neg h, hl]⟩
/-- A piece without '/' ahead of the rest. -/
theorem sp_free : ∀ (u l : List UInt8), 47 ∉ u → ∃ a t, sp l = a :: t ∧ sp (u ++ l) = (u ++ a) :: t
  | [], l, _ => by
    cases hl : sp l with
    | nil => exact absurd hl (sp_ne l)
    | cons a t => exact ⟨a, t, rfl, hl⟩
  | c :: u, l, h => by
    obtain ⟨a, t, h1, h2⟩ := sp_free u l (fun hm => h (List.mem_cons_of_mem _ hm))
    obtain ⟨a2, t2, h3, h4⟩ := sp_other c (u ++ l) (fun e => h (by rw [e]; exact List.mem_cons_self))
    rw [h2] at h3
    obtain ⟨rfl, rfl⟩ := List.cons.inj h3
    exact ⟨a, t, h1, h4⟩
theorem sp_whole (u : List UInt8) (h : 47 ∉ u) : sp u = [u] := by
  obtain ⟨a, t, h1, h2⟩ := sp_free u [] h
  obtain ⟨rfl, rfl⟩ : a = [] ∧ t = [] := by
    have : sp [] = [[]] := rfl
    rw [this] at h1
    obtain ⟨h3, h4⟩ := List.cons.inj h1
    exact ⟨h3.symm, h4.symm⟩
  simpa using h2
theorem sp_cut (u l : List UInt8) (h : 47 ∉ u) : sp (u ++ 47 :: l) = u :: sp l := by
  obtain ⟨a, t, h1, h2⟩ := sp_free u (47 :: l) h
  rw [sp_slash] at h1
  obtain ⟨rfl, rfl⟩ := List.cons.inj h1
  simpa using h2
/-- Two texts with '/' between. -/
theorem sp_join : ∀ (u l : List UInt8), sp (u ++ 47 :: l) = sp u ++ sp l
  | [], l => by rw [List.nil_append, sp_slash]; rfl
  | c :: u, l => by
    have ih := sp_join u l
    by_cases h : c = 47
    · subst h
      rw [List.cons_append, sp_slash, sp_slash, ih]; rfl
    · obtain ⟨a, t, h1, h2⟩ := sp_other c (u ++ 47 :: l) h
      obtain ⟨a2, t2, h3, h4⟩ := sp_other c u h
      rw [ih, h3, List.cons_append] at h1
      obtain ⟨rfl, rfl⟩ := List.cons.inj h1
      rw [List.cons_append, h2, h4]; rfl
theorem sp_parts : ∀ (l : List UInt8) (p : List UInt8), p ∈ sp l → 47 ∉ p
  | [], p, h => by simp [sp] at h; subst h; simp
  | c :: l, p, h => by
    by_cases hc : c = 47
    · subst hc
      rw [sp_slash] at h
      rcases List.mem_cons.1 h with rfl | h
      · simp
      · exact sp_parts l p h
    · obtain ⟨a, t, h1, h2⟩ := sp_other c l hc
      rw [h2] at h
      rcases List.mem_cons.1 h with rfl | h
      · intro hm
        rcases List.mem_cons.1 hm with e | hm
        · exact hc e.symm
        · exact sp_parts l a (by rw [h1]; exact List.mem_cons_self) hm
      · exact sp_parts l p (by rw [h1]; exact List.mem_cons_of_mem _ h)
theorem sp_le : ∀ (l : List UInt8) (p : List UInt8), p ∈ sp l → p.length ≤ l.length
  | [], p, h => by simp [sp] at h; subst h; simp
  | c :: l, p, h => by
    by_cases hc : c = 47
    · subst hc
      rw [sp_slash] at h
      rcases List.mem_cons.1 h with rfl | h
      · simp
      · have := sp_le l p h; simp; omega
    · obtain ⟨a, t, h1, h2⟩ := sp_other c l hc
      rw [h2] at h
      rcases List.mem_cons.1 h with rfl | h
      · have := sp_le l a (by rw [h1]; exact List.mem_cons_self); simp; omega
      · have := sp_le l p (by rw [h1]; exact List.mem_cons_of_mem _ h); simp; omega
theorem sp_inj : ∀ (l m : List UInt8), sp l = sp m → l = m
  | [], [], _ => rfl
  | [], c :: m, h => by
    by_cases hc : c = 47
    · subst hc
      rw [sp_slash] at h
      have h2 : sp [] = [[]] := rfl
      rw [h2] at h
      have h3 := (List.cons.inj h).2
      exact absurd h3.symm (sp_ne m)
    · obtain ⟨a, t, h1, h2⟩ := sp_other c m hc
      have h3 : sp [] = [[]] := rfl
      rw [h2, h3] at h
      have := (List.cons.inj h).1
      cases this
  | c :: l, [], h => by
    by_cases hc : c = 47
    · subst hc
      rw [sp_slash] at h
      have h2 : sp [] = [[]] := rfl
      rw [h2] at h
      exact absurd (List.cons.inj h).2 (sp_ne l)
    · obtain ⟨a, t, h1, h2⟩ := sp_other c l hc
      have h3 : sp [] = [[]] := rfl
      rw [h2, h3] at h
      have := (List.cons.inj h).1
      cases this
  | c :: l, d :: m, h => by
    by_cases hc : c = 47
    · by_cases hd : d = 47
      · subst hc; subst hd
        rw [sp_slash, sp_slash] at h
        rw [sp_inj l m (List.cons.inj h).2]
      · subst hc
        obtain ⟨a, t, h1, h2⟩ := sp_other d m hd
        rw [sp_slash, h2] at h
        have := (List.cons.inj h).1
        cases this
    · obtain ⟨a, t, h1, h2⟩ := sp_other c l hc
      by_cases hd : d = 47
      · subst hd
        rw [sp_slash, h2] at h
        have := (List.cons.inj h).1
        cases this
      · obtain ⟨a2, t2, h3, h4⟩ := sp_other d m hd
        rw [h2, h4] at h
        obtain ⟨e1, e2⟩ := List.cons.inj h
        obtain ⟨e3, e4⟩ := List.cons.inj e1
        rw [e3, sp_inj l m (by rw [h1, h3, e4, e2])]
theorem sp_index : ∀ (s : List UInt8), (Lib.indexByte s 47 = -1 ∧ sp s = [s] ∧ s.count 47 = 0) ∨ (∃ i : Nat, Lib.indexByte s 47 = i ∧ sp s = s.take i :: sp (s.drop (i + 1)) ∧ (s.drop (i + 1)).count 47 + 1 = s.count 47)
  | [] => .inl ⟨rfl, rfl, rfl⟩
  | c :: l => by
    by_cases hc : c = 47
    · subst hc
      refine .inr ⟨0, ?_, ?_, ?_⟩
      · rw [Lib.indexByte, if_pos (by decide)]; rfl
      · rw [sp_slash]; rfl
      · rw [List.count_cons_self]; rfl
    · have hb : ¬ (c == 47) = true := fun e => hc (beq_iff_eq.1 e)
      obtain ⟨a, t, h1, h2⟩ := sp_other c l hc
      rcases sp_index l with ⟨i1, i2, i3⟩ | ⟨i, i1, i2, i3⟩
      · refine .inl ⟨?_, ?_, ?_⟩
        · rw [Lib.indexByte, if_neg hb, if_pos (by rw [i1]; rfl)]
        · rw [i2] at h1
          obtain ⟨rfl, rfl⟩ := List.cons.inj h1
          exact h2
        · rw [List.count_cons_of_ne hc]; exact i3
      · refine .inr ⟨i + 1, ?_, ?_, ?_⟩
        · rw [Lib.indexByte, if_neg hb, i1, if_neg (by rw [beq_iff_eq]; omega)]; rfl
        · rw [i2] at h1
          obtain ⟨rfl, rfl⟩ := List.cons.inj h1
          rw [h2]; rfl
        · rw [List.count_cons_of_ne hc]; exact i3
theorem splitK_sp : ∀ (k : Nat) (s : List UInt8), s.count 47 ≤ k → Lib.splitK [47] 0 k s = sp s
  | 0, s, h => by
    rcases sp_index s with ⟨_, i2, _⟩ | ⟨i, _, _, i3⟩
    · rw [i2]; rfl
    · omega
  | k + 1, s, h => by
    rw [Lib.splitK, Lib.index_one]
    rcases sp_index s with ⟨i1, i2, _⟩ | ⟨i, i1, i2, i3⟩
    · rw [if_pos (by rw [i1]; rfl), i2]
    · rw [if_neg (by rw [i1, beq_iff_eq]; omega), i1, i2]
      have e1 : ((i : Int)).toNat = i := rfl
      rw [e1, Nat.add_zero, splitK_sp k _ (by have e : i + ([47] : List UInt8).length = i + 1 := rfl; rw [e]; omega)]
      rfl

end Go.Proofs.YtdaofffedfccmaaDoor.XGlob
