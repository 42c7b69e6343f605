/- Option: the document cut, number and has. It has no conditions. -/
import Derived.Lib.IndexLaws
import Derived.Lib.AtoiTie
import Derived.Test.YtdaofffedfccmaaDoorXOptionAnyx2
import Derived.BigRegion
import Derived.RegionTactic
import Derived.ChangeAlike
import Derived.Deep.RegionWith
import Derived.Deep.RegionLaw
import Derived.Laws.Tables
import Derived.Deep.QuietTactic
import Derived.BigQuiet
import Derived.Deep.RegionHeld3
import Derived.Deep.AppendLies
import Derived.Deep.DrawnRows
import Derived.Laws.CopyOwn
import Derived.Deep.MidRow
import Derived.Laws.ResultCell
import Derived.ChangeKeysEq
import Derived.Laws.BitsAllLaws
namespace Go.Proofs.YtdaofffedfccmaaDoor.OptP
set_option linter.unusedVariables false
set_option linter.unusedSimpArgs false
open Go.RowKit Go.Proofs.YtdaofffedfccmaaDoorW.PrintWords Go.Proofs.YtdaofffedfccmaaDoorW.PrintLast Go.Proofs.YtdaofffedfccmaaDoorW.PrintMore
attribute [local go_sem] max2_int min2_int max_two min_two max_three min_three max_four min_four
open XOptionAny
/-! ### The document's cut, number and has. -/
theorem w64c {x : Int} (h0 : -9223372036854775808 ≤ x) (h1 : x ≤ 9223372036854775807) : wrap64 x = x := by unfold wrap64; omega
theorem bt_list (s : ByteArray) (i : Nat) (h : i < s.size) : ∃ c : UInt8, s.data.toList[i]? = some c ∧ bt s (i : Int) = (c.toNat : Int) := by
  refine ⟨s[i], ?_, ?_⟩
  · rw [Array.getElem?_toList]
    exact Array.getElem?_eq_getElem h
  · exact (bt_at s (i : Int) h).symm
theorem cut_l0 (s : ByteArray) (hs : s.size ≤ 1000) : ∀ (e i : Nat), i + e = s.size → (∀ j, j < i → s.data.toList[j]? ≠ some 61) → Ev (fun k => montageref31_cut.l0 k s (i : Int)) (XGlob.cutA s 61) := by
  intro e
  induction e with
  | zero =>
    intro i hi hno
    refine Ev.step (f := fun _ => some (XGlob.cutA s 61)) (fun k => ?_) (Ev.now _)
    rw [montageref31_cut.l0, if_neg (by omega)]
    have hx : Lib.indexByte s.data.toList 61 = -1 := by
      have h0 := Lib.indexByte_ge s.data.toList 61
      by_cases h1 : Lib.indexByte s.data.toList 61 = -1
      · exact h1
      · obtain ⟨o, ho⟩ : ∃ o : Nat, Lib.indexByte s.data.toList 61 = (o : Int) := ⟨(Lib.indexByte s.data.toList 61).toNat, by omega⟩
        have h2 := (Lib.indexByte_some ho).1
        have h3 : o < s.size := by
          have := (List.getElem?_eq_some_iff.1 h2).1
          simpa using this
        exact absurd h2 (hno o (by omega))
    unfold XGlob.cutA
    rw [hx, if_neg (by decide)]
  | succ e ih =>
    intro i hi hno
    obtain ⟨c, hc, hb⟩ := bt_list s i (by omega)
    by_cases h61 : c = 61
    · subst h61
      refine Ev.step (f := fun _ => some (XGlob.cutA s 61)) (fun k => ?_) (Ev.now _)
      rw [montageref31_cut.l0, if_pos (by omega), if_pos (by omega), hb, if_pos (by decide), if_pos (by omega), w64c (by omega) (by omega), if_pos (by omega), if_pos (by omega)]
      have hx : Lib.indexByte s.data.toList 61 = (i : Int) := by
        have h0 := Lib.indexByte_ge s.data.toList 61
        by_cases h1 : Lib.indexByte s.data.toList 61 = -1
        · exact absurd hc (Lib.indexByte_none h1 i)
        · obtain ⟨o, ho⟩ : ∃ o : Nat, Lib.indexByte s.data.toList 61 = (o : Int) := ⟨(Lib.indexByte s.data.toList 61).toNat, by omega⟩
          obtain ⟨h2, h3⟩ := Lib.indexByte_some ho
          rcases Nat.lt_trichotomy o i with h | h | h
          · exact absurd h2 (hno o h)
          · rw [ho, h]
          · exact absurd hc (h3 i h)
      unfold XGlob.cutA
      rw [hx, if_pos (by omega)]
      rfl
    · refine Ev.step (f := fun k => montageref31_cut.l0 k s ((i + 1 : Nat) : Int)) (fun k => ?_) (ih (i + 1) (by omega) (fun j hj => ?_))
      · rw [montageref31_cut.l0, if_pos (by omega), if_pos (by omega), hb, if_neg (by intro h; exact h61 (UInt8.toNat_inj.1 (by simpa using Int.ofNat.inj h))), w64c (by omega) (by omega)]
        rfl
      · rcases Nat.lt_succ_iff_lt_or_eq.1 hj with h | rfl
        · exact hno j h
        · rw [hc]
          intro h
          injection h with h
          exact h61 h
theorem cut_ev (s : ByteArray) (hs : s.size ≤ 1000) : Ev (fun k => montageref31_cut.f k s) (XGlob.cutA s 61) :=
  Ev.congr (fun _ => rfl) (cut_l0 s hs s.size 0 (by omega) (fun j hj => by omega))
/-! Numbers. -/
def isD (c : UInt8) : Prop := 48 ≤ c.toNat ∧ c.toNat ≤ 57
instance (c : UInt8) : Decidable (isD c) := by unfold isD; exact inferInstance
theorem dec_all : ∀ (l : List UInt8) (acc : Nat), (∀ x ∈ l, isD x) → ∃ n, Lib.decFrom acc l = some n
  | [], acc, _ => ⟨acc, rfl⟩
  | c :: l, acc, h => by
    obtain ⟨n, hn⟩ := dec_all l (acc * 10 + (c.toNat - 48)) (fun x hx => h x (.tail _ hx))
    refine ⟨n, ?_⟩
    rw [Lib.decFrom]
    unfold Lib.digitVal
    rw [if_pos (show 48 ≤ c.toNat ∧ c.toNat ≤ 57 from h c (.head _))]
    exact hn
theorem dec_not : ∀ (l : List UInt8) (acc : Nat), ¬ (∀ x ∈ l, isD x) → Lib.decFrom acc l = none
  | [], acc, h => absurd (fun x hx => by cases hx) h
  | c :: l, acc, h => by
    rw [Lib.decFrom]
    unfold Lib.digitVal
    by_cases hc : isD c
    · rw [if_pos (show 48 ≤ c.toNat ∧ c.toNat ≤ 57 from hc)]
      exact dec_not l _ (fun h2 => h (fun x hx => by cases hx with | head => exact hc | tail _ hx => exact h2 x hx))
    · rw [if_neg (show ¬ (48 ≤ c.toNat ∧ c.toNat ≤ 57) from hc)]
theorem wn1 (a : Nat) (h : a < 10000000) : wrap64 (10 * (a : Int)) = 10 * (a : Int) := w64c (by omega) (by omega)
theorem wn2 (c : Nat) (h : c ≤ 255) : wrap64 (c : Int) = (c : Int) := w64c (by omega) (by omega)
theorem wn3 (a c : Nat) (h : a < 10000000) (h2 : c ≤ 255) : wrap64 (10 * (a : Int) + (c : Int)) = 10 * (a : Int) + (c : Int) := w64c (by omega) (by omega)
theorem wn4 (a c : Nat) (h : a < 10000000) (h2 : c ≤ 255) (h3 : 48 ≤ c) : wrap64 (10 * (a : Int) + (c : Int) - 48) = ((a * 10 + (c - 48) : Nat) : Int) := by rw [w64c (by omega) (by omega)]; omega
theorem wn5 (i : Nat) (h : i ≤ 100000) : wrap64 ((i : Int) + 1) = ((i + 1 : Nat) : Int) := by rw [w64c (by omega) (by omega)]; omega
theorem num_l0 (s : ByteArray) (hs : s.size ≤ 7) : ∀ (e i acc : Nat), i + e = s.size → acc < 10 ^ i → Ev (fun k => montageref31_number.l0 k s (acc : Int) (i : Int)) (match Lib.decFrom acc (s.data.toList.drop i) with | some n => (n : Int) | none => -1) := by
  intro e
  induction e with
  | zero =>
    intro i acc hi ha
    refine Ev.step (f := fun _ => _) (fun k => ?_) (Ev.now _)
    rw [montageref31_number.l0, if_neg (by omega), List.drop_eq_nil_of_le (by show s.data.toList.length ≤ i; rw [Array.length_toList]; exact Nat.le_of_eq hi.symm), Lib.decFrom]
  | succ e ih =>
    intro i acc hi ha
    obtain ⟨c, hc, hb⟩ := bt_list s i (by omega)
    have hd : s.data.toList.drop i = c :: s.data.toList.drop (i + 1) := by
      obtain ⟨h1, h2⟩ := List.getElem?_eq_some_iff.1 hc
      rw [List.drop_eq_getElem_cons h1, h2]
    have ha7 : acc < 10000000 := Nat.lt_of_lt_of_le ha (Nat.pow_le_pow_right (by decide) (show i ≤ 7 by omega))
    have hcr : (c.toNat : Int) ≤ 255 := by have := c.toNat_lt; omega
    rw [hd, Lib.decFrom]
    unfold Lib.digitVal
    by_cases h1 : (c.toNat : Int) < 48
    · rw [if_neg (by omega)]
      refine Ev.step (f := fun _ => _) (fun k => ?_) (Ev.now _)
      rw [montageref31_number.l0, if_pos (by omega), if_pos (by omega), hb, if_pos h1]
    · by_cases h2 : (c.toNat : Int) > 57
      · rw [if_neg (by omega)]
        refine Ev.step (f := fun _ => _) (fun k => ?_) (Ev.now _)
        rw [montageref31_number.l0, if_pos (by omega), if_pos (by omega), hb, if_neg h1, if_pos h2]
      · rw [if_pos (by omega)]
        have hn : acc * 10 + (c.toNat - 48) < 10 ^ (i + 1) := by rw [Nat.pow_succ]; omega
        refine Ev.step (f := fun k => montageref31_number.l0 k s ((acc * 10 + (c.toNat - 48) : Nat) : Int) ((i + 1 : Nat) : Int)) (fun k => ?_) (ih (i + 1) _ (by omega) hn)
        rw [montageref31_number.l0, if_pos (by omega), if_pos (by omega), hb, if_neg h1, if_neg h2]
        rw [wn1 acc ha7, wn2 _ (by omega), wn3 acc _ ha7 (by omega), wn4 acc _ ha7 (by omega) (by omega), wn5 i (by omega)]
theorem dw_nil' {α : Type} (p : α → Bool) : ∀ l : List α, l.dropWhile p = [] ↔ ∀ x ∈ l, p x = true
  | [] => by simp
  | a :: l => by
    by_cases h : p a = true
    · rw [List.dropWhile_cons_of_pos h, dw_nil' p l]
      constructor
      · intro h2 x hx; cases hx with | head => exact h | tail _ hx => exact h2 x hx
      · intro h2 x hx; exact h2 x (.tail _ hx)
    · rw [List.dropWhile_cons_of_neg h]
      constructor
      · intro h2; cases h2
      · intro h2; exact absurd (h2 a (.head _)) h
theorem tw_all' {α : Type} (p : α → Bool) : ∀ (l : List α) (x : α), x ∈ l.takeWhile p → p x = true
  | a :: l, x, h => by
    by_cases ha : p a = true
    · rw [List.takeWhile_cons_of_pos ha] at h
      cases h with
      | head => exact ha
      | tail _ h => exact tw_all' p l x h
    · rw [List.takeWhile_cons_of_neg ha] at h; cases h
theorem trimS_all' (l cs : List UInt8) : Lib.trimS l cs = [] ↔ ∀ x ∈ l, cs.contains x = true := by
  unfold Lib.trimS Lib.trimLeftS Lib.trimRightS
  rw [dw_nil']
  constructor
  · intro h x hx
    have e := List.takeWhile_append_dropWhile (p := fun x => cs.contains x) (l := l.reverse)
    have hm : x ∈ l.reverse := List.mem_reverse.2 hx
    rw [← e] at hm
    rcases List.mem_append.1 hm with hm | hm
    · exact tw_all' _ _ _ hm
    · exact h x (List.mem_reverse.2 hm)
  · intro h x hx
    refine h x ?_
    have := (List.dropWhile_suffix (l := l.reverse) fun x => cs.contains x).subset (List.mem_reverse.1 hx)
    exact List.mem_reverse.1 this
theorem dig_fin : ∀ c : Fin 256, (([48, 49, 50, 51, 52, 53, 54, 55, 56, 57] : List UInt8).contains (UInt8.ofNat c.val) = true) ↔ (48 ≤ c.val ∧ c.val ≤ 57) := by decide +kernel
theorem dig_is (c : UInt8) : (([48, 49, 50, 51, 52, 53, 54, 55, 56, 57] : List UInt8).contains c = true) ↔ isD c := by
  have h := dig_fin ⟨c.toNat, c.toNat_lt⟩
  simpa [isD] using h
theorem ok_iff (s : ByteArray) (dg : Int) : XGlob.okDigits s dg = true ↔ s.data.toList ≠ [] ∧ (s.size : Int) ≤ dg ∧ ∀ x ∈ s.data.toList, isD x := by
  unfold XGlob.okDigits
  simp only [Bool.and_eq_true, Bool.not_eq_true', decide_eq_true_eq, beq_iff_eq, beq_eq_false_iff_ne, trimS_all', ne_eq]
  constructor
  · rintro ⟨h1, h2, h3⟩
    exact ⟨h1, h2, fun x hx => (dig_is x).1 (h3 x hx)⟩
  · rintro ⟨h1, h2, h3⟩
    exact ⟨h1, h2, fun x hx => (dig_is x).2 (h3 x hx)⟩
theorem atoi_dec (l : List UInt8) (n : Nat) (hl : l.length ≤ 18) (hne : l ≠ []) (hd : ∀ x ∈ l, isD x) (h : Lib.decFrom 0 l = some n) : XGlob.atoiV l = (n : Int) := by
  unfold XGlob.atoiV
  rw [Lib.atoiAll_short l hl]
  cases l with
  | nil => exact absurd rfl hne
  | cons c r =>
    have hc := hd c (.head _)
    have h1 : (c == 45) = false := by
      rw [beq_eq_false_iff_ne]; rintro rfl; revert hc; decide
    have h2 : (c == 43) = false := by
      rw [beq_eq_false_iff_ne]; rintro rfl; revert hc; decide
    have hdn : Lib.decNat (c :: r) = some n := by
      unfold Lib.decNat
      rw [if_neg (by simp)]
      exact h
    rw [Lib.atoi, h1, h2, if_neg (by decide), if_neg (by decide), hdn]
    rfl
/-- The document's number, and the program's. -/
def numZ (s : ByteArray) (dg : Int) : Int := if XGlob.okDigits s dg = true then XGlob.atoiV s.data.toList else -1
theorem num_ev (s : ByteArray) (dg : Int) (hdg : dg ≤ 7) (hs : s.size ≤ 1000) : Ev (fun k => montageref31_number.f k s dg) (numZ s dg) ∧ (XGlob.okDigits s dg = true → 0 ≤ XGlob.atoiV s.data.toList) := by
  have hno : ∀ b, XGlob.okDigits s dg ≠ true → b = true → Ev (fun k => montageref31_number.j0 k s b) (numZ s dg) := by
    rintro b h rfl
    unfold numZ
    rw [if_neg h]
    refine Ev.step (f := fun _ => _) (fun k => ?_) (Ev.now _)
    rw [montageref31_number.j0, if_pos rfl]
  have hlen : s.data.toList.length = s.size := by rw [Array.length_toList]; rfl
  by_cases h0 : (s.size : Int) < 1
  · have hno1 : XGlob.okDigits s dg ≠ true := by
      intro h
      have := (ok_iff s dg).1 h
      exact this.1 (List.eq_nil_of_length_eq_zero (by omega))
    refine ⟨?_, fun h => absurd h hno1⟩
    exact Ev.congr (f := fun k => montageref31_number.j0 k s true) (fun k => by unfold montageref31_number.f; rw [if_pos h0]) (hno true hno1 rfl)
  · by_cases h1 : (s.size : Int) > dg
    · have hno1 : XGlob.okDigits s dg ≠ true := by
        intro h
        have := (ok_iff s dg).1 h
        omega
      refine ⟨?_, fun h => absurd h hno1⟩
      exact Ev.congr (f := fun k => montageref31_number.j0 k s true) (fun k => by unfold montageref31_number.f; rw [if_neg h0, decide_eq_true h1]) (hno true hno1 rfl)
    · have hgo := num_l0 s (by omega) s.size 0 0 (by omega) (by decide)
      rw [List.drop_zero] at hgo
      have hne : s.data.toList ≠ [] := by intro h; rw [h] at hlen; simp at hlen; omega
      have key : (match Lib.decFrom 0 s.data.toList with | some n => (n : Int) | none => -1) = numZ s dg ∧ (XGlob.okDigits s dg = true → 0 ≤ XGlob.atoiV s.data.toList) := by
        unfold numZ
        by_cases hd : ∀ x ∈ s.data.toList, isD x
        · obtain ⟨n, hn⟩ := dec_all s.data.toList 0 hd
          rw [if_pos ((ok_iff s dg).2 ⟨hne, by omega, hd⟩), hn, atoi_dec _ n (by omega) hne hd hn]
          exact ⟨rfl, fun _ => Int.natCast_nonneg n⟩
        · have hno1 : XGlob.okDigits s dg ≠ true := fun h => hd ((ok_iff s dg).1 h).2.2
          rw [dec_not _ 0 hd, if_neg hno1]
          exact ⟨rfl, fun h => absurd h hno1⟩
      refine ⟨?_, key.2⟩
      rw [← key.1]
      refine Ev.congr (f := fun k => montageref31_number.j0 k s false) (fun k => by unfold montageref31_number.f; rw [if_neg h0, decide_eq_false h1]) ?_
      refine Ev.step (f := fun k => montageref31_number.l0 k s 0 0) (fun k => ?_) hgo
      rw [montageref31_number.j0, if_neg (by decide)]
theorem rd_at {α : Type} (d : α) (l : List α) (i : Nat) (x : α) (h : l[i]? = some x) : rdOf d l (i : Int) = x := by
  unfold rdOf
  rw [Int.toNat_natCast, List.getD_eq_getElem?_getD, h]
  rfl
theorem has_l0 (l : List ByteArray) (a : ByteArray) (hl : l.length ≤ 1000) : ∀ (e i : Nat), i + e = l.length → Ev (fun k => montageref31_has.l0 k l a (i : Int)) (decide (a.data.toList ∈ (l.drop i).map (·.data.toList))) := by
  intro e
  induction e with
  | zero =>
    intro i hi
    refine Ev.step (f := fun _ => _) (fun k => ?_) (Ev.now _)
    rw [montageref31_has.l0, if_neg (by omega), List.drop_eq_nil_of_le (by omega)]
    simp
  | succ e ih =>
    intro i hi
    have hlt : i < l.length := by omega
    have hx : l[i]? = some l[i] := List.getElem?_eq_getElem hlt
    rw [List.drop_eq_getElem_cons hlt]
    by_cases he : l[i].data.toList = a.data.toList
    · refine Ev.step (f := fun _ => _) (fun k => ?_) (Ev.now _)
      rw [montageref31_has.l0, if_pos (by omega), if_pos (by omega), rd_at _ _ _ _ hx, Lib.toList_data, Lib.toList_data, if_pos he]
      rw [decide_eq_true (by rw [List.map_cons, he]; exact .head _)]
    · refine Ev.step (f := fun k => montageref31_has.l0 k l a ((i + 1 : Nat) : Int)) (fun k => ?_) ?_
      · rw [montageref31_has.l0, if_pos (by omega), if_pos (by omega), rd_at _ _ _ _ hx, Lib.toList_data, Lib.toList_data, if_neg he, w64c (by omega) (by omega)]
        rfl
      · have := ih (i + 1) (by omega)
        have hq : decide (a.data.toList ∈ (l[i] :: l.drop (i + 1)).map (·.data.toList)) = decide (a.data.toList ∈ (l.drop (i + 1)).map (·.data.toList)) := by
          rw [List.map_cons, decide_eq_decide, List.mem_cons]
          exact ⟨fun h => h.resolve_left (fun e => he e.symm), .inr⟩
        rw [hq]
        exact this
theorem has_ev (l : List ByteArray) (a : ByteArray) (hl : l.length ≤ 1000) : Ev (fun k => montageref31_has.f k l a) (decide (a.data.toList ∈ (l.map (·.data.toList)).reverse)) := by
  have h := has_l0 l a hl l.length 0 (by omega)
  rw [List.drop_zero] at h
  have hq : decide (a.data.toList ∈ (l.map (·.data.toList)).reverse) = decide (a.data.toList ∈ l.map (·.data.toList)) := by
    rw [decide_eq_decide, List.mem_reverse]
  rw [hq]
  exact Ev.congr (fun _ => rfl) h

end Go.Proofs.YtdaofffedfccmaaDoor.OptP
