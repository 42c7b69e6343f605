/- Armor: lines and names It has no conditions. -/
import Derived.Test.YtdaofffedfccmaaDoorYArm7
import Derived.Test.YtdaofffedfccmaaDoorXArmorSignsx8
import Derived.BigRegion
import Derived.RegionTactic
import Derived.ChangeAlike
import Derived.Deep.RegionWith
import Derived.Deep.RegionLaw
import Derived.Laws.Tables
import Derived.Deep.QuietTactic
import Derived.BigQuiet
import Derived.Deep.RegionHeld3
import Derived.Deep.AppendLies
import Derived.Deep.DrawnRows
import Derived.Laws.CopyOwn
import Derived.Deep.MidRow
import Derived.Laws.ResultCell
import Derived.ChangeKeysEq
import Derived.Laws.BitsAllLaws
namespace Go.Proofs.YtdaofffedfccmaaDoor.ArmP
set_option linter.unusedVariables false
set_option linter.unusedSimpArgs false
open Go.RowKit Go.Proofs.YtdaofffedfccmaaDoorW.PrintWords Go.Proofs.YtdaofffedfccmaaDoorW.PrintLast Go.Proofs.YtdaofffedfccmaaDoorW.PrintMore
attribute [local go_sem] max2_int min2_int max_two min_two max_three min_three max_four min_four
open XArmorSigns XGlob
/-! ### Parts, between bytes 10. -/
def sp : List UInt8 → List (List UInt8)
  | [] => [[]]
  | c :: l => if c = 10 then [] :: sp l else match sp l with
    | [] => [[c]]
    | h :: t => (c :: h) :: t
theorem sp_ne (l : List UInt8) : sp l ≠ [] := by
  cases l with
  | nil => simp [sp]
  | cons c l =>
    rw [sp]
    by_cases h : c = 10
    · rw [if_pos h]; simp
    · rw [if_neg h]; split <;> simp
theorem sp_nl (l : List UInt8) : sp (10 :: l) = [] :: sp l := by rw [sp, if_pos rfl]
theorem sp_other (c : UInt8) (l : List UInt8) (h : c ≠ 10) : ∃ a t, sp l = a :: t ∧ sp (c :: l) = (c :: a) :: t := by
  cases hl : sp l with
  | nil => exact absurd hl (sp_ne l)
  | cons a t => exact ⟨a, t, rfl, by rw [sp, if_neg h, hl]⟩
/-- A piece without 10 ahead of the rest. -/
theorem sp_free : ∀ (u l : List UInt8), 10 ∉ u → ∃ a t, sp l = a :: t ∧ sp (u ++ l) = (u ++ a) :: t
  | [], l, _ => by
    cases hl : sp l with
    | nil => exact absurd hl (sp_ne l)
    | cons a t => exact ⟨a, t, rfl, hl⟩
  | c :: u, l, h => by
    obtain ⟨a, t, h1, h2⟩ := sp_free u l (fun hm => h (List.mem_cons_of_mem _ hm))
    obtain ⟨a2, t2, h3, h4⟩ := sp_other c (u ++ l) (fun e => h (by rw [e]; exact List.mem_cons_self))
    rw [h2] at h3
    obtain ⟨rfl, rfl⟩ := List.cons.inj h3
    exact ⟨a, t, h1, h4⟩
theorem sp_whole (u : List UInt8) (h : 10 ∉ u) : sp u = [u] := by
  obtain ⟨a, t, h1, h2⟩ := sp_free u [] h
  obtain ⟨rfl, rfl⟩ : a = [] ∧ t = [] := by
    have : sp [] = [[]] := rfl
    rw [this] at h1
    obtain ⟨h3, h4⟩ := List.cons.inj h1
    exact ⟨h3.symm, h4.symm⟩
  simpa using h2
theorem sp_cut (u l : List UInt8) (h : 10 ∉ u) : sp (u ++ 10 :: l) = u :: sp l := by
  obtain ⟨a, t, h1, h2⟩ := sp_free u (10 :: l) h
  rw [sp_nl] at h1
  obtain ⟨rfl, rfl⟩ := List.cons.inj h1
  simpa using h2
theorem sp_index : ∀ (s : List UInt8), (Lib.indexByte s 10 = -1 ∧ sp s = [s] ∧ s.count 10 = 0) ∨ (∃ i : Nat, Lib.indexByte s 10 = i ∧ sp s = s.take i :: sp (s.drop (i + 1)) ∧ (s.drop (i + 1)).count 10 + 1 = s.count 10)
  | [] => .inl ⟨rfl, rfl, rfl⟩
  | c :: l => by
    by_cases hc : c = 10
    · subst hc
      refine .inr ⟨0, ?_, ?_, ?_⟩
      · rw [Lib.indexByte, if_pos (by decide)]; rfl
      · rw [sp_nl]; rfl
      · rw [List.count_cons_self]; rfl
    · have hb : ¬ (c == 10) = true := fun e => hc (beq_iff_eq.1 e)
      obtain ⟨a, t, h1, h2⟩ := sp_other c l hc
      rcases sp_index l with ⟨i1, i2, i3⟩ | ⟨i, i1, i2, i3⟩
      · refine .inl ⟨?_, ?_, ?_⟩
        · rw [Lib.indexByte, if_neg hb, if_pos (by rw [i1]; rfl)]
        · rw [i2] at h1
          obtain ⟨rfl, rfl⟩ := List.cons.inj h1
          exact h2
        · rw [List.count_cons_of_ne hc]; exact i3
      · refine .inr ⟨i + 1, ?_, ?_, ?_⟩
        · rw [Lib.indexByte, if_neg hb, i1, if_neg (by rw [beq_iff_eq]; omega)]; rfl
        · rw [i2] at h1
          obtain ⟨rfl, rfl⟩ := List.cons.inj h1
          rw [h2]; rfl
        · rw [List.count_cons_of_ne hc]; exact i3
theorem splitK_sp : ∀ (k : Nat) (s : List UInt8), s.count 10 ≤ k → Lib.splitK [10] 0 k s = sp s
  | 0, s, h => by
    rcases sp_index s with ⟨_, i2, _⟩ | ⟨i, _, _, i3⟩
    · rw [i2]; rfl
    · omega
  | k + 1, s, h => by
    rw [Lib.splitK, Lib.index_one]
    rcases sp_index s with ⟨i1, i2, _⟩ | ⟨i, i1, i2, i3⟩
    · rw [if_pos (by rw [i1]; rfl), i2]
    · rw [if_neg (by rw [i1, beq_iff_eq]; omega), i1, i2]
      have e1 : ((i : Int)).toNat = i := rfl
      rw [e1, Nat.add_zero, splitK_sp k _ (by have e : i + ([10] : List UInt8).length = i + 1 := rfl; rw [e]; omega)]
      rfl
def mk (l : List UInt8) : ByteArray := ⟨l.toArray⟩
theorem mk_data (x : ByteArray) : mk x.data.toList = x := by
  cases x with
  | mk d => simp [mk]
theorem of_data : ∀ (L : List ByteArray) (M : List (List UInt8)), L.map (·.data.toList) = M → L = M.map mk
  | [], M, h => by subst h; rfl
  | x :: L, M, h => by
    subst h
    rw [List.map_cons, List.map_cons, mk_data, ← of_data L _ rfl]
theorem parts_split (a : ByteArray) : Lib.splitB ⟨#[10]⟩ 0 (Lib.countB a ⟨#[10]⟩) a = (sp a.data.toList).map mk := by
  apply of_data
  rw [Lib.splitB_data]
  refine splitK_sp _ _ ?_
  show _ ≤ Lib.count a.data.toList [10]
  rw [Lib.count_one]
  exact Nat.le_refl _
/-! ### Lines. -/
def ch (W : Nat) : Nat → List UInt8 → List (List UInt8)
  | 0, _ => []
  | n + 1, l => if l = [] then [] else l.take W :: ch W n (l.drop W)
theorem lines_ch (W : Nat) : ∀ (n : Nat) (l : List UInt8), linesA W n l = ((ch W n l).map (· ++ [10])).flatten
  | 0, l => rfl
  | n + 1, l => by
    rw [linesA, ch]
    by_cases h : l = []
    · rw [if_pos h, if_pos h]; rfl
    · rw [if_neg h, if_neg h, List.map_cons, List.flatten_cons, ← lines_ch W n]
theorem ch_flat (W : Nat) (hW : 1 ≤ W) : ∀ (n : Nat) (l : List UInt8), l.length ≤ n → (ch W n l).flatten = l
  | 0, l, h => by
    obtain rfl : l = [] := List.length_eq_zero_iff.1 (by omega)
    rfl
  | n + 1, l, h => by
    rw [ch]
    by_cases hl : l = []
    · rw [if_pos hl, hl]; rfl
    · have hp : 0 < l.length := List.length_pos_iff.2 hl
      rw [if_neg hl, List.flatten_cons, ch_flat W hW n (l.drop W) (by rw [List.length_drop]; omega), List.take_append_drop]
theorem ch_len (W : Nat) (hW : 1 ≤ W) : ∀ (n : Nat) (l : List UInt8), (ch W n l).length ≤ l.length
  | 0, l => Nat.zero_le _
  | n + 1, l => by
    rw [ch]
    by_cases hl : l = []
    · rw [if_pos hl]; exact Nat.zero_le _
    · have hp : 0 < l.length := List.length_pos_iff.2 hl
      have := ch_len W hW n (l.drop W)
      rw [List.length_drop] at this
      rw [if_neg hl, List.length_cons]
      omega
/-- Lines of signs: each of four and more, all but the last one of W. -/
def chP (W : Nat) (L : List (List UInt8)) : Prop := ∀ i p, L[i]? = some p → (4 ≤ p.length ∧ p.length ≤ W ∧ p.length % 4 = 0) ∧ (i + 1 < L.length → p.length = W)
theorem ch_even (W : Nat) (hW : 4 ≤ W) (hW4 : W % 4 = 0) : ∀ (n : Nat) (l : List UInt8), l.length % 4 = 0 → chP W (ch W n l)
  | 0, l, h => by intro i p hp; simp [ch] at hp
  | n + 1, l, h => by
    rw [ch]
    by_cases hl : l = []
    · rw [if_pos hl]; intro i p hp; simp at hp
    · have hp0 : 0 < l.length := List.length_pos_iff.2 hl
      rw [if_neg hl]
      intro i p hp
      cases i with
      | zero =>
        rw [List.getElem?_cons_zero] at hp
        obtain rfl := Option.some.inj hp
        rw [List.length_take]
        refine ⟨⟨by omega, by omega, ?_⟩, fun h2 => ?_⟩
        · by_cases hWl : W ≤ l.length
          · rw [Nat.min_eq_left hWl]; exact hW4
          · rw [Nat.min_eq_right (by omega)]; exact h
        · rw [List.length_cons] at h2
          by_cases hWl : W ≤ l.length
          · exact Nat.min_eq_left hWl
          · exfalso
            have : l.drop W = [] := List.drop_eq_nil_of_le (by omega)
            rw [this] at h2
            have h3 := ch_len W (by omega) n []
            simp at h3
            rw [h3] at h2
            simp at h2
      | succ i =>
        rw [List.getElem?_cons_succ] at hp
        have ih := ch_even W hW hW4 n (l.drop W) (by rw [List.length_drop]; omega) i p hp
        refine ⟨ih.1, fun h2 => ih.2 ?_⟩
        rw [List.length_cons] at h2
        omega
theorem sp_lines : ∀ (L : List (List UInt8)) (Z : List UInt8), (∀ p ∈ L, 10 ∉ p) → sp ((L.map (· ++ [10])).flatten ++ Z) = L ++ sp Z
  | [], Z, _ => rfl
  | p :: L, Z, h => by
    rw [List.map_cons, List.flatten_cons, List.append_assoc, List.append_assoc, show [(10 : UInt8)] ++ ((L.map (· ++ [10])).flatten ++ Z) = 10 :: ((L.map (· ++ [10])).flatten ++ Z) from rfl, sp_cut _ _ (h p (List.mem_cons_self ..)), sp_lines L Z (fun q hq => h q (List.mem_cons_of_mem _ hq))]
    rfl
theorem sg_nl_fin : ∀ n : Fin 64, sg n.val ≠ 10 := by decide +kernel
theorem quad_nl (q : List UInt8) (h1 : 1 ≤ q.length) (h2 : q.length ≤ 3) : 10 ∉ quadL q := by
  have hs : ∀ n, n < 64 → (10 : UInt8) ≠ sg n := fun n hn e => sg_nl_fin ⟨n, hn⟩ e.symm
  match q, h1, h2 with
  | [a], _, _ =>
    have ha := UInt8.toNat_lt a
    rw [quad1]
    simp only [List.mem_cons, List.not_mem_nil, or_false, not_or]
    exact ⟨hs _ (by omega), hs _ (by omega), by decide, by decide⟩
  | [a, b], _, _ =>
    have ha := UInt8.toNat_lt a
    have hb := UInt8.toNat_lt b
    rw [quad2]
    simp only [List.mem_cons, List.not_mem_nil, or_false, not_or]
    exact ⟨hs _ (by omega), hs _ (by omega), hs _ (by omega), by decide⟩
  | [a, b, c], _, _ =>
    have ha := UInt8.toNat_lt a
    have hb := UInt8.toNat_lt b
    have hc := UInt8.toNat_lt c
    rw [quad3]
    simp only [List.mem_cons, List.not_mem_nil, or_false, not_or]
    exact ⟨hs _ (by omega), hs _ (by omega), hs _ (by omega), hs _ (by omega)⟩
theorem signs_nl : ∀ (n : Nat) (l : List UInt8), l.length ≤ n → 10 ∉ signsL l
  | n, [], _ => by simp [signsL]
  | n, [a], _ => by rw [signsL]; exact quad_nl [a] (by simp) (by simp)
  | n, [a, b], _ => by rw [signsL]; exact quad_nl [a, b] (by simp) (by simp)
  | 0, a :: b :: c :: t, h => by simp at h
  | n + 1, a :: b :: c :: t, h => by
    rw [signsL]
    intro hm
    rcases List.mem_append.1 hm with hm | hm
    · exact quad_nl [a, b, c] (by simp) (by simp) hm
    · exact signs_nl n t (by simp at h; omega) hm
/-! ### Names. -/
theorem dw_nil (p : UInt8 → Bool) : ∀ l : List UInt8, l.dropWhile p = [] ↔ ∀ x ∈ l, p x = true
  | [] => by simp
  | c :: l => by
    rw [List.dropWhile_cons]
    by_cases h : p c = true
    · rw [if_pos h, dw_nil p l]
      exact ⟨fun g x hx => by rcases List.mem_cons.1 hx with rfl | hx; exact h; exact g x hx, fun g x hx => g x (List.mem_cons_of_mem _ hx)⟩
    · rw [if_neg h]
      exact ⟨fun g => (by cases g), fun g => absurd (g c (List.mem_cons_self ..)) h⟩
theorem tw_all (p : UInt8 → Bool) : ∀ (l : List UInt8) (x : UInt8), x ∈ l.takeWhile p → p x = true
  | [], x, h => by cases h
  | c :: l, x, h => by
    rw [List.takeWhile_cons] at h
    by_cases hc : p c = true
    · rw [if_pos hc] at h
      rcases List.mem_cons.1 h with rfl | h
      · exact hc
      · exact tw_all p l x h
    · rw [if_neg hc] at h
      cases h
def letters (l : List UInt8) : Prop := ∀ x ∈ l, 65 ≤ x.toNat ∧ x.toNat ≤ 90
theorem letters_nil : letters [] := fun x hx => by cases hx
theorem trimS_all (l cs : List UInt8) : Lib.trimS l cs = [] ↔ ∀ x ∈ l, cs.contains x = true := by
  unfold Lib.trimS Lib.trimLeftS Lib.trimRightS
  rw [dw_nil]
  constructor
  · intro h x hx
    have e := List.takeWhile_append_dropWhile (p := fun x => cs.contains x) (l := l.reverse)
    have hm : x ∈ l.reverse := List.mem_reverse.2 hx
    rw [← e] at hm
    rcases List.mem_append.1 hm with hm | hm
    · exact tw_all _ _ _ hm
    · exact h x (List.mem_reverse.2 hm)
  · intro h x hx
    refine h x ?_
    have := (List.dropWhile_suffix (l := l.reverse) fun x => cs.contains x).subset (List.mem_reverse.1 hx)
    exact List.mem_reverse.1 this
def nameOK (l : List UInt8) : Prop := 1 ≤ l.length ∧ l.length ≤ 30 ∧ letters l
theorem az_fin : ∀ c : Fin 256, (([65, 66, 67, 68, 69, 70, 71, 72, 73, 74, 75, 76, 77, 78, 79, 80, 81, 82, 83, 84, 85, 86, 87, 88, 89, 90] : List UInt8).contains (UInt8.ofNat c.val) = true) ↔ (65 ≤ c.val ∧ c.val ≤ 90) := by decide +kernel
theorem az (c : UInt8) : (([65, 66, 67, 68, 69, 70, 71, 72, 73, 74, 75, 76, 77, 78, 79, 80, 81, 82, 83, 84, 85, 86, 87, 88, 89, 90] : List UInt8).contains c = true) ↔ (65 ≤ c.toNat ∧ c.toNat ≤ 90) := by
  have h := az_fin ⟨c.toNat, UInt8.toNat_lt c⟩
  rw [show UInt8.ofNat (⟨c.toNat, UInt8.toNat_lt c⟩ : Fin 256).val = c from UInt8.ofNat_toNat] at h
  exact h
open Classical in
theorem right_f (nm : ByteArray) (hn : nm.size ≤ 1000) : armor_right.f nm = some (decide (nameOK nm.data.toList)) := by
  have hl : nm.data.toList.length = nm.size := by rw [Array.length_toList]; rfl
  unfold armor_right.f
  rw [ByteArray.toList_eq]
  by_cases h0 : nm.data.toList = []
  · rw [if_pos h0, decide_eq_false]
    intro h
    have := h.1
    rw [h0] at this
    simp at this
  · have hp : 0 < nm.data.toList.length := List.length_pos_iff.2 h0
    rw [if_neg h0]
    by_cases h30 : (nm.size : Int) ≤ 30
    · rw [if_pos h30]
      unfold strings_Trim.f
      rw [if_pos ⟨by decide, by decide, by omega⟩, Option.bind_some, ByteArray.toList_eq]
      congr 1
      show (Lib.trimS nm.data.toList _ == []) = _
      have ht := trimS_all nm.data.toList [65, 66, 67, 68, 69, 70, 71, 72, 73, 74, 75, 76, 77, 78, 79, 80, 81, 82, 83, 84, 85, 86, 87, 88, 89, 90]
      by_cases h : Lib.trimS nm.data.toList [65, 66, 67, 68, 69, 70, 71, 72, 73, 74, 75, 76, 77, 78, 79, 80, 81, 82, 83, 84, 85, 86, 87, 88, 89, 90] = []
      · rw [decide_eq_true ⟨by omega, by omega, fun x hx => (az x).1 (ht.1 h x hx)⟩]
        exact beq_iff_eq.mpr h
      · rw [decide_eq_false (fun g => h (ht.2 fun x hx => (az x).2 (g.2.2 x hx)))]
        exact beq_eq_false_iff_ne.mpr h
    · rw [if_neg h30, decide_eq_false]
      intro h
      have := h.2.1
      omega
open Classical in
theorem name_l0 (nm : ByteArray) (hn : nm.size ≤ 1000) : ∀ (e i : Nat), i + e = nm.size → Ev (fun k => montageref42_name.l0 k nm (i : Int)) (decide (letters (nm.data.toList.drop i)))
  | 0, i, he => by
    have hl : nm.data.toList.length = nm.size := by rw [Array.length_toList]; rfl
    refine Ev.step (f := fun _ => some true) (fun k => ?_) (by rw [List.drop_eq_nil_of_le (by omega), decide_eq_true letters_nil]; exact Ev.now _)
    rw [montageref42_name.l0, if_neg (by omega)]
  | e + 1, i, he => by
    have hl : nm.data.toList.length = nm.size := by rw [Array.length_toList]; rfl
    have hlt : i < nm.data.toList.length := by omega
    obtain ⟨c, hc⟩ : ∃ c, nm.data.toList[i]'hlt = c := ⟨_, rfl⟩
    have hb : bt nm (i : Int) = (c.toNat : Int) := by
      rw [bt_list nm i (by omega), List.getD_eq_getElem?_getD, List.getElem?_eq_getElem hlt, hc]
      rfl
    have hd : nm.data.toList.drop i = c :: nm.data.toList.drop (i + 1) := by rw [List.drop_eq_getElem_cons hlt, hc]
    have q1 : (i : Int) < (nm.size : Int) := by omega
    have q2 : (0 : Int) ≤ (i : Int) := by omega
    have hw : wrap64 ((i : Int) + 1) = ((i + 1 : Nat) : Int) := w_1 i (by omega)
    rw [hd]
    by_cases h1 : (c.toNat : Int) < 65
    · rw [decide_eq_false (fun h => by have := (h c (List.mem_cons_self ..)).1; omega)]
      refine Ev.step (f := fun _ => some false) (fun k => ?_) (Ev.now _)
      rw [montageref42_name.l0, if_pos q1, if_pos q2, hb, if_pos h1]
    · by_cases h2 : (c.toNat : Int) > 90
      · rw [decide_eq_false (fun h => by have := (h c (List.mem_cons_self ..)).2; omega)]
        refine Ev.step (f := fun _ => some false) (fun k => ?_) (Ev.now _)
        rw [montageref42_name.l0, if_pos q1, if_pos q2, hb, if_neg h1, if_pos h2]
      · have ih := name_l0 nm hn e (i + 1) (by omega)
        have : decide (letters (c :: nm.data.toList.drop (i + 1))) = decide (letters (nm.data.toList.drop (i + 1))) := by
          refine decide_eq_decide.mpr ⟨fun h x hx => h x (List.mem_cons_of_mem _ hx), fun h x hx => ?_⟩
          rcases List.mem_cons.1 hx with rfl | hx
          · omega
          · exact h x hx
        rw [this]
        refine Ev.step (fun k => ?_) ih
        rw [montageref42_name.l0, if_pos q1, if_pos q2, hb, if_neg h1, if_neg h2, hw]
open Classical in
theorem name_ev (nm : ByteArray) (hn : nm.size ≤ 1000) : Ev (fun k => montageref42_name.f k nm) (decide (nameOK nm.data.toList)) := by
  have hl : nm.data.toList.length = nm.size := by rw [Array.length_toList]; rfl
  have hbad : Ev (fun k => montageref42_name.j0 k nm true) false := by
    refine Ev.step (f := fun _ => some false) (fun k => ?_) (Ev.now _)
    rw [montageref42_name.j0, if_pos rfl]
  by_cases h1 : (nm.size : Int) < 1
  · rw [decide_eq_false (fun h => by have := h.1; omega)]
    refine Ev.congr (fun k => ?_) hbad
    unfold montageref42_name.f
    rw [if_pos h1]
  · by_cases h30 : (nm.size : Int) > 30
    · rw [decide_eq_false (fun h => by have := h.2.1; omega)]
      refine Ev.congr (fun k => ?_) hbad
      unfold montageref42_name.f
      rw [if_neg h1, decide_eq_true h30]
    · have h := name_l0 nm hn nm.size 0 (by omega)
      rw [List.drop_zero] at h
      have e : decide (nameOK nm.data.toList) = decide (letters nm.data.toList) := decide_eq_decide.mpr ⟨fun h => h.2.2, fun h => ⟨by omega, by omega, h⟩⟩
      rw [e]
      refine Ev.congr (f := fun k => montageref42_name.j0 k nm false) (fun k => ?_) (Ev.step (fun k => ?_) h)
      · unfold montageref42_name.f
        rw [if_neg h1, decide_eq_false h30]
      · rw [montageref42_name.j0, if_neg (by decide)]
        rfl

end Go.Proofs.YtdaofffedfccmaaDoor.ArmP
