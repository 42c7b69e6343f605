/- Glob: quoted paths. It has no conditions. -/
import Derived.Test.YtdaofffedfccmaaDoorXGlobFitsx7
import Derived.Test.YtdaofffedfccmaaDoorYGlob5
import Derived.BigRegion
import Derived.RegionTactic
import Derived.ChangeAlike
import Derived.Deep.RegionWith
import Derived.Deep.RegionLaw
import Derived.Laws.Tables
import Derived.Deep.QuietTactic
import Derived.BigQuiet
import Derived.Deep.RegionHeld3
import Derived.Deep.AppendLies
import Derived.Deep.DrawnRows
import Derived.Laws.CopyOwn
import Derived.Deep.MidRow
import Derived.Laws.ResultCell
import Derived.ChangeKeysEq
import Derived.Laws.BitsAllLaws
namespace Go.Proofs.YtdaofffedfccmaaDoor.XGlob
set_option linter.unusedVariables false
set_option linter.unusedSimpArgs false
open Go.RowKit Go.Proofs.YtdaofffedfccmaaDoorW.PrintWords Go.Proofs.YtdaofffedfccmaaDoorW.PrintLast Go.Proofs.YtdaofffedfccmaaDoorW.PrintMore
attribute [local go_sem] max2_int min2_int max_two min_two max_three min_three max_four min_four
open XGlobFits
/-! ### Quoted paths. -/
theorem ev_uniq {α : Type} {g : Nat → Option α} {a b : α} (h1 : Ev g a) (h2 : Ev g b) : a = b := by
  obtain ⟨K, h1⟩ := h1
  obtain ⟨L, h2⟩ := h2
  have e1 := h1 (K + L) (by omega)
  have e2 := h2 (K + L) (by omega)
  exact Option.some.inj (e1.symm.trans e2)
theorem mk_append (u v : List UInt8) : mk u ++ mk v = mk (u ++ v) := by
  rw [← mk_data (mk u ++ mk v)]
  congr 1
theorem quoteL_cons (c : UInt8) (l : List UInt8) : quoteL (c :: l) = (if c = 42 ∨ c = 63 ∨ c = 92 then [92, c] else [c]) ++ quoteL l := by
  rw [quoteL]
  by_cases h : c = 42 ∨ c = 63 ∨ c = 92
  · rw [if_pos h, if_pos h]; try rfl
  · rw [if_neg h, if_neg h]; try rfl
/-- A byte of a text that is known in two parts. -/
theorem bt_mid (u v : List UInt8) (c : UInt8) : bt (mk (u ++ c :: v)) (u.length : Int) = (c.toNat : Int) := by
  have h : u.length < (mk (u ++ c :: v)).size := by rw [size_mk, List.length_append, List.length_cons]; omega
  rw [bt_get _ _ h]
  have e : (u ++ c :: v)[u.length]? = some c := by simp
  obtain ⟨_, e2⟩ := List.getElem?_eq_some_iff.1 e
  exact congrArg (fun x : UInt8 => (x.toNat : Int)) e2
theorem bt_mid2 (u v : List UInt8) (c d : UInt8) : bt (mk (u ++ c :: d :: v)) ((u.length + 1 : Nat) : Int) = (d.toNat : Int) := by
  have h := bt_mid (u ++ [c]) v d
  rw [List.append_assoc, List.length_append] at h
  exact h
theorem extract_mid (u v : List UInt8) (c : UInt8) : (mk (u ++ c :: v)).extract u.length (u.length + 1) = mk [c] := by
  rw [extract_mk _ _ _ (by rw [size_mk, List.length_append, List.length_cons]; omega)]
  congr 1
  rw [data_mk]
  have e : (u ++ c :: v) = (u ++ [c]) ++ v := by simp
  rw [e, List.take_left' (by simp), List.drop_left' rfl]
/-- The document quotes likewise. -/
theorem doc_quote_l0 (A : List UInt8) (hA : A.length ≤ 1048576) : ∀ (w v : List UInt8), A = v ++ w → Ev (fun k => montageref37_Quote.l0 k (mk A) (mk (quoteL v)) (v.length : Int)) (mk (quoteL A))
  | [], v, h => by
    rw [List.append_nil] at h
    subst h
    refine Ev.step (f := fun _ => some (mk (quoteL A))) (fun k => ?_) (Ev.now _)
    simp only [montageref37_Quote.l0]
    rw [if_neg (by rw [size_mk]; omega)]
  | c :: w, v, h => by
    have hlen := congrArg List.length h
    rw [List.length_append, List.length_cons] at hlen
    have hq := quoteL_len v
    have hz : (mk A).size = A.length := size_mk A
    have hzq : (mk (quoteL v)).size = (quoteL v).length := size_mk _
    have hb : bt (mk A) (v.length : Int) = (c.toNat : Int) := by rw [h]; exact bt_mid v w c
    have hx : (mk A).extract v.length (v.length + 1) = mk [c] := by rw [h]; exact extract_mid v w c
    have ih := doc_quote_l0 A hA w (v ++ [c]) (by rw [h]; simp)
    have e1 : ((v ++ [c]).length : Int) = (v.length : Int) + 1 := by rw [List.length_append]; rfl
    rw [e1] at ih
    have et1 : ((v.length : Int)).toNat = v.length := rfl
    have et2 : ((v.length : Int) + 1).toNat = v.length + 1 := rfl
    by_cases hs : c = 42 ∨ c = 63 ∨ c = 92
    · have e2 : mk (quoteL (v ++ [c])) = (mk (quoteL v) ++ mk [92]) ++ mk [c] := by
        rw [quoteL_append, quoteL_cons, if_pos hs, mk_append, mk_append]
        congr 1
        try simp [quoteL]
      rw [e2] at ih
      have hs1 : (mk (quoteL v) ++ mk [92]).size = (quoteL v).length + 1 := by rw [mk_append, size_mk, List.length_append]; rfl
      refine Ev.step (fun k => ?_) ih
      have hm92 : (⟨#[92]⟩ : ByteArray) = mk [92] := rfl
      simp only [montageref37_Quote.l0]
      rw [if_pos (by omega), if_pos (by omega), w64g (by omega) (by omega), et1, et2, hx, hm92, hs1]
      have hc1 : (mk [c]).size = 1 := rfl
      rw [hc1]
      by_cases h1 : bt (mk A) (v.length : Int) = 42
      · rw [if_pos h1, if_pos (by omega), if_pos (by omega), if_pos (by omega), if_pos (by omega)]
      · by_cases h2 : bt (mk A) (v.length : Int) = 63
        · rw [if_neg h1, if_pos h2, if_pos (by omega), if_pos (by omega), if_pos (by omega), if_pos (by omega)]
        · have h3 : bt (mk A) (v.length : Int) = 92 := by
            rcases hs with rfl | rfl | rfl
            · exact absurd hb h1
            · exact absurd hb h2
            · exact hb
          rw [if_neg h1, if_neg h2, if_pos h3, if_pos (by omega), if_pos (by omega), if_pos (by omega), if_pos (by omega)]
    · have e2 : mk (quoteL (v ++ [c])) = mk (quoteL v) ++ mk [c] := by
        rw [quoteL_append, quoteL_cons, if_neg hs, mk_append]
        congr 1
        try simp [quoteL]
      rw [e2] at ih
      have ne : ∀ k : UInt8, c ≠ k → ¬ bt (mk A) (v.length : Int) = (k.toNat : Int) := fun k hk e => hk (UInt8.toNat_inj.1 (by rw [hb] at e; omega))
      have n1 : ¬ bt (mk A) (v.length : Int) = 42 := ne 42 (fun e => hs (.inl e))
      have n2 : ¬ bt (mk A) (v.length : Int) = 63 := ne 63 (fun e => hs (.inr (.inl e)))
      have n3 : ¬ bt (mk A) (v.length : Int) = 92 := ne 92 (fun e => hs (.inr (.inr e)))
      refine Ev.step (fun k => ?_) ih
      have hc1 : (mk [c]).size = 1 := rfl
      simp only [montageref37_Quote.l0]
      rw [if_pos (by omega), if_pos (by omega), if_neg n1, if_neg n2, if_neg n3, w64g (by omega) (by omega), et1, et2, hx, hc1, if_pos (by omega), if_pos (by omega), if_pos (by omega)]
theorem doc_quote (a : ByteArray) (ha : a.size ≤ 1048576) : Ev (fun k => montageref37_Quote.f k a) (mk (quoteL a.data.toList)) := by
  have h := doc_quote_l0 a.data.toList (by rw [size_data]; exact ha) a.data.toList [] rfl
  rw [mk_data] at h
  exact h
/-- A byte that fits itself. -/
def exactP (c : UInt8) : S124 := ⟨0, (c.toNat : Int)⟩
theorem quoted_l0 (u : List UInt8) (hu : u.length ≤ 1048576) : ∀ (w v : List UInt8), u = v ++ w → Ev (fun k => glob_pieces.l0 k (mk (quoteL u)) (v.map exactP) ((quoteL v).length : Int)) (u.map exactP, true)
  | [], v, h => by
    rw [List.append_nil] at h
    subst h
    refine Ev.step (f := fun _ => some (u.map exactP, true)) (fun k => ?_) (Ev.now _)
    simp only [glob_pieces.l0]
    rw [if_neg (by rw [size_mk]; omega)]
  | c :: w, v, h => by
    have hlen := congrArg List.length h
    rw [List.length_append, List.length_cons] at hlen
    have hq := quoteL_len u
    have hqv := quoteL_len v
    have hml : (v.map exactP).length = v.length := List.length_map _
    have hz : (mk (quoteL u)).size = (quoteL u).length := size_mk _
    have ih := quoted_l0 u hu w (v ++ [c]) (by rw [h]; simp)
    have e0 : (v ++ [c]).map exactP = v.map exactP ++ [exactP c] := by simp
    rw [e0, quoteL_append, quoteL_cons] at ih
    by_cases hs : c = 42 ∨ c = 63 ∨ c = 92
    · have e1 : quoteL u = quoteL v ++ 92 :: c :: quoteL w := by rw [h, quoteL_append, quoteL_cons, if_pos hs]; rfl
      have hl := congrArg List.length e1
      rw [List.length_append, List.length_cons, List.length_cons] at hl
      have hb : bt (mk (quoteL u)) ((quoteL v).length : Int) = 92 := by rw [e1]; exact bt_mid _ _ _
      have hb2 : bt (mk (quoteL u)) (((quoteL v).length + 1 : Nat) : Int) = (c.toNat : Int) := by rw [e1]; exact bt_mid2 _ _ _ _
      rw [if_pos hs] at ih
      refine Ev.step (fun k => ?_) ih
      simp only [glob_pieces.l0]
      rw [if_pos (by omega), if_pos (by omega), if_pos hb, w64g (x := ((quoteL v).length : Int) + 1) (by omega) (by omega), if_neg (by omega), if_pos (by omega), if_pos (by omega), if_pos (by omega), w64g (by omega) (by omega), show ((quoteL v).length : Int) + 1 = (((quoteL v).length + 1 : Nat) : Int) from rfl, hb2]
      simp [quoteL, exactP]
      rfl
    · have e1 : quoteL u = quoteL v ++ c :: quoteL w := by rw [h, quoteL_append, quoteL_cons, if_neg hs]; rfl
      have hl := congrArg List.length e1
      rw [List.length_append, List.length_cons] at hl
      have hb : bt (mk (quoteL u)) ((quoteL v).length : Int) = (c.toNat : Int) := by rw [e1]; exact bt_mid _ _ _
      have ne : ∀ k : UInt8, c ≠ k → ¬ bt (mk (quoteL u)) ((quoteL v).length : Int) = (k.toNat : Int) := fun k hk e => hk (UInt8.toNat_inj.1 (by rw [hb] at e; omega))
      have n1 : ¬ bt (mk (quoteL u)) ((quoteL v).length : Int) = 42 := ne 42 (fun e => hs (.inl e))
      have n2 : ¬ bt (mk (quoteL u)) ((quoteL v).length : Int) = 63 := ne 63 (fun e => hs (.inr (.inl e)))
      have n3 : ¬ bt (mk (quoteL u)) ((quoteL v).length : Int) = 92 := ne 92 (fun e => hs (.inr (.inr e)))
      rw [if_neg hs] at ih
      refine Ev.step (fun k => ?_) ih
      simp only [glob_pieces.l0]
      rw [if_pos (by omega), if_pos (by omega), if_neg n3, if_neg n2, if_neg n1, if_pos (by omega), w64g (by omega) (by omega), hb]
      simp [quoteL, exactP]
theorem quoted_pieces (u : List UInt8) (h0 : u ≠ []) (hq : (quoteL u).length ≤ 255) : Ev (fun k => glob_pieces.f k (mk (quoteL u))) (u.map exactP, true) := by
  have hul : u.length ≤ (quoteL u).length := by
    clear hq h0
    induction u with
    | nil => exact Nat.le_refl _
    | cons c u ih =>
      rw [quoteL_cons, List.length_append, List.length_cons]
      have : 1 ≤ (if c = 42 ∨ c = 63 ∨ c = 92 then [92, c] else [c]).length := by split <;> simp
      omega
  have h := quoted_l0 u (by omega) u [] rfl
  have e0 : ¬ (mk (quoteL u)).toList = [] := by
    rw [toList_mk]
    intro e
    have := congrArg List.length e
    rw [List.length_nil] at this
    exact h0 (List.length_eq_zero_iff.1 (by omega))
  have hz : (mk (quoteL u)).size = (quoteL u).length := size_mk _
  refine Ev.congr (f := fun k => glob_pieces.j0 k (mk (quoteL u)) false) (fun k => ?_) (Ev.step (f := fun k => glob_pieces.l0 k (mk (quoteL u)) [] 0) (fun k => ?_) h)
  · unfold glob_pieces.f; rw [if_neg e0, decide_eq_false (by omega)]
  · simp only [glob_pieces.j0]; rw [if_neg (by simp)]
theorem sp_quote : ∀ l : List UInt8, sp (quoteL l) = (sp l).map quoteL
  | [] => rfl
  | c :: l => by
    have ih := sp_quote l
    rw [quoteL_cons]
    by_cases hc : c = 47
    · subst hc
      rw [if_neg (by decide)]
      show sp (47 :: quoteL l) = _
      rw [sp_slash, sp_slash, ih]
      rfl
    · obtain ⟨a, t, h1, h2⟩ := sp_other c l hc
      rw [h1, List.map_cons] at ih
      rw [h2, List.map_cons, quoteL_cons]
      by_cases hs : c = 42 ∨ c = 63 ∨ c = 92
      · rw [if_pos hs]
        obtain ⟨a2, t2, h3, h4⟩ := sp_free [92, c] (quoteL l) (by
          intro hm
          rcases List.mem_cons.1 hm with e | hm
          · exact absurd e (by decide)
          · rw [List.mem_singleton] at hm; exact hc hm.symm)
        rw [ih] at h3
        obtain ⟨rfl, rfl⟩ := List.cons.inj h3
        exact h4
      · rw [if_neg hs]
        obtain ⟨a2, t2, h3, h4⟩ := sp_free [c] (quoteL l) (by
          intro hm
          rw [List.mem_singleton] at hm; exact hc hm.symm)
        rw [ih] at h3
        obtain ⟨rfl, rfl⟩ := List.cons.inj h3
        exact h4
theorem quoteL_wide (u : List UInt8) : quoteL u ≠ [42, 42] := by
  cases u with
  | nil => intro h; cases h
  | cons c u =>
    rw [quoteL_cons]
    by_cases hs : c = 42 ∨ c = 63 ∨ c = 92
    · rw [if_pos hs]
      intro h
      have := (List.cons.inj h).1
      exact absurd this (by decide)
    · rw [if_neg hs]
      intro h
      have := (List.cons.inj h).1
      exact hs (.inl this)
/-- Single pieces alone: each its own thing. -/
theorem mt_single {many : Nat → Bool} {fits : Nat → Nat → Bool} {n m : Nat} (hm : ∀ i, i < n → many i = false) : Mt many fits n m 0 0 ↔ (n = m ∧ ∀ i, i < n → fits i i = true) := by
  constructor
  · have h : ∀ i k, Mt many fits n m i k → n - i = m - k ∧ i ≤ n ∧ k ≤ m ∧ ∀ d, i + d < n → fits (i + d) (k + d) = true := by
      intro i k h
      induction h with
      | done => exact ⟨by omega, Nat.le_refl _, Nat.le_refl _, fun d hd => by omega⟩
      | skip i k a b c ih => rw [hm i a] at b; cases b
      | eat i k a b c d ih => rw [hm i a] at b; cases b
      | one i k a b c d e ih =>
        obtain ⟨i1, i2, i3, i4⟩ := ih
        refine ⟨by omega, by omega, by omega, fun x hx => ?_⟩
        cases x with
        | zero => exact d
        | succ x =>
          have := i4 x (by omega)
          rw [show i + (x + 1) = i + 1 + x from by omega, show k + (x + 1) = k + 1 + x from by omega]
          exact this
    intro h0
    obtain ⟨a, b, c, d⟩ := h 0 0 h0
    exact ⟨by omega, fun i hi => by have := d i (by omega); rw [Nat.zero_add] at this; exact this⟩
  · rintro ⟨rfl, h⟩
    have go : ∀ d i, n - i = d → i ≤ n → Mt many fits n n i i := by
      intro d
      induction d with
      | zero =>
        intro i hd hi
        obtain rfl : i = n := by omega
        exact .done
      | succ d ih => exact fun i hd hi => .one i i (by omega) (hm i (by omega)) (by omega) (h i (by omega)) (ih (i + 1) (by omega) (by omega))
    exact go n 0 (by omega) (Nat.zero_le _)
theorem exact_fit (u : List UInt8) (s : ByteArray) : pfitB (u.map exactP) s = true ↔ s.data.toList = u := by
  have hr : ∀ i, (h : i < u.length) → rd_T124 (u.map exactP) (i : Int) = exactP (u[i]'h) := by
    intro i h
    unfold rd_T124
    rw [show ((i : Nat) : Int).toNat = i from rfl, List.getD_eq_getElem?_getD, List.getElem?_map, List.getElem?_eq_getElem h]
    rfl
  refine (mtAll_iff.trans (mt_single (fun i hi => ?_))).trans ?_
  · rw [List.length_map] at hi
    rw [hr i hi]
    rfl
  · rw [List.length_map]
    constructor
    · rintro ⟨h1, h2⟩
      apply List.ext_getElem
      · rw [size_data]; exact h1.symm
      · intro i h3 h4
        have := h2 i h4
        rw [hr i h4, Bool.or_eq_true, decide_eq_true_eq, decide_eq_true_eq] at this
        have hb := bt_get s i (by rw [size_data] at h3; exact h3)
        rcases this with e | e
        · have e3 : (0 : Int) = 1 := e
          exact absurd e3 (by decide)
        · rw [hb] at e
          have e2 : ((u[i].toNat : Nat) : Int) = _ := e
          exact (UInt8.toNat_inj.1 (by omega)).symm
    · rintro rfl
      refine ⟨by rw [size_data], fun i hi => ?_⟩
      rw [hr i hi, bt_get s i (by rw [size_data] at hi; exact hi), Bool.or_eq_true]
      exact .inr (decide_eq_true rfl)

end Go.Proofs.YtdaofffedfccmaaDoor.XGlob
