/- Glob: patterns. It has no conditions. -/
import Derived.Test.YtdaofffedfccmaaDoorYGlob4
import Derived.BigRegion
import Derived.RegionTactic
import Derived.ChangeAlike
import Derived.Deep.RegionWith
import Derived.Deep.RegionLaw
import Derived.Laws.Tables
import Derived.Deep.QuietTactic
import Derived.BigQuiet
import Derived.Deep.RegionHeld3
import Derived.Deep.AppendLies
import Derived.Deep.DrawnRows
import Derived.Laws.CopyOwn
import Derived.Deep.MidRow
import Derived.Laws.ResultCell
import Derived.ChangeKeysEq
import Derived.Laws.BitsAllLaws
namespace Go.Proofs.YtdaofffedfccmaaDoor.XGlob
set_option linter.unusedVariables false
set_option linter.unusedSimpArgs false
open Go.RowKit Go.Proofs.YtdaofffedfccmaaDoorW.PrintWords Go.Proofs.YtdaofffedfccmaaDoorW.PrintLast Go.Proofs.YtdaofffedfccmaaDoorW.PrintMore
attribute [local go_sem] max2_int min2_int max_two min_two max_three min_three max_four min_four
open XGlobFits
/-! ### Patterns. -/
def rsAt (rs : List (List S124 × Bool)) (i : Nat) : List S124 × Bool := rs.getD i ([], false)
def BothL (l : List ByteArray) (rs : List (List S124 × Bool)) : Prop := rs.length = l.length ∧ ∀ i : Nat, i < l.length → Both (rdOf ByteArray.empty l i) (rsAt rs i).1 (rsAt rs i).2
theorem bothL_any : ∀ l : List ByteArray, (∀ x ∈ l, x.size ≤ 255) → ∃ rs, BothL l rs
  | [], _ => ⟨[], rfl, fun i hi => absurd hi (Nat.not_lt_zero _)⟩
  | x :: l, h => by
    obtain ⟨rs, h1, h2⟩ := bothL_any l (fun y hy => h y (List.mem_cons_of_mem _ hy))
    obtain ⟨r, ok, hb⟩ := both_any x (h x List.mem_cons_self)
    refine ⟨(r, ok) :: rs, by simp [h1], fun i hi => ?_⟩
    cases i with
    | zero => exact hb
    | succ i => exact h2 i (by simpa using hi)
def okAt (l : List ByteArray) (rs : List (List S124 × Bool)) (i : Nat) : Bool := wideB l i || (rsAt rs i).2
theorem wideB_iff (l : List ByteArray) (i : Nat) : wideB l i = true ↔ (rdOf ByteArray.empty l i).toList = [42, 42] := by unfold wideB; exact beq_iff_eq
theorem check_loops (l : List ByteArray) (rs : List (List S124 × Bool)) (hl : l.length ≤ 1048576) (h : BothL l rs) : ∀ d i, l.length - i = d → i ≤ l.length → ∃ b, Ev (fun k => glob_Check.l0 k l (l.length : Int) (i : Int)) (if b = true then 0 else 2) ∧ Ev (fun k => montageref37_Right.l0 k l (i : Int)) b ∧ (b = true ↔ ∀ j, i ≤ j → j < l.length → okAt l rs j = true)
  | 0, i, hd, hi => by
    obtain rfl : i = l.length := by omega
    refine ⟨true, Ev.step (f := fun _ => some 0) (fun k => ?_) (Ev.now _), Ev.step (f := fun _ => some true) (fun k => ?_) (Ev.now _), ⟨fun _ j h1 h2 => by omega, fun _ => rfl⟩⟩
    · simp only [glob_Check.l0]; rw [if_neg (by omega)]
    · simp only [montageref37_Right.l0]; rw [if_neg (by omega)]
  | d + 1, i, hd, hi => by
    have hlt : i < l.length := by omega
    have hb := h.2 i hlt
    have go : okAt l rs i = true → ∃ b, Ev (fun k => glob_Check.l0 k l (l.length : Int) (i : Int)) (if b = true then 0 else 2) ∧ Ev (fun k => montageref37_Right.l0 k l (i : Int)) b ∧ (b = true ↔ ∀ j, i ≤ j → j < l.length → okAt l rs j = true) := by
      intro hok
      obtain ⟨b, h1, h2, h3⟩ := check_loops l rs hl h d (i + 1) (by omega) (by omega)
      refine ⟨b, ?_, ?_, h3.trans ⟨fun h4 j h5 h6 => ?_, fun h4 j h5 h6 => h4 j (by omega) h6⟩⟩
      · refine Ev.step (f := fun k => (glob_pieces.f k (rdOf ByteArray.empty l (i : Int))).bind fun bt124 => (if bt124.2 = true then (glob_Check.l0 k l (l.length : Int) ((i + 1 : Nat) : Int)) else (if (rdOf ByteArray.empty l (i : Int)).toList = ([42, 42] : List UInt8) then (glob_Check.l0 k l (l.length : Int) ((i + 1 : Nat) : Int)) else (some 2)))) (fun k => ?_) ?_
        · simp only [glob_Check.l0]
          rw [if_pos (by omega), if_pos (by omega), if_pos (by omega), w64g (by omega) (by omega)]
          rfl
        · refine Ev.bind (f := fun k (bt124 : List S124 × Bool) => (if bt124.2 = true then (glob_Check.l0 k l (l.length : Int) ((i + 1 : Nat) : Int)) else (if (rdOf ByteArray.empty l (i : Int)).toList = ([42, 42] : List UInt8) then (glob_Check.l0 k l (l.length : Int) ((i + 1 : Nat) : Int)) else (some 2)))) hb.pcs ?_
          refine Ev.congr (fun k => ?_) h1
          cases e2 : (rsAt rs i).2 with
          | true => rw [if_pos rfl]
          | false =>
            unfold okAt at hok
            rw [e2, Bool.or_false] at hok
            rw [if_neg (by simp), if_pos ((wideB_iff l i).1 hok)]
      · by_cases hw : (rdOf ByteArray.empty l (i : Int)).toList = [42, 42]
        · refine Ev.step (f := fun k => (montageref37_tokens.f k (rdOf ByteArray.empty l (i : Int))).bind fun bt151 => montageref37_Right.l0 k l ((i + 1 : Nat) : Int)) (fun k => ?_) (Ev.bind (f := fun k _ => montageref37_Right.l0 k l ((i + 1 : Nat) : Int)) hb.toks h2)
          simp only [montageref37_Right.l0]
          rw [if_pos (by omega), if_pos (by omega)]
          congr 1
          funext x
          rw [if_pos hw, w64g (by omega) (by omega)]
          rfl
        · have e2 : (rsAt rs i).2 = true := by
            unfold okAt at hok
            cases hwb : wideB l i with
            | true => exact absurd ((wideB_iff l i).1 hwb) hw
            | false => rw [hwb, Bool.false_or] at hok; exact hok
          refine Ev.step (f := fun k => (montageref37_tokens.f k (rdOf ByteArray.empty l (i : Int))).bind fun bt151 => if bt151.2 = true then montageref37_Right.l0 k l ((i + 1 : Nat) : Int) else some false) (fun k => ?_) (Ev.bind (f := fun k (bt151 : List Int × Bool) => if bt151.2 = true then montageref37_Right.l0 k l ((i + 1 : Nat) : Int) else some false) hb.toks ?_)
          · simp only [montageref37_Right.l0]
            rw [if_pos (by omega), if_pos (by omega)]
            congr 1
            funext x
            rw [if_neg hw, w64g (by omega) (by omega)]
            rfl
          · refine Ev.congr (fun k => ?_) h2
            rw [e2, if_pos rfl]
      · by_cases e : j = i
        · subst e; exact hok
        · exact h4 j (by omega) h6
    by_cases hok : okAt l rs i = true
    · exact go hok
    · have hw : ¬ (rdOf ByteArray.empty l (i : Int)).toList = [42, 42] := fun e => hok (by unfold okAt; rw [(wideB_iff l i).2 e]; rfl)
      have e2 : (rsAt rs i).2 = false := by
        cases e : (rsAt rs i).2 with
        | true => exact absurd (by unfold okAt; rw [e, Bool.or_true]) hok
        | false => rfl
      refine ⟨false, ?_, ?_, ⟨fun e => (by cases e), fun h4 => absurd (h4 i (Nat.le_refl _) hlt) hok⟩⟩
      · refine Ev.step (f := fun k => (glob_pieces.f k (rdOf ByteArray.empty l (i : Int))).bind fun bt124 => (if bt124.2 = true then (glob_Check.l0 k l (l.length : Int) ((i + 1 : Nat) : Int)) else (some 2))) (fun k => ?_) (Ev.bind (f := fun k (bt124 : List S124 × Bool) => (if bt124.2 = true then (glob_Check.l0 k l (l.length : Int) ((i + 1 : Nat) : Int)) else (some 2))) hb.pcs ?_)
        · simp only [glob_Check.l0]
          rw [if_pos (by omega), if_pos (by omega), if_pos (by omega), w64g (by omega) (by omega)]
          congr 1
          funext x
          rw [if_neg hw]
          rfl
        · refine Ev.congr (fun k => ?_) (Ev.now _)
          rw [e2, if_neg (by simp), if_neg (by simp)]
      · refine Ev.step (f := fun k => (montageref37_tokens.f k (rdOf ByteArray.empty l (i : Int))).bind fun bt151 => if bt151.2 = true then montageref37_Right.l0 k l ((i + 1 : Nat) : Int) else some false) (fun k => ?_) (Ev.bind (f := fun k (bt151 : List Int × Bool) => if bt151.2 = true then montageref37_Right.l0 k l ((i + 1 : Nat) : Int) else some false) hb.toks ?_)
        · simp only [montageref37_Right.l0]
          rw [if_pos (by omega), if_pos (by omega)]
          congr 1
          funext x
          rw [if_neg hw, w64g (by omega) (by omega)]
          rfl
        · refine Ev.congr (fun k => ?_) (Ev.now _)
          rw [e2, if_neg (by simp)]
def Fine (l : List ByteArray) (rs : List (List S124 × Bool)) : Prop := 1 ≤ l.length ∧ l.length ≤ 32 ∧ ∀ j, j < l.length → okAt l rs j = true
theorem check_both (p : ByteArray) (hp : p.size ≤ 255) (rs : List (List S124 × Bool)) (h : BothL (partsB p) rs) : ∃ b, Ev (fun k => glob_Check.f k p) (if b = true then 0 else 2) ∧ Ev (fun k => montageref37_Right.f k p) b ∧ (b = true ↔ Fine (partsB p) rs) := by
  have hpl := partsB_length p
  have hr := route_parts p (by omega)
  have hd := doc_parts p (by omega)
  obtain ⟨b, h1, h2, h3⟩ := check_loops (partsB p) rs (by omega) h (partsB p).length 0 (by omega) (Nat.zero_le _)
  generalize partsB p = l at hpl hr hd h1 h2 h3
  have bad : l.length = 0 ∨ 32 < l.length → ∃ b, Ev (fun k => glob_Check.f k p) (if b = true then 0 else 2) ∧ Ev (fun k => montageref37_Right.f k p) b ∧ (b = true ↔ Fine l rs) := by
    intro hb
    refine ⟨false, ?_, ?_, ⟨fun e => (by cases e), fun e => by have h4 := e.1; have h5 := e.2.1; omega⟩⟩
    · refine Ev.congr (f := fun k => glob_Check.j0 k l true) (fun k => ?_) (Ev.step (f := fun _ => some 2) (fun k => ?_) (Ev.now _))
      · unfold glob_Check.f
        rw [hr, Option.bind_some]
        by_cases e : (l.length : Int) = 0
        · rw [if_pos e]
        · rw [if_neg e, decide_eq_true (by omega)]
      · simp only [glob_Check.j0]
        rw [if_pos trivial]
    · unfold montageref37_Right.f
      refine Ev.bind (f := fun k (t147 : List ByteArray) => (if (t147.length : Int) < 1 then (montageref37_Right.j0 k t147 true) else (montageref37_Right.j0 k t147 (decide ((t147.length : Int) > 32))))) hd ?_
      refine Ev.congr (f := fun k => montageref37_Right.j0 k l true) (fun k => ?_) (Ev.step (f := fun _ => some false) (fun k => ?_) (Ev.now _))
      · by_cases e : (l.length : Int) < 1
        · rw [if_pos e]
        · rw [if_neg e, decide_eq_true (by omega)]
      · simp only [montageref37_Right.j0]
        rw [if_pos trivial]
  by_cases hlen : l.length = 0 ∨ 32 < l.length
  · exact bad hlen
  · refine ⟨b, ?_, ?_, h3.trans ⟨fun h4 => ⟨by omega, by omega, fun j hj => h4 j (Nat.zero_le _) hj⟩, fun h4 j _ hj => h4.2.2 j hj⟩⟩
    · refine Ev.congr (f := fun k => glob_Check.j0 k l false) (fun k => ?_) (Ev.step (fun k => ?_) h1)
      · unfold glob_Check.f
        rw [hr, Option.bind_some, if_neg (by omega), decide_eq_false (by omega)]
      · simp only [glob_Check.j0]
        rw [if_neg (by simp)]
        rfl
    · unfold montageref37_Right.f
      refine Ev.bind (f := fun k (t147 : List ByteArray) => (if (t147.length : Int) < 1 then (montageref37_Right.j0 k t147 true) else (montageref37_Right.j0 k t147 (decide ((t147.length : Int) > 32))))) hd ?_
      refine Ev.congr (f := fun k => montageref37_Right.j0 k l false) (fun k => ?_) (Ev.step (fun k => ?_) h2)
      · rw [if_neg (by omega), decide_eq_false (by omega)]
      · simp only [montageref37_Right.j0]
        rw [if_neg (by simp)]
        rfl
theorem pcsAll_ev : ∀ (l : List ByteArray) (rs : List (List S124 × Bool)), BothL l rs → Ev (fun k => pcsAll k l) (rs.map (·.1))
  | [], rs, h => by
    have : rs = [] := List.length_eq_zero_iff.1 h.1
    subst this
    exact Ev.now _
  | x :: l, rs, h => by
    cases rs with
    | nil => exact absurd h.1 (by simp)
    | cons r rs =>
      have hb : Both x r.1 r.2 := h.2 0 (by simp)
      have ih := pcsAll_ev l rs ⟨by have := h.1; simpa using this, fun i hi => h.2 (i + 1) (by simpa using hi)⟩
      refine Ev.bind (f := fun k (p : List S124 × Bool) => (pcsAll k l).bind fun q => some (p.1 :: q)) hb.pcs ?_
      refine Ev.bind (f := fun k q => some (r.1 :: q)) ih ?_
      exact Ev.now _
theorem psAt_map (rs : List (List S124 × Bool)) (i : Nat) : psAt (rs.map (·.1)) i = (rsAt rs i).1 := by
  unfold psAt rsAt
  rw [List.getD_eq_getElem?_getD, List.getD_eq_getElem?_getD, List.getElem?_map]
  cases rs[i]? <;> rfl
theorem rdOf_mem (l : List ByteArray) (i : Nat) (hi : i < l.length) : rdOf ByteArray.empty l i ∈ l := by
  rw [rdOf_nat, List.getD_eq_getElem?_getD, List.getElem?_eq_getElem hi]
  exact List.getElem_mem _
def partAt (rs : List (List S124 × Bool)) (q : List ByteArray) (i k : Nat) : Bool := (rsAt rs i).2 && pfitB (rsAt rs i).1 (rdOf ByteArray.empty q k)
theorem doc_fits_loops (l q : List ByteArray) (rs : List (List S124 × Bool)) (h : BothL l rs) (hl : l.length ≤ 1048576) (hq : q.length ≤ 1048576) (hls : ∀ x ∈ l, x.size ≤ 255) (hqs : ∀ x ∈ q, x.size ≤ 1048576) : RowLoop l.length q.length (wideB l) (partAt rs q)
    (fun k R i => montageref37_Fits.l0 k l q R (i : Int)) (fun k R i N j => montageref37_Fits.l1 k l q R (i : Int) N (j : Int)) (fun k R i N j t => montageref37_Fits.l2 k l q R (i : Int) N (j : Int) (t : Int)) where
  row := fun R i r hi h => Ev.step (fun k => by
    simp only [montageref37_Fits.l0]
    rw [if_pos (by omega), w64g (by omega) (by omega), if_pos (by omega), if_pos (by omega)]
    rfl) h
  fin := fun R hR => Ev.step (f := fun _ => some (R.getD q.length false)) (fun k => by
    simp only [montageref37_Fits.l0]
    rw [if_neg (by omega), if_pos (by omega), if_pos (by omega)]
    rfl) (Ev.now _)
  rowEnd := fun R i N r hi h => Ev.step (fun k => by
    simp only [montageref37_Fits.l1]
    rw [if_neg (by omega), w64g (by omega) (by omega)]
    rfl) h
  skip := fun R i N j r hj hR hg h => Ev.step (fun k => by
    simp only [montageref37_Fits.l1]
    rw [if_pos (by omega), if_pos (by omega), if_pos (by omega), rdOf_nat, hg, if_neg (by simp), w64g (by omega) (by omega)]
    rfl) h
  star := fun R i N j r hj hR hg hi hm h => Ev.step (fun k => by
    simp only [montageref37_Fits.l1]
    rw [if_pos (by omega), if_pos (by omega), if_pos (by omega), rdOf_nat false, hg, if_pos rfl, if_pos (by omega), if_pos (by omega), if_pos ((wideB_iff l i).1 hm)]) h
  one := fun R i N j r hj hR hg hi hm hf hN h' => by
    have hw : ¬ (rdOf ByteArray.empty l (i : Int)).toList = [42, 42] := fun e => by rw [(wideB_iff l i).2 e] at hm; cases hm
    have hp := (part_both (rdOf ByteArray.empty l i) (rdOf ByteArray.empty q j) (hqs _ (rdOf_mem q j hj)) (hls _ (rdOf_mem l i hi)) (h.2 i hi)).1
    have hf2 : ((rsAt rs i).2 && pfitB (rsAt rs i).1 (rdOf ByteArray.empty q j)) = true := hf
    rw [hf2] at hp
    refine Ev.step (f := fun k => (montageref37_Part.f k (rdOf ByteArray.empty l i) (rdOf ByteArray.empty q j)).bind fun t213 => (if t213 = true then montageref37_Fits.l1 k l q R (i : Int) (N.set (j + 1) true) ((j + 1 : Nat) : Int) else montageref37_Fits.l1 k l q R (i : Int) N ((j + 1 : Nat) : Int))) (fun k => ?_) (Ev.bind (f := fun k t213 => (if t213 = true then montageref37_Fits.l1 k l q R (i : Int) (N.set (j + 1) true) ((j + 1 : Nat) : Int) else montageref37_Fits.l1 k l q R (i : Int) N ((j + 1 : Nat) : Int))) hp ?_)
    · simp only [montageref37_Fits.l1]
      rw [if_pos (by omega), if_pos (by omega), if_pos (by omega), rdOf_nat false, hg, if_pos rfl, if_pos (by omega), if_pos (by omega), if_neg hw, if_pos (by omega)]
      congr 1
      funext x
      rw [w64g (x := (j : Int) + 1) (by omega) (by omega), if_pos (show (0 : Int) ≤ (j : Int) + 1 from by omega), if_pos (show (j : Int) + 1 < (N.length : Int) from by omega)]
      rfl
    · refine Ev.congr (fun k => ?_) h'
      rw [if_pos rfl]
  no := fun R i N j r hj hR hg hi hm hf h' => by
    have hw : ¬ (rdOf ByteArray.empty l (i : Int)).toList = [42, 42] := fun e => by rw [(wideB_iff l i).2 e] at hm; cases hm
    by_cases e : j < q.length
    · have hp := (part_both (rdOf ByteArray.empty l i) (rdOf ByteArray.empty q j) (hqs _ (rdOf_mem q j e)) (hls _ (rdOf_mem l i hi)) (h.2 i hi)).1
      have hf2 : ((rsAt rs i).2 && pfitB (rsAt rs i).1 (rdOf ByteArray.empty q j)) = false := by
        cases e3 : ((rsAt rs i).2 && pfitB (rsAt rs i).1 (rdOf ByteArray.empty q j)) with
        | true => exact absurd ⟨e, e3⟩ hf
        | false => rfl
      rw [hf2] at hp
      refine Ev.step (f := fun k => (montageref37_Part.f k (rdOf ByteArray.empty l i) (rdOf ByteArray.empty q j)).bind fun t213 => (if t213 = true then (if (0 : Int) ≤ (j : Int) + 1 then (if (j : Int) + 1 < (N.length : Int) then montageref37_Fits.l1 k l q R (i : Int) (N.set ((j : Int) + 1).toNat true) ((j : Int) + 1) else none) else none) else montageref37_Fits.l1 k l q R (i : Int) N ((j : Int) + 1))) (fun k => ?_) (Ev.bind (f := fun k t213 => (if t213 = true then (if (0 : Int) ≤ (j : Int) + 1 then (if (j : Int) + 1 < (N.length : Int) then montageref37_Fits.l1 k l q R (i : Int) (N.set ((j : Int) + 1).toNat true) ((j : Int) + 1) else none) else none) else montageref37_Fits.l1 k l q R (i : Int) N ((j : Int) + 1))) hp ?_)
      · simp only [montageref37_Fits.l1]
        rw [if_pos (by omega), if_pos (by omega), if_pos (by omega), rdOf_nat false, hg, if_pos rfl, if_pos (by omega), if_pos (by omega), if_neg hw, if_pos (by omega), w64g (x := (j : Int) + 1) (by omega) (by omega)]
      · refine Ev.congr (fun k => ?_) h'
        rw [if_neg (by simp)]
        rfl
    · refine Ev.step (fun k => ?_) h'
      simp only [montageref37_Fits.l1]
      rw [if_pos (by omega), if_pos (by omega), if_pos (by omega), rdOf_nat false, hg, if_pos rfl, if_pos (by omega), if_pos (by omega), if_neg hw, if_neg (by omega), w64g (x := (j : Int) + 1) (by omega) (by omega)]
      rfl
  fill := fun R i N j t r ht hN h => Ev.step (fun k => by
    simp only [montageref37_Fits.l2]
    rw [if_pos (by omega), if_pos (by omega), if_pos (by omega), w64g (by omega) (by omega)]
    rfl) h
  fillEnd := fun R i N j r hj h => Ev.step (fun k => by
    simp only [montageref37_Fits.l2]
    rw [if_neg (by omega), w64g (by omega) (by omega)]
    rfl) h
/-- All of a pattern: is it right, whom does it fit? -/
theorem glob_all (p : ByteArray) (hp : p.size ≤ 255) : ∃ rs b, BothL (partsB p) rs ∧ Ev (fun k => glob_Check.f k p) (if b = true then 0 else 2) ∧ Ev (fun k => montageref37_Right.f k p) b ∧ (b = true ↔ Fine (partsB p) rs) ∧
    ∀ s : ByteArray, s.size ≤ 1000000 → Ev (fun k => glob_Fits.f k p s) (b && fitsB (partsB p) (partsB s) (rs.map (·.1))) ∧ Ev (fun k => montageref37_Fits.f k p s) (b && fitsB (partsB p) (partsB s) (rs.map (·.1))) := by
  have hsz := partsB_size p
  obtain ⟨rs, hrs⟩ := bothL_any (partsB p) (fun x hx => by have := hsz x hx; omega)
  obtain ⟨b, h1, h2, h3⟩ := check_both p hp rs hrs
  refine ⟨rs, b, hrs, h1, h2, h3, fun s hs => ?_⟩
  have hpl := partsB_length p
  have hsl := partsB_length s
  have hss := partsB_size s
  have hr := route_parts p (by omega)
  have hd := doc_parts p (by omega)
  have hr2 := route_parts s (by omega)
  have hd2 := doc_parts s (by omega)
  cases b with
  | false =>
    constructor
    · refine Ev.bind (f := fun k ch => if ch = 0 then ((route_Parts.f p).bind fun l => (route_Parts.f s).bind fun q => (pcsAll k l).bind fun ps => if okSizes l q ps = true then some (fitsB l q ps) else none) else some false) h1 ?_
      refine Ev.congr (fun k => ?_) (Ev.now _)
      rw [if_neg (by simp)]
      rfl
    · unfold montageref37_Fits.f
      refine Ev.bind (f := fun k (t193 : Bool) => if t193 = true then _ else some false) h2 ?_
      refine Ev.congr (fun k => ?_) (Ev.now _)
      rw [if_neg (by simp)]
      rfl
  | true =>
    have hfine := h3.1 rfl
    constructor
    · refine Ev.bind (f := fun k ch => if ch = 0 then ((route_Parts.f p).bind fun l => (route_Parts.f s).bind fun q => (pcsAll k l).bind fun ps => if okSizes l q ps = true then some (fitsB l q ps) else none) else some false) h1 ?_
      refine Ev.congr (f := fun k => (pcsAll k (partsB p)).bind fun ps => if okSizes (partsB p) (partsB s) ps = true then some (fitsB (partsB p) (partsB s) ps) else none) (fun k => ?_) ?_
      · rw [if_pos (by simp), hr, hr2]; rfl
      · refine Ev.bind (f := fun k ps => if okSizes (partsB p) (partsB s) ps = true then some (fitsB (partsB p) (partsB s) ps) else none) (pcsAll_ev _ _ hrs) ?_
        refine Ev.congr (fun k => ?_) (Ev.now _)
        rw [if_pos ?_]
        · rfl
        · unfold okSizes
          simp only [Bool.and_eq_true, decide_eq_true_eq, List.all_eq_true]
          refine ⟨⟨⟨by omega, by omega⟩, fun x hx => ?_⟩, fun x hx => by have := hss x hx; omega⟩
          obtain ⟨y, hy, rfl⟩ := List.mem_map.1 hx
          obtain ⟨i, hi, rfl⟩ := List.getElem_of_mem hy
          have hb := hrs.2 i (by rw [← hrs.1]; exact hi)
          have hlen := hb.len
          have e : rsAt rs i = rs[i] := by unfold rsAt; rw [List.getD_eq_getElem?_getD, List.getElem?_eq_getElem hi]; rfl
          rw [e] at hlen
          have := hsz _ (rdOf_mem (partsB p) i (by rw [← hrs.1]; exact hi))
          omega
    · obtain ⟨c, hc, hq⟩ := (doc_fits_loops (partsB p) (partsB s) rs hrs (by omega) (by omega) (fun x hx => by have := hsz x hx; omega) (fun x hx => by have := hss x hx; omega)).start
      have e1 : c = fitsB (partsB p) (partsB s) (rs.map (·.1)) := by
        rw [Bool.eq_iff_iff, hq, pf_iff]
        refine Iff.trans ?_ mtAll_iff.symm
        have hf : ∀ i k, i < (partsB p).length → k < (partsB s).length → wideB (partsB p) i = false → partAt rs (partsB s) i k = pfitB (psAt (rs.map (·.1)) i) (rdOf ByteArray.empty (partsB s) k) := by
          intro i k hi hk hw
          have hok := hfine.2.2 i hi
          unfold okAt at hok
          rw [hw, Bool.false_or] at hok
          unfold partAt
          rw [hok, Bool.true_and, psAt_map]
        exact ⟨mt_congr (fun i hi => rfl) hf, mt_congr (fun i hi => rfl) (fun i k hi hk hw => (hf i k hi hk hw).symm)⟩
      rw [Bool.true_and, ← e1]
      unfold montageref37_Fits.f
      refine Ev.bind (f := fun k (t193 : Bool) => (if t193 = true then ((montageref13_Parts.f k p).bind fun t194 => ((montageref13_Parts.f k s).bind fun t197 => (if 0 ≤ (wrap64 ((t197.length : Int) + 1)) then (if (wrap64 ((t197.length : Int) + 1) : Int).toNat ≤ 281474976710656 then ((some (List.replicate (wrap64 ((t197.length : Int) + 1) : Int).toNat false : List Bool)).bind fun y200 => (if 0 < (y200.length : Int) then (montageref37_Fits.l0 k t194 t197 (y200.set (0 : Int).toNat true) 0) else (none))) else (none)) else (none)))) else (some false))) h2 ?_
      refine Ev.congr (f := fun k => ((montageref13_Parts.f k p).bind fun t194 => ((montageref13_Parts.f k s).bind fun t197 => (if 0 ≤ (wrap64 ((t197.length : Int) + 1)) then (if (wrap64 ((t197.length : Int) + 1) : Int).toNat ≤ 281474976710656 then ((some (List.replicate (wrap64 ((t197.length : Int) + 1) : Int).toNat false : List Bool)).bind fun y200 => (if 0 < (y200.length : Int) then (montageref37_Fits.l0 k t194 t197 (y200.set (0 : Int).toNat true) 0) else (none))) else (none)) else (none))))) (fun k => ?_) ?_
      · rw [if_pos rfl]
      · refine Ev.bind (f := fun k t194 => ((montageref13_Parts.f k s).bind fun t197 => (if 0 ≤ (wrap64 ((t197.length : Int) + 1)) then (if (wrap64 ((t197.length : Int) + 1) : Int).toNat ≤ 281474976710656 then ((some (List.replicate (wrap64 ((t197.length : Int) + 1) : Int).toNat false : List Bool)).bind fun y200 => (if 0 < (y200.length : Int) then (montageref37_Fits.l0 k t194 t197 (y200.set (0 : Int).toNat true) 0) else (none))) else (none)) else (none)))) hd ?_
        refine Ev.bind (f := fun k t197 => (if 0 ≤ (wrap64 ((t197.length : Int) + 1)) then (if (wrap64 ((t197.length : Int) + 1) : Int).toNat ≤ 281474976710656 then ((some (List.replicate (wrap64 ((t197.length : Int) + 1) : Int).toNat false : List Bool)).bind fun y200 => (if 0 < (y200.length : Int) then (montageref37_Fits.l0 k (partsB p) t197 (y200.set (0 : Int).toNat true) 0) else (none))) else (none)) else (none))) hd2 ?_
        refine Ev.congr (fun k => ?_) hc
        rw [w64g (by omega) (by omega), if_pos (by omega), if_pos (by omega), Option.bind_some, if_pos (by rw [List.length_replicate]; omega)]
        rfl

end Go.Proofs.YtdaofffedfccmaaDoor.XGlob
