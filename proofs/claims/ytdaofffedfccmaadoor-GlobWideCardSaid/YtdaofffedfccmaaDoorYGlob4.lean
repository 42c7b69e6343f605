/- Glob: the rows of answers of the document. It has no conditions. -/
import Derived.Test.YtdaofffedfccmaaDoorYGlob3
import Derived.BigRegion
import Derived.RegionTactic
import Derived.ChangeAlike
import Derived.Deep.RegionWith
import Derived.Deep.RegionLaw
import Derived.Laws.Tables
import Derived.Deep.QuietTactic
import Derived.BigQuiet
import Derived.Deep.RegionHeld3
import Derived.Deep.AppendLies
import Derived.Deep.DrawnRows
import Derived.Laws.CopyOwn
import Derived.Deep.MidRow
import Derived.Laws.ResultCell
import Derived.ChangeKeysEq
import Derived.Laws.BitsAllLaws
namespace Go.Proofs.YtdaofffedfccmaaDoor.XGlob
set_option linter.unusedVariables false
set_option linter.unusedSimpArgs false
open Go.RowKit Go.Proofs.YtdaofffedfccmaaDoorW.PrintWords Go.Proofs.YtdaofffedfccmaaDoorW.PrintLast Go.Proofs.YtdaofffedfccmaaDoorW.PrintMore
attribute [local go_sem] max2_int min2_int max_two min_two max_three min_three max_four min_four
open XGlobFits
/-! ### The document's rows of answers. -/
/-- Where the loops go, told by rounds; R: the row, N: the next one. -/
structure RowLoop (n m : Nat) (many : Nat → Bool) (fits : Nat → Nat → Bool) (L0 : Nat → List Bool → Nat → Option Bool) (L1 : Nat → List Bool → Nat → List Bool → Nat → Option Bool) (L2 : Nat → List Bool → Nat → List Bool → Nat → Nat → Option Bool) : Prop where
  row : ∀ R i r, i < n → Ev (fun k => L1 k R i (List.replicate (m + 1) false) 0) r → Ev (fun k => L0 k R i) r
  fin : ∀ R, R.length = m + 1 → Ev (fun k => L0 k R n) (R.getD m false)
  rowEnd : ∀ R i N r, i < n → Ev (fun k => L0 k N (i + 1)) r → Ev (fun k => L1 k R i N (m + 1)) r
  skip : ∀ R i N j r, j ≤ m → R.length = m + 1 → R.getD j false = false → Ev (fun k => L1 k R i N (j + 1)) r → Ev (fun k => L1 k R i N j) r
  star : ∀ R i N j r, j ≤ m → R.length = m + 1 → R.getD j false = true → i < n → many i = true → Ev (fun k => L2 k R i N j j) r → Ev (fun k => L1 k R i N j) r
  one : ∀ R i N j r, j < m → R.length = m + 1 → R.getD j false = true → i < n → many i = false → fits i j = true → N.length = m + 1 → Ev (fun k => L1 k R i (N.set (j + 1) true) (j + 1)) r → Ev (fun k => L1 k R i N j) r
  no : ∀ R i N j r, j ≤ m → R.length = m + 1 → R.getD j false = true → i < n → many i = false → ¬ (j < m ∧ fits i j = true) → Ev (fun k => L1 k R i N (j + 1)) r → Ev (fun k => L1 k R i N j) r
  fill : ∀ R i N j t r, t ≤ m → N.length = m + 1 → Ev (fun k => L2 k R i (N.set t true) j (t + 1)) r → Ev (fun k => L2 k R i N j t) r
  fillEnd : ∀ R i N j r, j ≤ m → Ev (fun k => L1 k R i N (j + 1)) r → Ev (fun k => L2 k R i N j (m + 1)) r
section
variable {n m : Nat} {many : Nat → Bool} {fits : Nat → Nat → Bool} {L0 : Nat → List Bool → Nat → Option Bool} {L1 : Nat → List Bool → Nat → List Bool → Nat → Option Bool} {L2 : Nat → List Bool → Nat → List Bool → Nat → Nat → Option Bool}
theorem RowLoop.fills (h : RowLoop n m many fits L0 L1 L2) {R : List Bool} {i : Nat} {N : List Bool} {j : Nat} {r : Bool} (hjm : j ≤ m) (hN : N.length = m + 1) : ∀ e d, j + d + e = m + 1 → Ev (fun k => L1 k R i (fillFrom N j (d + e)) (j + 1)) r → Ev (fun k => L2 k R i (fillFrom N j d) j (j + d)) r
  | 0, d, hd, h1 => by
    have := h.fillEnd R i (fillFrom N j d) j r hjm h1
    rw [show j + d = m + 1 from by omega]
    exact this
  | e + 1, d, hd, h1 => by
    refine h.fill R i (fillFrom N j d) j (j + d) r (by omega) (by rw [fillFrom_len]; exact hN) ?_
    have := h.fills (R := R) (i := i) (r := r) (N := N) (j := j) hjm hN e (d + 1) (by omega) (by rw [show d + 1 + e = d + (e + 1) from by omega]; exact h1)
    exact this
theorem RowLoop.rows (h : RowLoop n m many fits L0 L1 L2) {R : List Bool} {i : Nat} {Q : Bool → Prop} (hi : i < n) (hR : IsRow many fits m i R) (hk : ∀ N, IsRow many fits m (i + 1) N → ∃ b, Ev (fun k => L0 k N (i + 1)) b ∧ Q b) :
    ∀ e j N, j + e = m + 1 → IsNext many fits m i j N → ∃ b, Ev (fun k => L1 k R i N j) b ∧ Q b
  | 0, j, N, hj, hN => by
    obtain rfl : j = m + 1 := by omega
    obtain ⟨b, hb, hq⟩ := hk N (isNext_end hN)
    exact ⟨b, h.rowEnd R i N b hi hb, hq⟩
  | e + 1, j, N, hj, hN => by
    have hjm : j ≤ m := by omega
    have hr := hR.2 j hjm
    cases hg : R.getD j false with
    | false =>
      have hn : ¬ Pf many fits m i j := fun hp => by rw [hr.2 hp] at hg; cases hg
      obtain ⟨b, hb, hq⟩ := h.rows hi hR hk e (j + 1) N (by omega) (isNext_skip hN (.inl hn))
      exact ⟨b, h.skip R i N j b hjm hR.1 hg hb, hq⟩
    | true =>
      have hp := hr.1 hg
      cases hm : many i with
      | true =>
        obtain ⟨b, hb, hq⟩ := h.rows hi hR hk e (j + 1) _ (by omega) (isNext_star hN hp hm hjm)
        refine ⟨b, h.star R i N j b hjm hR.1 hg hi hm ?_, hq⟩
        have := h.fills (R := R) (i := i) (r := b) (N := N) (j := j) hjm hN.1 (m + 1 - j) 0 (by omega) (by rw [Nat.zero_add]; exact hb)
        exact this
      | false =>
        by_cases hf : j < m ∧ fits i j = true
        · obtain ⟨b, hb, hq⟩ := h.rows hi hR hk e (j + 1) _ (by omega) (isNext_one hN hp hm hf.1 hf.2)
          exact ⟨b, h.one R i N j b hf.1 hR.1 hg hi hm hf.2 hN.1 hb, hq⟩
        · obtain ⟨b, hb, hq⟩ := h.rows hi hR hk e (j + 1) N (by omega) (isNext_skip hN (.inr ⟨hm, hf⟩))
          exact ⟨b, h.no R i N j b hjm hR.1 hg hi hm hf hb, hq⟩
theorem RowLoop.all (h : RowLoop n m many fits L0 L1 L2) : ∀ d i R, n - i = d → i ≤ n → IsRow many fits m i R → ∃ b, Ev (fun k => L0 k R i) b ∧ (b = true ↔ Pf many fits m n m)
  | 0, i, R, hd, hi, hR => by
    obtain rfl : i = n := by omega
    exact ⟨_, h.fin R hR.1, hR.2 m (Nat.le_refl _)⟩
  | d + 1, i, R, hd, hi, hR => by
    obtain ⟨b, hb, hq⟩ := h.rows (i := i) (R := R) (Q := fun b => b = true ↔ Pf many fits m n m) (by omega) hR (fun N hN => h.all d (i + 1) N (by omega) (by omega) hN) (m + 1) 0 _ (by omega) isNext_start
    exact ⟨b, h.row R i b (by omega) hb, hq⟩
theorem RowLoop.start (h : RowLoop n m many fits L0 L1 L2) : ∃ b, Ev (fun k => L0 k ((List.replicate (m + 1) false).set 0 true) 0) b ∧ (b = true ↔ Pf many fits m n m) := h.all n 0 _ (by omega) (Nat.zero_le _) isRow_start
end
theorem rdOf_nat {α : Type} (z : α) (l : List α) (i : Nat) : rdOf z l (i : Int) = l.getD i z := rfl
def manyT (ts : List Int) (i : Nat) : Bool := decide (rd ts (i : Int) = 257)
def fitsT (ts : List Int) (s : ByteArray) (i k : Nat) : Bool := decide (rd ts (i : Int) = 256 ∨ rd ts (i : Int) = bt s (k : Int))
theorem doc_fit_loops (ts : List Int) (s : ByteArray) (hs : s.size ≤ 1048576) (ht : ts.length ≤ 1048576) : RowLoop ts.length s.size (manyT ts) (fitsT ts s)
    (fun k R i => montageref37_fit.l0 k ts s R (i : Int)) (fun k R i N j => montageref37_fit.l1 k ts s R (i : Int) N (j : Int)) (fun k R i N j t => montageref37_fit.l2 k ts s R (i : Int) N (j : Int) (t : Int)) where
  row := fun R i r hi h => Ev.step (fun k => by
    simp only [montageref37_fit.l0]
    rw [if_pos (by omega), w64g (by omega) (by omega), if_pos (by omega), if_pos (by omega)]
    rfl) h
  fin := fun R hR => Ev.step (f := fun _ => some (R.getD s.size false)) (fun k => by
    simp only [montageref37_fit.l0]
    rw [if_neg (by omega), if_pos (by omega), if_pos (by omega)]
    rfl) (Ev.now _)
  rowEnd := fun R i N r hi h => Ev.step (fun k => by
    simp only [montageref37_fit.l1]
    rw [if_neg (by omega), w64g (by omega) (by omega)]
    rfl) h
  skip := fun R i N j r hj hR hg h => Ev.step (fun k => by
    simp only [montageref37_fit.l1]
    rw [if_pos (by omega), if_pos (by omega), if_pos (by omega), rdOf_nat, hg, if_neg (by simp), w64g (by omega) (by omega)]
    rfl) h
  star := fun R i N j r hj hR hg hi hm h => Ev.step (fun k => by
    simp only [montageref37_fit.l1]
    rw [if_pos (by omega), if_pos (by omega), if_pos (by omega), rdOf_nat, hg, if_pos rfl, if_pos (by omega), if_pos (by omega), if_pos (of_decide_eq_true hm)]) h
  one := fun R i N j r hj hR hg hi hm hf hN h => Ev.step (fun k => by
    simp only [montageref37_fit.l1]
    obtain ⟨b0, b1⟩ := bt_le s (j : Int)
    rw [if_pos (by omega), if_pos (by omega), if_pos (by omega), rdOf_nat, hg, if_pos rfl, if_pos (by omega), if_pos (by omega), if_neg (of_decide_eq_false hm), if_pos (by omega), w64g (x := (j : Int) + 1) (by omega) (by omega), w64g (x := bt s (j : Int)) (by omega) (by omega)]
    rcases of_decide_eq_true hf with e | e
    · rw [if_pos e, if_pos (by omega), if_pos (by omega)]
      rfl
    · by_cases e2 : rd ts (i : Int) = 256
      · rw [if_pos e2, if_pos (by omega), if_pos (by omega)]
        rfl
      · rw [if_neg e2, if_pos e, if_pos (by omega), if_pos (by omega)]
        rfl) h
  no := fun R i N j r hj hR hg hi hm hf h => Ev.step (fun k => by
    simp only [montageref37_fit.l1]
    obtain ⟨b0, b1⟩ := bt_le s (j : Int)
    rw [if_pos (by omega), if_pos (by omega), if_pos (by omega), rdOf_nat, hg, if_pos rfl, if_pos (by omega), if_pos (by omega), if_neg (of_decide_eq_false hm), w64g (x := (j : Int) + 1) (by omega) (by omega), w64g (x := bt s (j : Int)) (by omega) (by omega)]
    by_cases e : j < s.size
    · have hf2 : ¬ (rd ts (i : Int) = 256 ∨ rd ts (i : Int) = bt s (j : Int)) := fun e3 => hf ⟨e, decide_eq_true e3⟩
      rw [if_pos (by omega), if_neg (fun e2 => hf2 (.inl e2)), if_neg (fun e2 => hf2 (.inr e2))]
      rfl
    · rw [if_neg (by omega)]
      rfl) h
  fill := fun R i N j t r ht hN h => Ev.step (fun k => by
    simp only [montageref37_fit.l2]
    rw [if_pos (by omega), if_pos (by omega), if_pos (by omega), w64g (by omega) (by omega)]
    rfl) h
  fillEnd := fun R i N j r hj h => Ev.step (fun k => by
    simp only [montageref37_fit.l2]
    rw [if_neg (by omega), w64g (by omega) (by omega)]
    rfl) h

theorem doc_fit (ts : List Int) (s : ByteArray) (hs : s.size ≤ 1048576) (ht : ts.length ≤ 1048576) : ∃ b, Ev (fun k => montageref37_fit.f k ts s) b ∧ (b = true ↔ Pf (manyT ts) (fitsT ts s) s.size ts.length s.size) := by
  obtain ⟨b, hb, hq⟩ := (doc_fit_loops ts s hs ht).start
  refine ⟨b, Ev.congr (fun k => ?_) hb, hq⟩
  unfold montageref37_fit.f
  rw [w64g (by omega) (by omega), if_pos (by omega), if_pos (by omega), Option.bind_some, if_pos (by rw [List.length_replicate]; omega)]
  rfl
/-- A part fits a text: the program's answer and the document's. -/
theorem part_both (x s : ByteArray) (hs : s.size ≤ 1048576) {r : List S124} {ok : Bool} (hx : x.size ≤ 255) (h : Both x r ok) : Ev (fun k => montageref37_Part.f k x s) (ok && pfitB r s) ∧ Ev (fun k => glob_Part.f k x s) (ok && pfitB r s) := by
  have hlen := h.len
  constructor
  · cases ok with
    | false =>
      refine Ev.bind (f := fun k (bt188 : List Int × Bool) => (if bt188.2 = true then ((montageref37_fit.f k bt188.1 s).bind fun t192 => (some t192)) else (some false))) h.toks ?_
      refine Ev.congr (fun k => ?_) (Ev.now _)
      rw [if_neg (by simp)]
      rfl
    | true =>
      obtain ⟨b, hb, hq⟩ := doc_fit (r.map tok) s hs (by rw [List.length_map]; omega)
      have e1 : b = pfitB r s := by
        rw [Bool.eq_iff_iff, hq, List.length_map, pf_iff]
        refine Iff.trans ?_ mtAll_iff.symm
        have hm : ∀ i, i < r.length → manyT (r.map tok) i = decide ((rd_T124 r i).f0 = 2) := by
          intro i hi
          have hg : GoodP (rd_T124 r (i : Int)) := by
            unfold rd_T124
            rw [show ((i : Nat) : Int).toNat = i from rfl, List.getD_eq_getElem?_getD, List.getElem?_eq_getElem hi]
            exact h.good _ (List.getElem_mem _)
          have hr : rd (r.map tok) (i : Int) = tok (rd_T124 r (i : Int)) := by
            unfold rd rd_T124
            rw [show ((i : Nat) : Int).toNat = i from rfl, List.getD_eq_getElem?_getD, List.getD_eq_getElem?_getD, List.getElem?_map, List.getElem?_eq_getElem hi]
            rfl
          unfold manyT
          rw [hr, decide_eq_decide]
          exact tok_many hg
        have hf : ∀ i k, i < r.length → k < s.size → manyT (r.map tok) i = false → fitsT (r.map tok) s i k = (decide ((rd_T124 r i).f0 = 1) || decide ((rd_T124 r i).f1 = bt s k)) := by
          intro i k hi hk hn
          have hn2 := hn
          rw [hm i hi] at hn2
          have hg : GoodP (rd_T124 r (i : Int)) := by
            unfold rd_T124
            rw [show ((i : Nat) : Int).toNat = i from rfl, List.getD_eq_getElem?_getD, List.getElem?_eq_getElem hi]
            exact h.good _ (List.getElem_mem _)
          have hr : rd (r.map tok) (i : Int) = tok (rd_T124 r (i : Int)) := by
            unfold rd rd_T124
            rw [show ((i : Nat) : Int).toNat = i from rfl, List.getD_eq_getElem?_getD, List.getD_eq_getElem?_getD, List.getElem?_map, List.getElem?_eq_getElem hi]
            rfl
          obtain ⟨b0, b1⟩ := bt_le s (k : Int)
          unfold fitsT
          rw [hr, Bool.eq_iff_iff, decide_eq_true_eq, Bool.or_eq_true, decide_eq_true_eq, decide_eq_true_eq]
          exact tok_fits hg (of_decide_eq_false hn2) _ b0 b1
        constructor
        · exact mt_congr hm hf
        · exact mt_congr (fun i hi => (hm i hi).symm) (fun i k hi hk hn => (hf i k hi hk (by rw [hm i hi]; exact hn)).symm)
      refine Ev.bind (f := fun k (bt188 : List Int × Bool) => (if bt188.2 = true then ((montageref37_fit.f k bt188.1 s).bind fun t192 => (some t192)) else (some false))) h.toks ?_
      refine Ev.congr (f := fun k => (montageref37_fit.f k (r.map tok) s).bind fun t192 => (some t192)) (fun k => ?_) ?_
      · rw [if_pos rfl]
      · refine Ev.bind (f := fun k t => some t) hb ?_
        rw [e1]
        exact Ev.now _
  · refine Ev.bind (f := fun k (bt135 : List S124 × Bool) => (if bt135.2 = true then ((glob_fit.f bt135.1 s).bind fun t139 => (some t139)) else (some false))) h.pcs ?_
    refine Ev.congr (fun k => ?_) (Ev.now _)
    cases ok with
    | false => rw [if_neg (by simp)]; rfl
    | true =>
      rw [if_pos rfl]
      unfold glob_fit.f
      rw [if_pos ⟨(by show r.length ≤ 4611686018427387904; omega), by omega⟩]
      rfl

end Go.Proofs.YtdaofffedfccmaaDoor.XGlob
