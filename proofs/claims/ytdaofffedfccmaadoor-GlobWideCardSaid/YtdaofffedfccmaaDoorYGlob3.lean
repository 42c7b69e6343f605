/- Glob: pieces and tokens. It has no conditions. -/
import Derived.Test.YtdaofffedfccmaaDoorYGlob2
import Derived.BigRegion
import Derived.RegionTactic
import Derived.ChangeAlike
import Derived.Deep.RegionWith
import Derived.Deep.RegionLaw
import Derived.Laws.Tables
import Derived.Deep.QuietTactic
import Derived.BigQuiet
import Derived.Deep.RegionHeld3
import Derived.Deep.AppendLies
import Derived.Deep.DrawnRows
import Derived.Laws.CopyOwn
import Derived.Deep.MidRow
import Derived.Laws.ResultCell
import Derived.ChangeKeysEq
import Derived.Laws.BitsAllLaws
namespace Go.Proofs.YtdaofffedfccmaaDoor.XGlob
set_option linter.unusedVariables false
set_option linter.unusedSimpArgs false
open Go.RowKit Go.Proofs.YtdaofffedfccmaaDoorW.PrintWords Go.Proofs.YtdaofffedfccmaaDoorW.PrintLast Go.Proofs.YtdaofffedfccmaaDoorW.PrintMore
attribute [local go_sem] max2_int min2_int max_two min_two max_three min_three max_four min_four
open XGlobFits
/-! ### A part's pieces, the program's and the document's. -/
def tok (p : S124) : Int := if p.f0 = 2 then 257 else if p.f0 = 1 then 256 else p.f1
def GoodP (p : S124) : Prop := (p.f0 = 0 ∧ 0 ≤ p.f1 ∧ p.f1 ≤ 255) ∨ (p.f0 = 1 ∧ p.f1 = 0) ∨ (p.f0 = 2 ∧ p.f1 = 0)
theorem tok_many {p : S124} (h : GoodP p) : tok p = 257 ↔ p.f0 = 2 := by
  unfold tok
  rcases h with ⟨a, b, c⟩ | ⟨a, b⟩ | ⟨a, b⟩
  · rw [if_neg (by omega), if_neg (by omega)]; omega
  · rw [if_neg (by omega), if_pos a]; omega
  · rw [if_pos a]; omega
theorem tok_fits {p : S124} (h : GoodP p) (hm : p.f0 ≠ 2) (c : Int) (h0 : 0 ≤ c) (h1 : c ≤ 255) : (tok p = 256 ∨ tok p = c) ↔ (p.f0 = 1 ∨ p.f1 = c) := by
  unfold tok
  rw [if_neg hm]
  rcases h with ⟨a, b, d⟩ | ⟨a, b⟩ | ⟨a, b⟩
  · rw [if_neg (by omega)]; omega
  · rw [if_pos a]; omega
  · exact absurd a hm
theorem bt_le (x : ByteArray) (i : Int) : 0 ≤ bt x i ∧ bt x i ≤ 255 := bt_range x i
/-- One step: a piece more, on both sides. -/
def PT (x : ByteArray) (i : Nat) (acc : List S124) : Prop := ∃ r ok, (∀ p ∈ r, GoodP p) ∧ r.length ≤ x.size ∧ Ev (fun k => glob_pieces.l0 k x acc (i : Int)) (r, ok) ∧ Ev (fun k => montageref37_tokens.l0 k x (acc.map tok) (i : Int)) (r.map tok, ok)
theorem pt_any (x : ByteArray) (h1 : 1 ≤ x.size) (hx : x.size ≤ 255) : ∀ (d i : Nat) (acc : List S124), x.size - i ≤ d → i ≤ x.size → acc.length ≤ i → (∀ p ∈ acc, GoodP p) → PT x i acc
  | d, i, acc, hd, hi, ha, hg => by
    have step1 : ∀ (p : S124) (j : Nat), GoodP p → i < j → j ≤ x.size → (∀ k, glob_pieces.l0 (k + 1) x acc (i : Int) = glob_pieces.l0 k x (acc ++ [p]) (j : Int)) → (∀ k, montageref37_tokens.l0 (k + 1) x (acc.map tok) (i : Int) = montageref37_tokens.l0 k x (acc.map tok ++ [tok p]) (j : Int)) → PT x i acc := by
      intro p j gp hij hj s1 s2
      match d, hd with
      | 0, hd => omega
      | d + 1, hd =>
        obtain ⟨r, ok, h3, h4, h5, h6⟩ := pt_any x h1 hx d j (acc ++ [p]) (by omega) hj (by simp; omega) (fun q hq => by
          rcases List.mem_append.1 hq with hq | hq
          · exact hg q hq
          · rw [List.mem_singleton] at hq; subst hq; exact gp)
        refine ⟨r, ok, h3, h4, Ev.step s1 h5, Ev.step s2 ?_⟩
        rw [List.map_append] at h6
        exact h6
    have fail1 : (∀ k, glob_pieces.l0 (k + 1) x acc (i : Int) = some ([], false)) → (∀ k, montageref37_tokens.l0 (k + 1) x (acc.map tok) (i : Int) = some ([], false)) → PT x i acc := by
      intro s1 s2
      exact ⟨[], false, fun p hp => (by cases hp), Nat.zero_le _, Ev.step (f := fun _ => some ([], false)) s1 (Ev.now _), Ev.step (f := fun _ => some ([], false)) s2 (Ev.now _)⟩
    have hml : (acc.map tok).length = acc.length := List.length_map _
    rcases Nat.lt_or_ge i x.size with hlt | hge
    · obtain ⟨b0, b1⟩ := bt_le x (i : Int)
      by_cases c92 : bt x (i : Int) = 92
      · by_cases hend : i + 1 = x.size
        · refine fail1 (fun k => ?_) (fun k => ?_)
          · simp only [glob_pieces.l0]
            rw [if_pos (by omega), if_pos (by omega), if_pos c92, w64g (by omega) (by omega), if_pos (by omega)]
          · simp only [montageref37_tokens.l0]
            rw [if_pos (by omega), if_pos (by omega), if_pos c92, w64g (by omega) (by omega), if_pos (by omega)]
        · obtain ⟨q0, q1⟩ := bt_le x ((i + 1 : Nat) : Int)
          refine step1 ⟨0, bt x ((i + 1 : Nat) : Int)⟩ (i + 2) (.inl ⟨rfl, q0, q1⟩) (by omega) (by omega) (fun k => ?_) (fun k => ?_)
          · simp only [glob_pieces.l0]
            rw [if_pos (by omega), if_pos (by omega), if_pos c92, w64g (by omega) (by omega), if_neg (by omega), if_pos (by omega), if_pos (by omega), if_pos (by omega), w64g (by omega) (by omega)]
            rfl
          · simp only [montageref37_tokens.l0]
            rw [if_pos (by omega), if_pos (by omega), if_pos c92, w64g (by omega) (by omega), if_neg (by omega), if_pos (by omega), if_pos (by omega), if_pos (by omega), w64g (x := (i : Int) + 1 + 1) (by omega) (by omega), show (i : Int) + 1 = ((i + 1 : Nat) : Int) from rfl, w64g (x := bt x ((i + 1 : Nat) : Int)) (by omega) (by omega)]
            rfl
      · by_cases c63 : bt x (i : Int) = 63
        · refine step1 ⟨1, 0⟩ (i + 1) (.inr (.inl ⟨rfl, rfl⟩)) (by omega) (by omega) (fun k => ?_) (fun k => ?_)
          · simp only [glob_pieces.l0]
            rw [if_pos (by omega), if_pos (by omega), if_neg c92, if_pos c63, if_pos (by omega), w64g (by omega) (by omega)]
            rfl
          · simp only [montageref37_tokens.l0]
            rw [if_pos (by omega), if_pos (by omega), if_neg c92, if_pos c63, if_pos (by omega), w64g (by omega) (by omega)]
            rfl
        · by_cases c42 : bt x (i : Int) = 42
          · by_cases hl : 0 < acc.length
            · have hgl : GoodP (rd_T124 acc ((acc.length : Int) - 1)) := by
                unfold rd_T124
                rw [show ((acc.length : Int) - 1).toNat = acc.length - 1 from by omega, List.getD_eq_getElem?_getD, List.getElem?_eq_getElem (by omega)]
                exact hg _ (List.getElem_mem _)
              have hrd : rd (acc.map tok) ((acc.length : Int) - 1) = tok (rd_T124 acc ((acc.length : Int) - 1)) := by
                unfold rd rd_T124
                rw [show ((acc.length : Int) - 1).toNat = acc.length - 1 from by omega, List.getD_eq_getElem?_getD, List.getD_eq_getElem?_getD, List.getElem?_map, List.getElem?_eq_getElem (by omega)]
                rfl
              by_cases hs : (rd_T124 acc ((acc.length : Int) - 1)).f0 = 2
              · refine fail1 (fun k => ?_) (fun k => ?_)
                · simp only [glob_pieces.l0]
                  rw [if_pos (by omega), if_pos (by omega), if_neg c92, if_neg c63, if_pos c42, if_pos (by omega), w64g (by omega) (by omega), if_pos (by omega), if_pos (by omega), if_pos hs]
                · simp only [montageref37_tokens.l0]
                  rw [if_pos (by omega), if_pos (by omega), if_neg c92, if_neg c63, if_pos c42, if_pos (by omega), w64g (by omega) (by omega), if_pos (by omega), if_pos (by omega), hml, hrd, if_pos ((tok_many hgl).2 hs)]
              · refine step1 ⟨2, 0⟩ (i + 1) (.inr (.inr ⟨rfl, rfl⟩)) (by omega) (by omega) (fun k => ?_) (fun k => ?_)
                · simp only [glob_pieces.l0]
                  rw [if_pos (by omega), if_pos (by omega), if_neg c92, if_neg c63, if_pos c42, if_pos (by omega), w64g (x := (acc.length : Int) - 1) (by omega) (by omega), if_pos (by omega), if_pos (by omega), if_neg hs, if_pos (by omega), w64g (by omega) (by omega)]
                  rfl
                · simp only [montageref37_tokens.l0]
                  rw [if_pos (by omega), if_pos (by omega), if_neg c92, if_neg c63, if_pos c42, if_pos (by omega), hml, w64g (x := (acc.length : Int) - 1) (by omega) (by omega), if_pos (by omega), if_pos (by omega), hrd, if_neg (fun e => hs ((tok_many hgl).1 e)), if_pos (by omega), w64g (by omega) (by omega)]
                  rfl
            · refine step1 ⟨2, 0⟩ (i + 1) (.inr (.inr ⟨rfl, rfl⟩)) (by omega) (by omega) (fun k => ?_) (fun k => ?_)
              · simp only [glob_pieces.l0]
                rw [if_pos (by omega), if_pos (by omega), if_neg c92, if_neg c63, if_pos c42, if_neg (by omega), if_pos (by omega), w64g (by omega) (by omega)]
                rfl
              · simp only [montageref37_tokens.l0]
                rw [if_pos (by omega), if_pos (by omega), if_neg c92, if_neg c63, if_pos c42, if_neg (by omega), if_pos (by omega), w64g (by omega) (by omega)]
                rfl
          · refine step1 ⟨0, bt x (i : Int)⟩ (i + 1) (.inl ⟨rfl, b0, b1⟩) (by omega) (by omega) (fun k => ?_) (fun k => ?_)
            · simp only [glob_pieces.l0]
              rw [if_pos (by omega), if_pos (by omega), if_neg c92, if_neg c63, if_neg c42, if_pos (by omega), w64g (by omega) (by omega)]
              rfl
            · simp only [montageref37_tokens.l0]
              rw [if_pos (by omega), if_pos (by omega), if_neg c92, if_neg c63, if_neg c42, if_pos (by omega), w64g (x := (i : Int) + 1) (by omega) (by omega), w64g (by omega) (by omega)]
              rfl
    · obtain rfl : i = x.size := by omega
      refine ⟨acc, true, hg, ha, Ev.step (f := fun _ => some (acc, true)) (fun k => ?_) (Ev.now _), Ev.step (f := fun _ => some (acc.map tok, true)) (fun k => ?_) (Ev.now _)⟩
      · simp only [glob_pieces.l0]
        rw [if_neg (by omega)]
      · simp only [montageref37_tokens.l0]
        rw [if_neg (by omega), if_pos (by omega), decide_eq_true (by omega)]
/-- A part: its pieces and its tokens. -/
structure Both (x : ByteArray) (r : List S124) (ok : Bool) : Prop where
  good : ∀ p ∈ r, GoodP p
  len : r.length ≤ x.size
  pcs : Ev (fun k => glob_pieces.f k x) (r, ok)
  toks : Ev (fun k => montageref37_tokens.f k x) (r.map tok, ok)
theorem both_any (x : ByteArray) (hx : x.size ≤ 255) : ∃ r ok, Both x r ok := by
  by_cases h0 : x.size = 0
  · have e0 : x.toList = [] := by
      rw [Lib.toList_data]
      exact List.length_eq_zero_iff.1 (by rw [size_data]; exact h0)
    refine ⟨[], false, fun p hp => (by cases hp), Nat.zero_le _, ?_, ?_⟩
    · refine Ev.congr (f := fun k => glob_pieces.j0 k x true) (fun k => ?_) (Ev.step (f := fun _ => some ([], false)) (fun k => ?_) (Ev.now _))
      · unfold glob_pieces.f; rw [if_pos e0]
      · simp only [glob_pieces.j0]; rw [if_pos trivial]
    · refine Ev.congr (f := fun k => montageref37_tokens.l0 k x [] 0) (fun k => rfl) (Ev.step (f := fun _ => some ([], false)) (fun k => ?_) (Ev.now _))
      simp only [montageref37_tokens.l0]
      rw [if_neg (by omega), if_neg (by omega)]
  · have e0 : ¬ x.toList = [] := by
      rw [Lib.toList_data]
      intro e
      have := congrArg List.length e
      rw [size_data] at this
      exact h0 this
    obtain ⟨r, ok, h3, h4, h5, h6⟩ := pt_any x (by omega) hx x.size 0 [] (by omega) (Nat.zero_le _) (Nat.le_refl _) (fun p hp => by cases hp)
    refine ⟨r, ok, h3, h4, ?_, ?_⟩
    · refine Ev.congr (f := fun k => glob_pieces.j0 k x false) (fun k => ?_) (Ev.step (f := fun k => glob_pieces.l0 k x [] 0) (fun k => ?_) h5)
      · unfold glob_pieces.f; rw [if_neg e0, decide_eq_false (by omega)]
      · simp only [glob_pieces.j0]; rw [if_neg (by simp)]
    · exact Ev.congr (fun k => rfl) h6

end Go.Proofs.YtdaofffedfccmaaDoor.XGlob
