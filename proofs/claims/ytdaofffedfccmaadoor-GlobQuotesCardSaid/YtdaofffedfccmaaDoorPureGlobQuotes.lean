/- This text proves the statement over numbers and lists that the functions of the law GlobQuotes come to. It has no conditions. -/
import Derived.Test.YtdaofffedfccmaaDoorXGlobFitsx7
import Derived.Test.YtdaofffedfccmaaDoorYGlob6
namespace Go.Proofs.YtdaofffedfccmaaDoor.Pure
open Go.RowKit Go.Proofs.YtdaofffedfccmaaDoor.XGlobFits Go.Proofs.YtdaofffedfccmaaDoorW.PrintWords Go.Proofs.YtdaofffedfccmaaDoorW.PrintLast Go.Proofs.YtdaofffedfccmaaDoorW.PrintMore
set_option linter.unusedVariables false
set_option linter.unusedSimpArgs false

open XGlob
theorem awake_ev : Ev (fun k => montagelaw37_awake.f k) true := Ev.of (fun k => montagelaw37_awake.mono k) (k := 30) (by kernel_rfl)
theorem rdOf_map (l : List (List UInt8)) (i : Nat) (hi : i < l.length) : rdOf ByteArray.empty (l.map mk) (i : Int) = mk (l[i]'hi) := by
  rw [rdOf_nat, List.getD_eq_getElem?_getD, List.getElem?_map, List.getElem?_eq_getElem hi]
  rfl
theorem partsB_ne (a : ByteArray) (h : partsB a ≠ []) : a.data.toList ≠ [] := by
  intro e
  apply h
  unfold partsB
  rw [if_pos e]
/-- Whom a quoted path fits. -/
theorem quoted_fits (A : List UInt8) (q : ByteArray) (hqe : q = mk (quoteL A)) (hq : q.size ≤ 255) (rs : List (List S124 × Bool)) (hrs : BothL (partsB q) rs) (hf : Fine (partsB q) rs) (b : ByteArray) :
    fitsB (partsB q) (partsB b) (rs.map (·.1)) = decide (b.data.toList = A) := by
  have hne : quoteL A ≠ [] := by
    have := partsB_ne q (fun e => by have h1 := hf.1; rw [e] at h1; simp at h1)
    rw [hqe, data_mk] at this
    exact this
  have hA : A ≠ [] := fun e => hne (by rw [e]; rfl)
  have hp : partsB q = ((sp A).map quoteL).map mk := by rw [hqe, partsB_mk _ hne, sp_quote]
  have hsz := partsB_size q
  rw [hp] at hrs hf hsz ⊢
  have hl : (((sp A).map quoteL).map mk).length = (sp A).length := by rw [List.length_map, List.length_map]
  have hw : ∀ i, i < (((sp A).map quoteL).map mk).length → wideB (((sp A).map quoteL).map mk) i = false := by
    intro i hi
    have hi2 : i < ((sp A).map quoteL).length := by rw [List.length_map] at hi; exact hi
    cases e : wideB (((sp A).map quoteL).map mk) i with
    | false => rfl
    | true =>
      have h1 := (wideB_iff _ i).1 e
      rw [rdOf_map _ i hi2, toList_mk, List.getElem_map] at h1
      exact absurd h1 (quoteL_wide _)
  have hps : ∀ i, (hi : i < (sp A).length) → psAt (rs.map (·.1)) i = ((sp A)[i]'hi).map exactP := by
    intro i hi
    have hi1 : i < (((sp A).map quoteL).map mk).length := by rw [hl]; exact hi
    have hi2 : i < ((sp A).map quoteL).length := by rw [List.length_map]; exact hi
    have hb := hrs.2 i hi1
    have hok := hf.2.2 i hi1
    unfold okAt at hok
    rw [hw i hi1, Bool.false_or] at hok
    have hmem := hsz _ (rdOf_mem _ i hi1)
    rw [rdOf_map _ i hi2, List.getElem_map] at hb hmem
    rw [size_mk] at hmem
    rw [psAt_map]
    by_cases h0 : (sp A)[i] = []
    · exfalso
      have h1 : Ev (fun k => glob_pieces.f k (mk (quoteL (sp A)[i]))) ([], false) := by
        rw [h0]
        refine Ev.congr (f := fun k => glob_pieces.j0 k (mk (quoteL [])) true) (fun k => ?_) (Ev.step (f := fun _ => some ([], false)) (fun k => ?_) (Ev.now _))
        · unfold glob_pieces.f; rw [if_pos (by rw [toList_mk]; rfl)]
        · simp only [glob_pieces.j0]; rw [if_pos trivial]
      have e2 := ev_uniq hb.pcs h1
      have e3 := congrArg Prod.snd e2
      rw [hok] at e3
      cases e3
    · have h1 := quoted_pieces (sp A)[i] h0 (by omega)
      exact congrArg Prod.fst (ev_uniq hb.pcs h1)
  rw [Bool.eq_iff_iff, decide_eq_true_eq]
  refine (mtAll_iff.trans (mt_single hw)).trans ?_
  rw [hl]
  constructor
  · rintro ⟨h1, h2⟩
    have hbne : b.data.toList ≠ [] := by
      intro e
      unfold partsB at h1
      rw [if_pos e] at h1
      exact sp_ne A (List.length_eq_zero_iff.1 h1)
    have hpb := partsB_of b hbne
    rw [hpb, List.length_map] at h1
    apply sp_inj
    apply List.ext_getElem h1.symm
    intro i h3 h4
    have := h2 i h4
    rw [hps i h4, exact_fit, hpb, rdOf_map _ i h3, data_mk] at this
    exact this
  · intro e
    have hpb := partsB_of b (by rw [e]; exact hA)
    rw [hpb, e, List.length_map]
    refine ⟨rfl, fun i hi => ?_⟩
    rw [hps i hi, exact_fit, rdOf_map _ i hi, data_mk]
theorem GlobQuotes : montagelaw37_GlobQuotes.Pure := by
  intro a b _ _
  refine Ev.rounds (r := true) ?_
  unfold montagelaw37_GlobQuotes.f
  refine Ev.bind (f := fun k (t223 : Bool) => (if t223 = true then (if (a.size : Int) > 60 then (montagelaw37_GlobQuotes.j0 k a b true) else (montagelaw37_GlobQuotes.j0 k a b (decide ((b.size : Int) > 60)))) else (some false))) awake_ev ?_
  by_cases hbig : 60 < a.size ∨ 60 < b.size
  · refine Ev.congr (f := fun k => montagelaw37_GlobQuotes.j0 k a b true) (fun k => ?_) (Ev.step (f := fun _ => some true) (fun k => ?_) (Ev.now _))
    · rw [if_pos rfl]
      by_cases h : (a.size : Int) > 60
      · rw [if_pos h]
      · rw [if_neg h, decide_eq_true (by omega)]
    · simp only [montagelaw37_GlobQuotes.j0]
      rw [if_pos trivial]
  · have hql := quoteL_len a.data.toList
    rw [size_data] at hql
    obtain ⟨q, hqe⟩ : ∃ q, q = mk (quoteL a.data.toList) := ⟨_, rfl⟩
    have hqs : q.size ≤ 120 := by rw [hqe, size_mk]; omega
    have hg : glob_Quote.f a = some q := by unfold glob_Quote.f; rw [if_pos (by omega), hqe]; rfl
    have hd := doc_quote a (by omega)
    rw [← hqe] at hd
    obtain ⟨rs, c, h1, h2, h3, h4, h5⟩ := glob_all q (by omega)
    refine Ev.congr (f := fun k => montagelaw37_GlobQuotes.j0 k a b false) (fun k => ?_) (Ev.step (f := fun k => (montageref37_Quote.f k a).bind fun t225 => (if q.toList = t225.toList then ((montageref37_Right.f k q).bind fun t226 => (if t226 = true then ((glob_Fits.f k q a).bind fun t227 => (if t227 = true then ((glob_Fits.f k q b).bind fun t228 => (some (t228 == (a.toList == b.toList)))) else (some false))) else (some true))) else (some false))) (fun k => ?_) ?_)
    · rw [if_pos rfl, if_neg (by omega), decide_eq_false (by omega)]
    · simp only [montagelaw37_GlobQuotes.j0]
      rw [if_neg (by simp), hg]
      rfl
    · refine Ev.bind (f := fun k (t225 : ByteArray) => (if q.toList = t225.toList then ((montageref37_Right.f k q).bind fun t226 => (if t226 = true then ((glob_Fits.f k q a).bind fun t227 => (if t227 = true then ((glob_Fits.f k q b).bind fun t228 => (some (t228 == (a.toList == b.toList)))) else (some false))) else (some true))) else (some false))) hd ?_
      refine Ev.congr (f := fun k => (montageref37_Right.f k q).bind fun t226 => (if t226 = true then ((glob_Fits.f k q a).bind fun t227 => (if t227 = true then ((glob_Fits.f k q b).bind fun t228 => (some (t228 == (a.toList == b.toList)))) else (some false))) else (some true))) (fun k => ?_) ?_
      · rw [if_pos rfl]
      · refine Ev.bind (f := fun k (t226 : Bool) => (if t226 = true then ((glob_Fits.f k q a).bind fun t227 => (if t227 = true then ((glob_Fits.f k q b).bind fun t228 => (some (t228 == (a.toList == b.toList)))) else (some false))) else (some true))) h3 ?_
        cases c with
        | false =>
          refine Ev.congr (fun k => ?_) (Ev.now _)
          rw [if_neg (by simp)]
        | true =>
          have hf := h4.1 rfl
          have f1 := (h5 a (by omega)).1
          have f2 := (h5 b (by omega)).1
          rw [Bool.true_and, quoted_fits a.data.toList q hqe (by omega) rs h1 hf] at f1 f2
          rw [decide_eq_true rfl] at f1
          refine Ev.congr (f := fun k => (glob_Fits.f k q a).bind fun t227 => (if t227 = true then ((glob_Fits.f k q b).bind fun t228 => (some (t228 == (a.toList == b.toList)))) else (some false))) (fun k => ?_) ?_
          · rw [if_pos rfl]
          · refine Ev.bind (f := fun k (t227 : Bool) => (if t227 = true then ((glob_Fits.f k q b).bind fun t228 => (some (t228 == (a.toList == b.toList)))) else (some false))) f1 ?_
            refine Ev.congr (f := fun k => (glob_Fits.f k q b).bind fun t228 => (some (t228 == (a.toList == b.toList)))) (fun k => ?_) ?_
            · rw [if_pos rfl]
            · refine Ev.bind (f := fun k (t228 : Bool) => (some (t228 == (a.toList == b.toList)))) f2 ?_
              have e : (decide (b.data.toList = a.data.toList) == (a.toList == b.toList)) = true := by
                rw [Lib.toList_data, Lib.toList_data, beq_iff_eq, Bool.eq_iff_iff, decide_eq_true_eq, beq_iff_eq]
                exact ⟨fun h => h.symm, fun h => h.symm⟩
              rw [e]
              exact Ev.now _

end Go.Proofs.YtdaofffedfccmaaDoor.Pure
