/- Option: Parse is the document one. It has no conditions. -/
import Derived.Test.YtdaofffedfccmaaDoorXOptionAnyx3
import Derived.Test.YtdaofffedfccmaaDoorYOpt1
import Derived.BigRegion
import Derived.RegionTactic
import Derived.ChangeAlike
import Derived.Deep.RegionWith
import Derived.Deep.RegionLaw
import Derived.Laws.Tables
import Derived.Deep.QuietTactic
import Derived.BigQuiet
import Derived.Deep.RegionHeld3
import Derived.Deep.AppendLies
import Derived.Deep.DrawnRows
import Derived.Laws.CopyOwn
import Derived.Deep.MidRow
import Derived.Laws.ResultCell
import Derived.ChangeKeysEq
import Derived.Laws.BitsAllLaws
namespace Go.Proofs.YtdaofffedfccmaaDoor.OptP
set_option linter.unusedVariables false
set_option linter.unusedSimpArgs false
open Go.RowKit Go.Proofs.YtdaofffedfccmaaDoorW.PrintWords Go.Proofs.YtdaofffedfccmaaDoorW.PrintLast Go.Proofs.YtdaofffedfccmaaDoorW.PrintMore
attribute [local go_sem] max2_int min2_int max_two min_two max_three min_three max_four min_four
open XOptionAny
/-! ### Parse is the document's. -/
abbrev kl (s : ByteArray) : List UInt8 := s.data.toList
/-- What follows a word that was right. -/
def nextR (kb : List UInt8) (K : List (List UInt8)) (rest : List ByteArray) (lv : Int) (re sh wi : Bool) (mo : Int) : Int × Bool × Bool × Bool × Int × Int :=
  if kb ∈ K then (0, false, false, false, 0, 6) else XGlob.parseL rest (lv, re, sh, wi, mo, kb :: K)
theorem parse_cons (s : ByteArray) (l : List ByteArray) (lv : Int) (re sh wi : Bool) (mo : Int) (K : List (List UInt8)) (kb vb : ByteArray) (eq : Bool) (hc : XGlob.cutA s 61 = (kb, vb, eq)) :
    XGlob.parseL (s :: l) (lv, re, sh, wi, mo, K) =
      if (XGlob.numHas kb.data.toList && eq) = true then
        (if XGlob.okDigits vb (XGlob.dgK kb.data.toList) = true then
          (if XGlob.atoiV vb.data.toList > XGlob.moK kb.data.toList then (0, false, false, false, 0, 7) else nextR kb.data.toList K l (XGlob.setLv (XGlob.offK kb.data.toList) (XGlob.atoiV vb.data.toList) lv) re sh wi (XGlob.setMo (XGlob.offK kb.data.toList) (XGlob.atoiV vb.data.toList) mo))
        else (0, false, false, false, 0, 2))
      else if XGlob.flagV s = 0 then (0, false, false, false, 0, 2) else nextR kb.data.toList K l lv (XGlob.setF (XGlob.flagV s).toNat 1 re) (XGlob.setF (XGlob.flagV s).toNat 2 sh) (XGlob.setF (XGlob.flagV s).toNat 3 wi) mo := by
  rw [XGlob.parseL]
  unfold XGlob.wordR nextR XGlob.setV
  rw [hc]
  simp only []
  by_cases h1 : (XGlob.numHas kb.data.toList && eq) = true
  · rw [if_pos h1, if_pos h1]
    by_cases h2 : XGlob.okDigits vb (XGlob.dgK kb.data.toList) = true
    · rw [if_pos h2, if_pos h2]
      by_cases h3 : XGlob.atoiV vb.data.toList > XGlob.moK kb.data.toList
      · rw [if_pos h3, if_pos h3]
      · rw [if_neg h3, if_neg h3]
        simp only []
        by_cases h4 : kb.data.toList ∈ K
        · rw [if_pos h4, if_pos h4]
        · rw [if_neg h4, if_neg h4]
    · rw [if_neg h2, if_neg h2]
  · rw [if_neg h1, if_neg h1]
    by_cases h2 : XGlob.flagV s = 0
    · rw [if_pos h2, if_pos h2]
    · rw [if_neg h2, if_neg h2]
      by_cases h4 : kb.data.toList ∈ K
      · rw [if_pos h4, if_pos h4]
      · rw [if_neg h4, if_neg h4]
section
variable (l seen : List ByteArray) (i : Nat) (hl : l.length ≤ 1000) (hi : i < l.length) (hs : seen.length = i) (kb : ByteArray)
  (hnext : ∀ lv re sh wi mo, Ev (fun k => montageref31_Parse.l0 k l (seen ++ [kb]) ((i + 1 : Nat) : Int) lv re sh wi mo) (XGlob.parseL (l.drop (i + 1)) (lv, re, sh, wi, mo, kb.data.toList :: (seen.map (·.data.toList)).reverse)))
include hl hi hs hnext
theorem next_ev (lv : Int) (re sh wi : Bool) (mo : Int) : Ev (fun k => (montageref31_has.f k seen kb).bind fun t => if t = true then some (0, false, false, false, 0, 6) else if seen.length < 8796093022208 then montageref31_Parse.l0 k l (seen ++ [kb]) (wrap64 ((i : Int) + 1)) lv re sh wi mo else none) (nextR kb.data.toList (seen.map (·.data.toList)).reverse (l.drop (i + 1)) lv re sh wi mo) := by
  refine Ev.bind (has_ev seen kb (by omega)) ?_
  unfold nextR
  by_cases h : kb.data.toList ∈ (seen.map (·.data.toList)).reverse
  · rw [if_pos h, decide_eq_true h]
    exact Ev.now _
  · rw [if_neg h, decide_eq_false h]
    refine Ev.congr (fun k => ?_) (hnext lv re sh wi mo)
    rw [if_neg (by decide), if_pos (by omega), w64c (by omega) (by omega)]
    rfl
theorem j2_no (vb : ByteArray) (lv : Int) (re sh wi : Bool) (mo : Int) : Ev (fun k => montageref31_Parse.j2 k l seen (i : Int) kb vb false lv re sh wi mo) (if XGlob.flagV l[i] = 0 then (0, false, false, false, 0, 2) else nextR kb.data.toList (seen.map (·.data.toList)).reverse (l.drop (i + 1)) lv (XGlob.setF (XGlob.flagV l[i]).toNat 1 re) (XGlob.setF (XGlob.flagV l[i]).toNat 2 sh) (XGlob.setF (XGlob.flagV l[i]).toNat 3 wi) mo) := by
  have hx : rdOf ByteArray.empty l (i : Int) = l[i] := rd_at _ _ _ _ (List.getElem?_eq_getElem hi)
  have nx := next_ev l seen i hl hi hs kb hnext
  by_cases h1 : l[i].toList = [114, 101, 117, 115, 101]
  · have hf : XGlob.flagV l[i] = 1 := by unfold XGlob.flagV; rw [if_pos h1]
    rw [hf, if_neg (by decide)]
    refine Ev.step (fun k => ?_) (nx lv true sh wi mo)
    rw [montageref31_Parse.j2, if_neg (by decide), if_pos (by omega), if_pos (by omega), hx, if_pos h1]
  · by_cases h2 : l[i].toList = [115, 104, 97, 114, 101]
    · have hf : XGlob.flagV l[i] = 2 := by unfold XGlob.flagV; rw [if_neg h1, if_pos h2]
      rw [hf, if_neg (by decide)]
      refine Ev.step (fun k => ?_) (nx lv re true wi mo)
      rw [montageref31_Parse.j2, if_neg (by decide), if_pos (by omega), if_pos (by omega), hx, if_neg h1, if_pos h2]
    · by_cases h3 : l[i].toList = [119, 105, 100, 101]
      · have hf : XGlob.flagV l[i] = 3 := by unfold XGlob.flagV; rw [if_neg h1, if_neg h2, if_pos h3]
        rw [hf, if_neg (by decide)]
        refine Ev.step (fun k => ?_) (nx lv re sh true mo)
        rw [montageref31_Parse.j2, if_neg (by decide), if_pos (by omega), if_pos (by omega), hx, if_neg h1, if_neg h2, if_pos h3]
      · have hf : XGlob.flagV l[i] = 0 := by unfold XGlob.flagV; rw [if_neg h1, if_neg h2, if_neg h3]
        rw [hf, if_pos rfl]
        refine Ev.step (f := fun _ => _) (fun k => ?_) (Ev.now _)
        rw [montageref31_Parse.j2, if_neg (by decide), if_pos (by omega), if_pos (by omega), hx, if_neg h1, if_neg h2, if_neg h3]
/-- A word with a number. -/
theorem numb_ev (vb : ByteArray) (hv : vb.size ≤ 1000) (dg mx : Int) (hdg : dg ≤ 7) (hmx : 0 ≤ mx) (ab : Int → Int × Int) (re sh wi : Bool) : Ev (fun k => (montageref31_number.f k vb dg).bind fun t => if t < 0 then some (0, false, false, false, 0, 2) else if t > mx then some (0, false, false, false, 0, 7) else (montageref31_has.f k seen kb).bind fun t2 => if t2 = true then some (0, false, false, false, 0, 6) else if seen.length < 8796093022208 then montageref31_Parse.l0 k l (seen ++ [kb]) (wrap64 ((i : Int) + 1)) (ab t).1 re sh wi (ab t).2 else none)
    (if XGlob.okDigits vb dg = true then (if XGlob.atoiV vb.data.toList > mx then (0, false, false, false, 0, 7) else nextR kb.data.toList (seen.map (·.data.toList)).reverse (l.drop (i + 1)) (ab (XGlob.atoiV vb.data.toList)).1 re sh wi (ab (XGlob.atoiV vb.data.toList)).2) else (0, false, false, false, 0, 2)) := by
  obtain ⟨h1, h2⟩ := num_ev vb dg hdg hv
  refine Ev.bind h1 ?_
  unfold numZ
  by_cases ho : XGlob.okDigits vb dg = true
  · have h3 := h2 ho
    rw [if_pos ho, if_pos ho]
    by_cases h4 : XGlob.atoiV vb.data.toList > mx
    · rw [if_pos h4]
      exact Ev.congr (f := fun _ => some (0, false, false, false, 0, 7)) (fun k => by rw [if_neg (by omega), if_pos h4]) (Ev.now _)
    · rw [if_neg h4]
      refine Ev.congr (fun k => ?_) (next_ev l seen i hl hi hs kb hnext (ab (XGlob.atoiV vb.data.toList)).1 re sh wi (ab (XGlob.atoiV vb.data.toList)).2)
      rw [if_neg (by omega), if_neg h4]
  · rw [if_neg ho, if_neg ho]
    exact Ev.congr (f := fun _ => some (0, false, false, false, 0, 2)) (fun k => by rw [if_pos (by decide)]) (Ev.now _)
end
theorem parse_l0 (l : List ByteArray) (hl : l.length ≤ 1000) (hz : ∀ s ∈ l, s.size ≤ 1000) : ∀ (e i : Nat) (seen : List ByteArray) (lv : Int) (re sh wi : Bool) (mo : Int), i + e = l.length → seen.length = i → Ev (fun k => montageref31_Parse.l0 k l seen (i : Int) lv re sh wi mo) (XGlob.parseL (l.drop i) (lv, re, sh, wi, mo, (seen.map (·.data.toList)).reverse)) := by
  intro e
  induction e with
  | zero =>
    intro i seen lv re sh wi mo hi hs
    refine Ev.step (f := fun _ => _) (fun k => ?_) (Ev.now _)
    rw [montageref31_Parse.l0, if_neg (by omega), List.drop_eq_nil_of_le (by omega), XGlob.parseL]
  | succ e ih =>
    intro i seen lv re sh wi mo hi hs
    have hlt : i < l.length := by omega
    have hx : rdOf ByteArray.empty l (i : Int) = l[i] := rd_at _ _ _ _ (List.getElem?_eq_getElem hlt)
    have hsz : l[i].size ≤ 1000 := hz _ (List.getElem_mem hlt)
    obtain ⟨⟨kb, vb, eq⟩, hcc⟩ : ∃ t, XGlob.cutA l[i] 61 = t := ⟨_, rfl⟩
    have hvs : vb.size ≤ 1000 := by have := (XGlob.cutA_size l[i] hsz).2; rw [hcc] at this; exact this
    have hcut := cut_ev l[i] hsz
    rw [hcc] at hcut
    rw [List.drop_eq_getElem_cons hlt, parse_cons _ _ _ _ _ _ _ _ kb vb eq hcc]
    have hnext : ∀ lv re sh wi mo, Ev (fun k => montageref31_Parse.l0 k l (seen ++ [kb]) ((i + 1 : Nat) : Int) lv re sh wi mo) (XGlob.parseL (l.drop (i + 1)) (lv, re, sh, wi, mo, kb.data.toList :: (seen.map (·.data.toList)).reverse)) := by
      intro lv re sh wi mo
      have h := ih (i + 1) (seen ++ [kb]) lv re sh wi mo (by omega) (by rw [List.length_append, hs]; rfl)
      rw [List.map_append, List.reverse_append] at h
      exact h
    have hj2 := j2_no l seen i hl hlt hs kb hnext vb lv re sh wi mo
    refine Ev.step (f := fun k => (montageref31_cut.f k l[i]).bind fun bt137 => (if bt137.1.toList = ([108, 101, 118, 101, 108] : List UInt8) then (montageref31_Parse.j1 k l seen (i : Int) bt137.1 bt137.2.1 bt137.2.2 bt137.2.2 lv re sh wi mo) else (montageref31_Parse.j1 k l seen (i : Int) bt137.1 bt137.2.1 bt137.2.2 false lv re sh wi mo))) (fun k => ?_) (Ev.bind hcut ?_)
    · rw [montageref31_Parse.l0, if_pos (by omega), if_pos (by omega), hx]
    have e1 : kb.toList = kb.data.toList := Lib.toList_data kb
    by_cases hlv : kb.data.toList = XGlob.lvlL
    · have hnh : XGlob.numHas kb.data.toList = true := by unfold XGlob.numHas; rw [if_pos hlv]
      have hnm : ¬ kb.toList = ([109, 111, 115, 116] : List UInt8) := by rw [e1, hlv]; decide
      refine Ev.congr (f := fun k => montageref31_Parse.j1 k l seen (i : Int) kb vb eq eq lv re sh wi mo) (fun k => by rw [if_pos (by rw [e1]; exact hlv)]) ?_
      cases eq with
      | true =>
        rw [hnh, if_pos (by rfl)]
        have hdg : XGlob.dgK kb.data.toList = 1 := by unfold XGlob.dgK; rw [if_pos hlv]
        have hmo : XGlob.moK kb.data.toList = 3 := by unfold XGlob.moK; rw [if_pos hlv]
        have hof : XGlob.offK kb.data.toList = 0 := by unfold XGlob.offK; rw [if_pos hlv]
        rw [hdg, hmo, hof]
        exact Ev.step (fun k => by rw [montageref31_Parse.j1, if_pos rfl]) (numb_ev l seen i hl hlt hs kb hnext vb hvs 1 3 (by decide) (by decide) (fun t => (t, mo)) re sh wi)
      | false =>
        rw [if_neg (by simp)]
        refine Ev.step (f := fun k => montageref31_Parse.j2 k l seen (i : Int) kb vb false lv re sh wi mo) (fun k => ?_) hj2
        rw [montageref31_Parse.j1, if_neg (by decide), if_neg hnm]
    · refine Ev.congr (f := fun k => montageref31_Parse.j1 k l seen (i : Int) kb vb eq false lv re sh wi mo) (fun k => by rw [if_neg (by rw [e1]; exact hlv)]) ?_
      by_cases hms : kb.data.toList = XGlob.mostL
      · have hnh : XGlob.numHas kb.data.toList = true := by unfold XGlob.numHas; rw [if_neg hlv, if_pos hms]
        refine Ev.step (f := fun k => montageref31_Parse.j2 k l seen (i : Int) kb vb eq lv re sh wi mo) (fun k => by rw [montageref31_Parse.j1, if_neg (by decide), if_pos (by rw [e1]; exact hms)]) ?_
        cases eq with
        | true =>
          rw [hnh, if_pos (by rfl)]
          have hdg : XGlob.dgK kb.data.toList = 7 := by unfold XGlob.dgK; rw [if_neg hlv]
          have hmo : XGlob.moK kb.data.toList = 4194304 := by unfold XGlob.moK; rw [if_neg hlv]
          have hof : XGlob.offK kb.data.toList = 4 := by unfold XGlob.offK; rw [if_neg hlv]
          rw [hdg, hmo, hof]
          exact Ev.step (fun k => by rw [montageref31_Parse.j2, if_pos rfl]) (numb_ev l seen i hl hlt hs kb hnext vb hvs 7 4194304 (by decide) (by decide) (fun t => (lv, t)) re sh wi)
        | false =>
          rw [if_neg (by simp)]
          exact hj2
      · have hnh : XGlob.numHas kb.data.toList = false := by unfold XGlob.numHas; rw [if_neg hlv, if_neg hms]
        rw [hnh, if_neg (by simp)]
        refine Ev.step (f := fun k => montageref31_Parse.j2 k l seen (i : Int) kb vb false lv re sh wi mo) (fun k => by rw [montageref31_Parse.j1, if_neg (by decide), if_neg (by rw [e1]; exact hms)]) hj2
theorem parse_ev (l : List ByteArray) (hl : l.length ≤ 1000) (hz : ∀ s ∈ l, s.size ≤ 1000) : Ev (fun k => montageref31_Parse.f k l) (XGlob.parseL l (1, false, false, false, 4194304, [])) := by
  have h := parse_l0 l hl hz l.length 0 [] 1 false false false 4194304 (by omega) rfl
  rw [List.drop_zero] at h
  exact Ev.congr (fun _ => rfl) h

end Go.Proofs.YtdaofffedfccmaaDoor.OptP
