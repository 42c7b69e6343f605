/- This text proves the statement over numbers and lists that the functions of the law OptionBack come to. It has no conditions. -/
import Derived.Test.YtdaofffedfccmaaDoorXOptionAnyx6
import Derived.Test.YtdaofffedfccmaaDoorYOpt3
namespace Go.Proofs.YtdaofffedfccmaaDoor.Pure
open Go.RowKit Go.Proofs.YtdaofffedfccmaaDoor.XOptionAny Go.Proofs.YtdaofffedfccmaaDoorW.PrintWords Go.Proofs.YtdaofffedfccmaaDoorW.PrintLast Go.Proofs.YtdaofffedfccmaaDoorW.PrintMore
set_option linter.unusedVariables false
set_option linter.unusedSimpArgs false

open OptP
theorem awake_f2 : montagelaw31_awake.f = some true := by kernel_rfl
theorem opt_parse2 (l : List ByteArray) (hl : l.length ≤ 1000) (hz : ∀ s ∈ l, s.size ≤ 1000) : option_Parse.f l = some (XGlob.parseL l (1, false, false, false, 4194304, [])) := by
  unfold option_Parse.f
  rw [if_pos ⟨hl, List.all_eq_true.2 fun s hs => decide_eq_true (hz s hs)⟩]
theorem mem_addW {is : Bool} {s x : ByteArray} {xs : List ByteArray} (h : x ∈ XGlob.addW is s xs) : x = s ∨ x ∈ xs := by
  cases is with
  | true => rw [XGlob.addW_t, List.mem_append, List.mem_singleton] at h; exact h.symm
  | false => rw [XGlob.addW_f] at h; exact .inr h
theorem words_small (a b : Nat) (re sh wi : Bool) (ha : a ≤ 3) (hb : b ≤ 4194304) : (XGlob.wordsL (a : Int) re sh wi (b : Int)).length ≤ 5 ∧ ∀ s ∈ XGlob.wordsL (a : Int) re sh wi (b : Int), s.size ≤ 1000 := by
  unfold XGlob.wordsL
  rw [itoa_dig, itoa_dig]
  obtain ⟨ga, _⟩ := dd_facts 8 a (by omega)
  obtain ⟨gb, _⟩ := dd_facts 8 b (by omega)
  constructor
  · refine Nat.le_trans (XGlob.addW_len _ _ _) (Nat.succ_le_succ (Nat.le_trans (XGlob.addW_len _ _ _) (Nat.succ_le_succ (Nat.le_trans (XGlob.addW_len _ _ _) (Nat.succ_le_succ (Nat.le_trans (XGlob.addW_len _ _ _) (Nat.succ_le_succ (Nat.le_trans (XGlob.addW_len _ _ _) (Nat.le_refl 1)))))))))
  · intro s hs
    rcases mem_addW hs with rfl | hs
    · decide
    rcases mem_addW hs with rfl | hs
    · decide
    rcases mem_addW hs with rfl | hs
    · decide
    rcases mem_addW hs with rfl | hs
    · rw [ByteArray.size_append, dig_size]
      have : (⟨#[109, 111, 115, 116, 61]⟩ : ByteArray).size = 5 := rfl
      omega
    rcases mem_addW hs with rfl | hs
    · rw [ByteArray.size_append, dig_size]
      have : (⟨#[108, 101, 118, 101, 108, 61]⟩ : ByteArray).size = 6 := rfl
      omega
    · cases hs
theorem back_l0 (L : List ByteArray) (hl : L.length ≤ 1000) (hz : ∀ s ∈ L, s.size ≤ 1000) (lv : Int) (re sh wi : Bool) (mo : Int) (h1 : XGlob.parseL L (1, false, false, false, 4194304, []) = (lv, re, sh, wi, mo, 0)) (h2 : XGlob.parseL L.reverse (1, false, false, false, 4194304, []) = (lv, re, sh, wi, mo, 0)) : ∀ n, n ≤ L.length → Ev (fun k => montagelaw31_OptionBack.l0 k L (L.drop n).reverse ((n : Int) - 1) lv re sh wi mo) true := by
  intro n
  induction n with
  | zero =>
    intro _
    refine Ev.step (f := fun _ => some true) (fun k => ?_) (Ev.now _)
    rw [montagelaw31_OptionBack.l0, if_neg (by omega), List.drop_zero, opt_parse2 L hl hz, opt_parse2 L.reverse (by rw [List.length_reverse]; exact hl) (fun s hs => hz s (List.mem_reverse.1 hs)), h1, h2, Option.bind_some, Option.bind_some]
    simp
  | succ n ih =>
    intro hn
    have hlt : n < L.length := by omega
    have hx : rdOf ByteArray.empty L (((n + 1 : Nat) : Int) - 1) = L[n] := by
      rw [show ((n + 1 : Nat) : Int) - 1 = (n : Int) from by omega]
      exact rd_at _ _ _ _ (List.getElem?_eq_getElem hlt)
    refine Ev.step (fun k => ?_) (ih (by omega))
    rw [montagelaw31_OptionBack.l0, if_pos (by omega), if_pos (by omega), if_pos (by omega), if_pos (by rw [List.length_reverse, List.length_drop]; omega), hx, List.drop_eq_getElem_cons hlt, List.reverse_cons, w64c (by omega) (by omega), show ((n + 1 : Nat) : Int) - 1 - 1 = (n : Int) - 1 from by omega]
theorem OptionBack : montagelaw31_OptionBack.Pure := by
  intro lv re sh wi mo hG
  refine Ev.rounds (g := fun k => montagelaw31_OptionBack.f k lv re sh wi mo) ?_
  by_cases hm : (0 ≤ lv ∧ lv ≤ 3) ∧ (0 ≤ mo ∧ mo ≤ 4194304)
  · obtain ⟨⟨g1, g2⟩, g3, g4⟩ := hm
    obtain ⟨a, rfl⟩ : ∃ a : Nat, lv = (a : Int) := ⟨lv.toNat, by omega⟩
    obtain ⟨b, rfl⟩ : ∃ b : Nat, mo = (b : Int) := ⟨mo.toNat, by omega⟩
    have he : XGlob.emit_May.f (a : Int) re sh wi (b : Int) = some true := by
      unfold XGlob.emit_May.f
      rw [if_pos (by omega), if_pos (by omega), if_pos (by omega), decide_eq_true (by omega)]
    have hw : option_Words.f (a : Int) re sh wi (b : Int) = some (XGlob.wordsL (a : Int) re sh wi (b : Int), 0) := by
      unfold option_Words.f XGlob.wordsF
      rw [he]
      rfl
    obtain ⟨hl, hz⟩ := words_small a b re sh wi (by omega) (by omega)
    obtain ⟨h1, h2⟩ := words_parse a b re sh wi (by omega) (by omega)
    have hd := words_ev a b re sh wi (by omega) (by omega)
    have hb := back_l0 _ (by omega) hz _ _ _ _ _ h1 h2 _ (Nat.le_refl _)
    rw [List.drop_of_length_le (Nat.le_refl _)] at hb
    generalize XGlob.wordsL (a : Int) re sh wi (b : Int) = L at *
    have ht := texts_ev L (by omega)
    refine Ev.congr (f := fun k => (montageref31_Words.f k (a : Int) re sh wi (b : Int)).bind fun bt217 => ((montageref23_Texts.f k L bt217.1).bind fun t221 => (if t221 = true then (montagelaw31_OptionBack.j0 k L bt217.2 ((0 : Int) != bt217.2) (a : Int) re sh wi (b : Int)) else (montagelaw31_OptionBack.j0 k L bt217.2 true (a : Int) re sh wi (b : Int))))) (fun k => ?_) (Ev.bind hd (Ev.bind ht ?_))
    · unfold montagelaw31_OptionBack.f
      rw [awake_f2, Option.bind_some, if_pos rfl, hw, Option.bind_some]
    · refine Ev.congr (f := fun k => montagelaw31_OptionBack.j0 k L 0 false (a : Int) re sh wi (b : Int)) (fun k => by rw [if_pos rfl]; rfl) ?_
      refine Ev.step (fun k => ?_) hb
      rw [montagelaw31_OptionBack.j0, if_neg (by decide), if_pos rfl, w64c (by omega) (by omega)]
      rfl
  · have he : XGlob.emit_May.f lv re sh wi mo = some false := by
      unfold XGlob.emit_May.f
      by_cases c1 : lv ≥ 0
      · rw [if_pos c1]
        by_cases c2 : lv ≤ 3
        · rw [if_pos c2]
          by_cases c3 : mo ≥ 0
          · rw [if_pos c3, decide_eq_false (by omega)]
          · rw [if_neg c3]
        · rw [if_neg c2]
      · rw [if_neg c1]
    have hw : option_Words.f lv re sh wi mo = some ([], 1) := by
      unfold option_Words.f XGlob.wordsF
      rw [he]
      rfl
    have hd := words_no_ev lv re sh wi mo he
    have ht := texts_ev [] (by simp)
    refine Ev.congr (f := fun k => (montageref31_Words.f k lv re sh wi mo).bind fun bt217 => ((montageref23_Texts.f k [] bt217.1).bind fun t221 => (if t221 = true then (montagelaw31_OptionBack.j0 k [] bt217.2 ((1 : Int) != bt217.2) lv re sh wi mo) else (montagelaw31_OptionBack.j0 k [] bt217.2 true lv re sh wi mo)))) (fun k => ?_) (Ev.bind hd (Ev.bind ht ?_))
    · unfold montagelaw31_OptionBack.f
      rw [awake_f2, Option.bind_some, if_pos rfl, hw, Option.bind_some]
    · refine Ev.congr (f := fun k => montagelaw31_OptionBack.j0 k [] 1 false lv re sh wi mo) (fun k => by rw [if_pos rfl]; rfl) ?_
      refine Ev.step (f := fun _ => some true) (fun k => ?_) (Ev.now _)
      rw [montagelaw31_OptionBack.j0, if_neg (by decide), if_neg (by decide)]

end Go.Proofs.YtdaofffedfccmaaDoor.Pure
