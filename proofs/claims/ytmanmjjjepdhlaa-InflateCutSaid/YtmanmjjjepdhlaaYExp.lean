/- what Expand answers It has no conditions. -/
import Derived.Test.YtmanmjjjepdhlaaYCod
import Derived.Test.YtmanmjjjepdhlaaXTk
import Derived.BigRegion
import Derived.RegionTactic
import Derived.ChangeAlike
import Derived.Deep.RegionWith
import Derived.Deep.RegionLaw
import Derived.Laws.Tables
import Derived.Deep.QuietTactic
import Derived.BigQuiet
import Derived.Deep.RegionHeld3
import Derived.Deep.AppendLies
import Derived.Deep.DrawnRows
import Derived.Laws.CopyOwn
import Derived.Deep.MidRow
import Derived.Laws.ResultCell
import Derived.ChangeKeysEq
import Derived.Laws.BitsAllLaws
namespace Go.Proofs.Ytmanmjjjepdhlaa.XPrefix
set_option linter.unusedVariables false
set_option linter.unusedSimpArgs false
open Go.RowKit Go.Proofs.YtmanmjjjepdhlaaW.PrintWords Go.Proofs.YtmanmjjjepdhlaaW.PrintLast Go.Proofs.YtmanmjjjepdhlaaW.PrintMore
attribute [local go_sem] max2_int min2_int max_two min_two max_three min_three max_four min_four
open XInflateAny XTok
open XInflateTokens (S106 z106 rd_T106)
/-! What the document's Expand answers, where it is no error. -/
def MayT (t : S106) : Prop := (t.f1 = 0 ∧ t.f2 = 0) ∨ (3 ≤ t.f1 ∧ t.f1 ≤ 258 ∧ 1 ≤ t.f2 ∧ t.f2 ≤ 32768)
theorem may_ref (b n d : Int) : ∃ ok : Bool, XInflateTokens.montageref07_May.f b n d = some ok ∧ (ok = true → (n = 0 ∧ d = 0) ∨ (3 ≤ n ∧ n ≤ 258 ∧ 1 ≤ d ∧ d ≤ 32768)) := by
 unfold XInflateTokens.montageref07_May.f
 by_cases h0 : n = 0
 ·rw [if_pos h0]
  exact ⟨_, rfl, fun h => .inl ⟨h0, by simpa using h⟩⟩
 rw [if_neg h0]
 by_cases h1 : n ≥ 3
 ·rw [if_pos h1]
  by_cases h2 : n ≤ 258
  ·rw [if_pos h2]
   by_cases h3 : d ≥ 1
   ·rw [if_pos h3]
    by_cases h4 : d ≤ 32768
    ·rw [if_pos h4]
     exact ⟨_, rfl, fun _ => .inr ⟨h1, h2, h3, h4⟩⟩
    ·rw [if_neg h4]; exact ⟨_, rfl, fun h => absurd h (by simp)⟩
   ·rw [if_neg h3]; exact ⟨_, rfl, fun h => absurd h (by simp)⟩
  ·rw [if_neg h2]; exact ⟨_, rfl, fun h => absurd h (by simp)⟩
 ·rw [if_neg h1]; exact ⟨_, rfl, fun h => absurd h (by simp)⟩
theorem exp_l1 (most : Int) (l : List S106) (i : Int) (i0 : 0 ≤ i) (i1 : i < 1000) (n : Int) (back : Nat) (hn : n ≤ 258) (hb : 1 ≤ back) (b m : Int) (r : ByteArray × Int) : ∀ (d : Nat) (out : List Int) (j : Int), 0 ≤ j → n - j = d → back ≤ out.length → out.length + d ≤ 1000000 →
  Ev (fun k => XInflateTokens.montageref07_Expand.l0 k l most (copyS back d out) (i + 1)) r → Ev (fun k => XInflateTokens.montageref07_Expand.l1 k l most out i n j b m (back : Int)) r
 | 0, out, j, h0, hd, hf, hl, h => by
  refine Ev.step (fun k => ?_) h
  simp only [XInflateTokens.montageref07_Expand.l1]
  rw [if_neg (by omega), w64 (by omega) (by omega)]
  rfl
 | d + 1, out, j, h0, hd, hf, hl, h => by
  refine Ev.step (fun k => ?_) (exp_l1 most l i i0 i1 n back hn hb b m r d (out ++ [rd out ((out.length : Int) - back)]) (j + 1) (by omega) (by omega) (by simp; omega) (by simp; omega) h)
  simp only [XInflateTokens.montageref07_Expand.l1]
  have e : wrap64 ((out.length : Int) - back) = (out.length : Int) - back := w64 (by omega) (by omega)
  rw [if_pos (by omega), e, if_pos (by omega), if_pos (by omega), if_pos (by omega), w64 (by omega) (by omega)]
theorem drop_cons (l : List S106) (i : Nat) (h : i < l.length) : l.drop i = rd_T106 l (i : Int) :: l.drop (i + 1) := by
 rw [List.drop_eq_getElem_cons h]
 congr 1
 unfold rd_T106
 rw [Int.toNat_natCast, List.getD_eq_getElem?_getD, List.getElem?_eq_getElem h]
 rfl
theorem exp_l0 (l : List S106) (hl : l.length ≤ 60) (most : Int) (m0 : 0 ≤ most) (m1 : most ≤ 100000) : ∀ (d i : Nat) (out : List Int), l.length - i = d → i ≤ l.length → (out.length : Int) ≤ most →
  ∃ r, Ev (fun k => XInflateTokens.montageref07_Expand.l0 k l most out (i : Int)) r ∧ (r.2 = 0 → (∀ j : Nat, i ≤ j → j < l.length → MayT (rd_T106 l (j : Int))) ∧ okT (l.drop i) out ∧ r.1 = strOfNums (expT (l.drop i) out) ∧ ((expT (l.drop i) out).length : Int) ≤ most) := by
 intro d
 induction d with
 | zero =>
  intro i out hd hi ho
  refine ⟨(strOfNums out, 0), Ev.step (f := fun _ => some (strOfNums out, 0)) (fun k => ?_) (Ev.now _), fun _ => ?_⟩
  ·simp only [XInflateTokens.montageref07_Expand.l0]
   rw [if_neg (by omega)]
  ·rw [List.drop_eq_nil_of_le (by omega)]
   exact ⟨fun j h1 h2 => absurd h2 (by omega), trivial, rfl, ho⟩
 | succ d ih =>
  intro i out hd hi ho
  have hlt : i < l.length := by omega
  rw [drop_cons l i hlt]
  have hcov : ∀ P : Nat → Prop, P i → (∀ j : Nat, i + 1 ≤ j → j < l.length → P j) → ∀ j : Nat, i ≤ j → j < l.length → P j := fun P h0 h1 j h2 h3 => by
   by_cases e : j = i
   ·subst e; exact h0
   ·exact h1 j (by omega) h3
  obtain ⟨b, n, back, hrow⟩ : ∃ b n back, rd_T106 l (i : Int) = ⟨b, n, back⟩ := ⟨_, _, _, rfl⟩
  obtain ⟨ok, e2, hok⟩ := may_ref b n back
  have q0 : ∀ k, XInflateTokens.montageref07_Expand.l0 (k + 1) l most out (i : Int) = (if ok = true then (if back > (out.length : Int) then (some ((⟨#[]⟩ : ByteArray), 2)) else (if n = 0 then (XInflateTokens.montageref07_Expand.j1 k l most out (i : Int) 1 b n back) else (XInflateTokens.montageref07_Expand.j1 k l most out (i : Int) n b n back))) else (some ((⟨#[]⟩ : ByteArray), 1))) := by
   intro k
   simp only [XInflateTokens.montageref07_Expand.l0]
   rw [if_pos (by omega), if_pos (by omega), hrow]
   show ((XInflateTokens.montageref07_May.f b n back).bind fun t138 => _) = _
   rw [e2, Option.bind_some]
  rw [hrow]
  cases ok with
  | false =>
   refine ⟨(⟨#[]⟩, 1), Ev.step (f := fun _ => some (⟨#[]⟩, 1)) (fun k => ?_) (Ev.now _), fun h => absurd h (by decide)⟩
   show XInflateTokens.montageref07_Expand.l0 (k + 1) l most out (i : Int) = _
   rw [q0, if_neg (by simp)]
  | true =>
   have hr := hok rfl
   by_cases hback : back > (out.length : Int)
   ·refine ⟨(⟨#[]⟩, 2), Ev.step (f := fun _ => some (⟨#[]⟩, 2)) (fun k => ?_) (Ev.now _), fun h => absurd h (by decide)⟩
    show XInflateTokens.montageref07_Expand.l0 (k + 1) l most out (i : Int) = _
    rw [q0, if_pos rfl, if_pos hback]
   ·obtain ⟨m, hm1, hm2⟩ : ∃ m : Int, (n = 0 → m = 1) ∧ (n ≠ 0 → m = n) := ⟨if n = 0 then 1 else n, fun h => by rw [if_pos h], fun h => by rw [if_neg h]⟩
    have hmb : 1 ≤ m ∧ m ≤ 258 := by
     by_cases h : n = 0
     ·have := hm1 h; omega
     ·have := hm2 h; omega
    have hq : ∀ r, Ev (fun k => XInflateTokens.montageref07_Expand.j1 k l most out (i : Int) m b n back) r → Ev (fun k => XInflateTokens.montageref07_Expand.l0 k l most out (i : Int)) r := by
     intro r h
     refine Ev.step (fun k => ?_) h
     show XInflateTokens.montageref07_Expand.l0 (k + 1) l most out (i : Int) = _
     rw [q0, if_pos rfl, if_neg hback]
     by_cases h0 : n = 0
     ·rw [if_pos h0, hm1 h0]
     ·rw [if_neg h0, hm2 h0]
    by_cases hlim : (out.length : Int) + m > most
    ·refine ⟨(⟨#[]⟩, 7), hq _ ?_, fun h => absurd h (by decide)⟩
     have h2 : Ev (fun k => XInflateTokens.montageref07_Expand.j2 k l most out (i : Int) m true b n back) (⟨#[]⟩, 7) := by
      refine Ev.step (f := fun _ => some (⟨#[]⟩, 7)) (fun k => ?_) (Ev.now _)
      simp only [XInflateTokens.montageref07_Expand.j2]
      rw [if_pos trivial]
     refine Ev.step (fun k => ?_) h2
     simp only [XInflateTokens.montageref07_Expand.j1]
     by_cases hlt' : most < m
     ·rw [if_pos hlt']
     ·rw [if_neg hlt', w64 (by omega) (by omega), decide_eq_true (by omega)]
    ·have hq2 : ∀ r, Ev (fun k => XInflateTokens.montageref07_Expand.j2 k l most out (i : Int) m false b n back) r → Ev (fun k => XInflateTokens.montageref07_Expand.j1 k l most out (i : Int) m b n back) r := by
      intro r h
      refine Ev.step (fun k => ?_) h
      simp only [XInflateTokens.montageref07_Expand.j1]
      rw [if_neg (by omega), w64 (by omega) (by omega), decide_eq_false (by omega)]
     have hmay : MayT ⟨b, n, back⟩ := hr
     by_cases h0 : n = 0
     ·have hm := hm1 h0
      obtain ⟨r, hr2, hres⟩ := ih (i + 1) (out ++ [b]) (by omega) (by omega) (by simp; omega)
      rw [cast1] at hr2
      refine ⟨r, hq _ (hq2 _ ?_), fun h => ?_⟩
      ·refine Ev.step (fun k => ?_) hr2
       simp only [XInflateTokens.montageref07_Expand.j2]
       rw [if_neg (by simp), if_pos h0, if_pos (by omega), w64 (by omega) (by omega)]
      ·obtain ⟨g1, g2, g3, g4⟩ := hres h
       refine ⟨hcov _ (by rw [hrow]; exact hmay) g1, ?_⟩
       rw [okT, expT, if_pos h0, if_pos h0]
       exact ⟨g2, g3, g4⟩
     ·have hn := hm2 h0
      have hback1 : 1 ≤ back := by omega
      obtain ⟨r, hr2, hres⟩ := ih (i + 1) (copyS back.toNat n.toNat out) (by omega) (by omega) (by rw [copyS_len]; omega)
      rw [cast1] at hr2
      refine ⟨r, hq _ (hq2 _ ?_), fun h => ?_⟩
      ·have h1 := exp_l1 most l (i : Int) (by omega) (by omega) n back.toNat (by omega) (by omega) b n r n.toNat out 0 (by omega) (by omega) (by omega) (by omega) hr2
       rw [show ((back.toNat : Nat) : Int) = back from by omega] at h1
       refine Ev.step (fun k => ?_) h1
       simp only [XInflateTokens.montageref07_Expand.j2]
       rw [if_neg (by simp), if_neg h0, hn]
      ·obtain ⟨g1, g2, g3, g4⟩ := hres h
       refine ⟨hcov _ (by rw [hrow]; exact hmay) g1, ?_⟩
       rw [okT, expT, if_neg h0, if_neg h0]
       exact ⟨⟨by show back ≤ _; omega, by show 0 < n; omega, g2⟩, g3, g4⟩
theorem expand_is (l : List S106) (hl : l.length ≤ 60) : ∃ r : ByteArray × Int, (∃ k, XInflateTokens.montageref07_Expand.f k l 2000 = some r) ∧ (r.2 = 0 → (∀ j : Nat, j < l.length → MayT (rd_T106 l (j : Int))) ∧ okT l [] ∧ r.1 = strOfNums (expT l []) ∧ (expT l []).length ≤ 2000) := by
 obtain ⟨r, h1, h2⟩ := exp_l0 l hl 2000 (by decide) (by decide) l.length 0 [] (by omega) (by omega) (by decide)
 rw [List.drop_zero] at h2
 refine ⟨r, h1.rounds, fun h => ?_⟩
 obtain ⟨g1, g2, g3, g4⟩ := h2 h
 exact ⟨fun j hj => g1 j (Nat.zero_le _) hj, g2, g3, by omega⟩
end Go.Proofs.Ytmanmjjjepdhlaa.XPrefix
