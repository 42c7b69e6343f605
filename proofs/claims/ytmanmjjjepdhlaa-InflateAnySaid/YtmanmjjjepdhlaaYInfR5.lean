/- the document: back and coded It has no conditions. -/
import Derived.Test.YtmanmjjjepdhlaaYInfR4A
import Derived.Test.YtmanmjjjepdhlaaYInfR4B
import Derived.Test.YtmanmjjjepdhlaaYInfR4C
import Derived.Test.YtmanmjjjepdhlaaYIA
import Derived.Test.YtmanmjjjepdhlaaYInfR6
import Derived.BigRegion
import Derived.RegionTactic
import Derived.ChangeAlike
import Derived.Deep.RegionWith
import Derived.Deep.RegionLaw
import Derived.Laws.Tables
import Derived.Deep.QuietTactic
import Derived.BigQuiet
import Derived.Deep.RegionHeld3
import Derived.Deep.AppendLies
import Derived.Deep.DrawnRows
import Derived.Laws.CopyOwn
import Derived.Deep.MidRow
import Derived.Laws.ResultCell
import Derived.ChangeKeysEq
import Derived.Laws.BitsAllLaws
namespace Go.Proofs.Ytmanmjjjepdhlaa.XPrefix
set_option linter.unusedVariables false
set_option linter.unusedSimpArgs false
open Go.RowKit Go.Proofs.YtmanmjjjepdhlaaW.PrintWords Go.Proofs.YtmanmjjjepdhlaaW.PrintLast Go.Proofs.YtmanmjjjepdhlaaW.PrintMore
attribute [local go_sem] max2_int min2_int max_two min_two max_three min_three max_four min_four

open XInflateAny XTok
theorem rback_calls (g : Nat) (A0 : Option Addr) (c0 Z N p : Nat) (s : Int) (Al : Option Addr) (cl : Nat) (l : List Int) (vo vk : Value) (out ks : List Int) (most : Int) (w0 w : World) (hR : IsR w0 w g A0 c0 Z N p vo out most vk ks) (hN : N ≤ 800000) (hp : p ≤ N) (h0 : 256 < s) (hK : eS l = 0) (hC : Row3 w Al l) (hcl : l.length ≤ cl) (hm4 : most ≤ 4194304) (ho : out.length ≤ 4194304) :
    Calls Try.prog 125 #[.pointer (some ⟨g, 0, none⟩), .int .i64 s, .slice Al l.length cl] w fun e w' => RBPost w0 w g A0 c0 Z N vo most vk ks (backS l Z N most s p out) e w' := by
  by_cases h1 : 286 ≤ s
  · have e : backS l Z N most s p out = .error 2 := by unfold backS lenS; rw [if_pos h1]
    rw [e]
    exact (rback_err2 g A0 c0 Z N p s Al cl l vo vk out ks most w0 w hR h1).mono (fun _ _ h => .inl ⟨2, rfl, h.1, (hR.below h.2).2.2.2.2.2.2, by decide⟩)
  by_cases h2 : N < p + lenB s
  · have e : backS l Z N most s p out = .error 3 := by unfold backS lenS; rw [if_neg h1, if_pos h2]
    rw [e]
    exact (rback_err3 g A0 c0 Z N p s Al cl l vo vk out ks most w0 w hR hN hp h0 (by omega) h2).mono (fun _ _ h => .inl ⟨3, rfl, h.1, (hR.below h.2).2.2.2.2.2.2, by decide⟩)
  have hl : lenS Z N s p = .ok (lenV s (Z / 2 ^ p % 2 ^ lenB s), p + lenB s) := by unfold lenS; rw [if_neg h1, if_neg h2]
  by_cases h3 : s = 285
  · exact rback_C g A0 c0 Z N p s Al cl l vo vk out ks most w0 w hR hN h0 (by omega) _ _ hl hK hC hcl hm4 ho h3
  by_cases h4 : s = 284 ∧ Z / 2 ^ p % 2 ^ lenB s = 31
  · exact rback_A g A0 c0 Z N p s Al cl l vo vk out ks most w0 w hR hN h0 (by omega) _ _ hl hK hC hcl hm4 ho h4
  · exact rback_B g A0 c0 Z N p s Al cl l vo vk out ks most w0 w hR hN h0 (by omega) _ _ hl hK hC hcl hm4 ho ⟨by omega, h4⟩
set_option maxHeartbeats 4000000 in
set_option maxRecDepth 100000 in
theorem rcoded_calls (g : Nat) (A0 : Option Addr) (c0 Z N p : Nat) (Aa Ab : Option Addr) (ca cb : Nat) (la lb : List Int) (vo vk : Value) (out ks : List Int) (most : Int) (w0 w : World) (hR : IsR w0 w g A0 c0 Z N p vo out most vk ks) (hN : N ≤ 800000) (hp : p ≤ N) (hKa : eS la = 0) (hKb : eS lb = 0) (hCa : Row3 w Aa la) (hCb : Row3 w Ab lb) (hla : la.length ≤ ca) (hlb : lb.length ≤ cb) (hm4 : most ≤ 4194304) (ho : out.length ≤ 4194304) :
    Calls Try.prog 95 #[.pointer (some ⟨g, 0, none⟩), .slice Aa la.length ca, .slice Ab lb.length cb] w fun e w' => RXPost w0 w g A0 c0 Z N vo most vk ks (codedS la lb Z N most (N + 1) p out) e w' := by
  obtain ⟨R, hRR⟩ : ∃ R, codedS la lb Z N most (N + 1) p out = R := ⟨_, rfl⟩
  rw [hRR]
  obtain ⟨i0, hi0, hz0, hz1, hz2⟩ := info_parts info5
  have HX := Aside0.mk hR
  have HR := Aside0.mk hRR
  have HCa := Aside0.mk hCa
  have HCb := Aside0.mk hCb
  have HKa := Aside0.mk hKa
  have HKb := Aside0.mk hKb
  have HG := Aside0.mk hR.2.1
  clear hR hRR hCa hCb hKa hKb
  go_enter Try.func95, Try.ntmps95
  go_wp2
  go_loopg [] (N + 1) (fun f wr => ∃ (p' : Nat) (v' : Value) (o' : List Int), Aside0 (IsR w0 wr g A0 c0 Z N p' v' o' most vk ks) ∧ Aside0 (KeepR w wr g vo) ∧ Aside0 (NewRow w vo v') ∧ Aside0 (codedS la lb Z N most f p' o' = R) ∧ Aside0 (p' ≤ N ∧ N < p' + f ∧ o'.length ≤ 4194304))
  case atStart => exact ⟨p, vo, out, HX, ⟨KeepR.refl _ _ _⟩, ⟨.inl rfl⟩, HR, ⟨hp, by omega, ho⟩⟩
  case round =>
    clear HR hp ho
    obtain ⟨p', v', o', HX1, HK, HN, HR, HP⟩ := hrel
    cases gk with
    | zero => exact absurd HP.out (by omega)
    | succ f =>
      have hR := HR.out
      have hrd := symbol_calls g A0 c0 Z N p' Aa ca la v' vk o' ks most w0 wr HX1.out hN HP.out.1 HKa.out (HCa.out.keepR HX.out HK.out).1 hla
      have hKR : KRes la (kS la) 0 := HKa.out ▸ kS_spec la
      have hsy := readA_sym hKR Z N p'
      have hle := readA_le la (kS la) Z N p' HP.out.1
      rw [codedS] at hR
      obtain ⟨A, hA⟩ : ∃ A, readA la (kS la) Z N p' = A := ⟨_, rfl⟩
      rw [hA] at hrd hsy hle hR
      obtain ⟨s, er, p2, bad⟩ := A
      change (if er ≠ 0 then Except.error er else if s = 256 then .ok (p2, o') else if 256 < s then (match backS lb Z N most s p2 o' with | .error e => .error e | .ok (q, o2) => codedS la lb Z N most f q o2) else if most ≤ (o'.length : Int) then .error 7 else codedS la lb Z N most f p2 (o' ++ [s])) = R at hR
      have HRD := Aside0.mk hrd
      by_cases h1 : er ≠ 0
      · rw [if_pos h1] at hR
        have HR2 := Aside0.mk hR
        have H1 := Aside0.mk h1
        have e0 : (er == 0) = false := beq_eq_false_iff_ne.mpr h1
        have e1 : (er != 0) = true := bne_iff_ne.mpr h1
        clear hrd hle hsy h1 hR hA HR hKR
        go_wp2_with fail
        refine HRD.out.mono ?_
        rintro e w1 ⟨rfl, hX2, hk1⟩
        have HX2 := Aside0.mk hX2
        clear hX2 hk1 HRD
        go_wp2
        go_ret
        exact .inl ⟨er, HR2.out.symm, rfl, HX2.out.2.2.2.2.2.2, H1.out⟩
      · rw [if_neg h1] at hR
        obtain rfl : er = 0 := by omega
        obtain ⟨j, hj, _⟩ := hsy rfl
        obtain rfl : s = (j : Int) := hj
        obtain ⟨hb0, hp2⟩ := hle.2 rfl
        have HP2 := Aside0.mk (show p2 ≤ N ∧ p' < p2 from ⟨hle.1, hp2⟩)
        clear hle hsy h1 hA hrd HR hp2 hb0 hKR
        by_cases h2 : (j : Int) = 256
        · rw [if_pos h2] at hR
          have HR2 := Aside0.mk hR
          have e2 : ((j : Int) == 256) = true := beq_iff_eq.mpr h2
          clear hR
          go_wp2_with fail
          refine HRD.out.mono ?_
          rintro e w1 ⟨rfl, hX2, hk1⟩
          have HX2 := Aside0.mk hX2
          have HK2 := Aside0.mk (HK.out.trans (KeepR.of_but hk1) HN.out)
          clear hX2 hk1 HRD
          go_wp2
          go_ret
          exact .inr ⟨p2, o', HR2.out.symm, rfl, ⟨v', HX2.out, HK2.out, HN.out⟩, HP2.out.1, HP.out.2.2⟩
        · rw [if_neg h2] at hR
          have e2 : ((j : Int) == 256) = false := beq_eq_false_iff_ne.mpr h2
          by_cases h3 : 256 < (j : Int)
          · rw [if_pos h3] at hR
            have d3 : decide (256 < (j : Int)) = true := decide_eq_true h3
            have HBE := Aside0.mk (fun W (hX : IsR w0 W g A0 c0 Z N p2 v' o' most vk ks) (hk : KeepR w W g vo) => rback_calls g A0 c0 Z N p2 (j : Int) Ab cb lb v' vk o' ks most w0 W hX hN HP2.out.1 h3 HKb.out (HCb.out.keepR HX.out hk) hlb hm4 HP.out.2.2)
            have HQL := Aside0.mk (fun q o2 hB => backS_len (show KRes lb (kS lb) 0 from HKb.out ▸ kS_spec lb) (Z := Z) (M := N) (most := most) (s := (j : Int)) (p := p2) (out := o') (q := q) (o2 := o2) hB hm4)
            obtain ⟨B, hB⟩ : ∃ B, backS lb Z N most (j : Int) p2 o' = B := ⟨_, rfl⟩
            rw [hB] at hR HBE HQL
            clear hB
            have HR2 := Aside0.mk hR
            clear hR
            go_wp2_with fail
            refine HRD.out.mono ?_
            rintro e w1 ⟨rfl, hX2, hk1⟩
            have HX2 := Aside0.mk hX2
            have HK2 := Aside0.mk (HK.out.trans (KeepR.of_but hk1) HN.out)
            clear hX2 hk1 HRD
            go_wp2_with fail
            refine (HBE.out _ HX2.out HK2.out).mono ?_
            rintro e w2 h4
            rcases h4 with ⟨eb, rfl, rfl, hb, hne⟩ | ⟨q, o2, rfl, rfl, v2, hX3, hk3, hn3⟩
            · have HR3 := Aside0.mk (show Except.error eb = R from HR2.out)
              have HB := Aside0.mk hb
              have H1 := Aside0.mk hne
              have q0 : (eb == 0) = false := beq_eq_false_iff_ne.mpr hne
              have q1 : (eb != 0) = true := bne_iff_ne.mpr hne
              clear hb hne HBE HQL
              go_wp2
              go_ret
              exact .inl ⟨eb, HR3.out.symm, rfl, HB.out, H1.out⟩
            · have HR3 := Aside0.mk (show codedS la lb Z N most f q o2 = R from HR2.out)
              have HBL := Aside0.mk (HQL.out q o2 rfl)
              have HX3 := Aside0.mk hX3
              have HK3 := Aside0.mk (HK2.out.trans hk3 HN.out)
              have HN3 := Aside0.mk (HN.out.trans hn3 HK2.out.1)
              clear hX3 hk3 hn3 HBE HQL HR2
              go_wp2
              go_roundg f
              case measure => exact Nat.lt_succ_self _
              case rel => exact ⟨q, v2, o2, HX3, HK3, HN3, HR3, ⟨HBL.out.1, by have := HBL.out; have := HP2.out; have := HP.out; omega, HBL.out.2.2⟩⟩
          · rw [if_neg h3] at hR
            have d3 : decide (256 < (j : Int)) = false := decide_eq_false h3
            go_wp2_with fail
            refine HRD.out.mono ?_
            rintro e w1 ⟨rfl, hX2, hk1⟩
            have HX2 := Aside0.mk hX2
            have HK2 := Aside0.mk (HK.out.trans (KeepR.of_but hk1) HN.out)
            obtain ⟨A', c', rfl⟩ := own_form HX2.out.2.2.2.2.1
            have hc2 := (blk_cell HX2.out.1 2)
            have hc3 := (blk_cell HX2.out.1 3)
            clear hX2 hk1 HRD
            by_cases h4 : most ≤ (o'.length : Int)
            · rw [if_pos h4] at hR
              have HR2 := Aside0.mk hR
              have d4 : decide (most ≤ (o'.length : Int)) = true := decide_eq_true h4
              clear hR
              go_wp2
              go_region
              go_wp2
              go_ret
              exact .inl ⟨7, HR2.out.symm, rfl, (HX2.out.below (pw_below_drewN (Below.refl _ _) 1)).2.2.2.2.2.2, by decide⟩
            · rw [if_neg h4] at hR
              have HR2 := Aside0.mk hR
              have d4 : decide (most ≤ (o'.length : Int)) = false := decide_eq_false h4
              clear hR
              go_wp2
              go_region
              have HX3 := Aside0.mk (HX2.out.below (show Below w1.heap.size w1 w1.drew from below_drew1 (Below.refl _ _)))
              have HK3 := Aside0.mk (HK2.out.trans (KeepR.of_below (show Below w1.heap.size w1 w1.drew from below_drew1 (Below.refl _ _))) HN.out)
              clear HX2 HK2 hc2 hc3
              generalize w1.drew = W3 at HX3 HK3 ⊢
              have hc2 : W3.cell? ⟨g, 2, none⟩ = some (.slice A' o'.length c') := (blk_cell HX3.out.1 2).trans rfl
              have hj : (j : Int) < 256 := by omega
              have e0 : IntKind.u8.wrap (j : Int) = (j : Int) := by show (j : Int) % 256 = _; omega
              have hlen : o'.length ≤ 4194304 := HP.out.2.2
              go_wp2_with (first | ((with_reducible refine gate_builtin (b := .append) (xs := #[.tmp 44, .tmp 47]) rfl ?_); at_builtin; refine print_append_cells (w0 := w0) w0.heap.size rfl (.tmp 44) (.tmp 47) 52 5 (.int .u8 0) 1 1 rfl Try.underlying52 info5 rfl (by decide) (by omega) (.slice A' o'.length c') o'.length (encs (Value.int .u8) o') [.int .u8 (j : Int)] rfl rfl rfl (by simp [Value.oneCell']) HX3.out.2.2.2.2.1 HX3.out.2.2.2.2.2.2 (below_size HX3.out.2.2.2.2.2.2) (by omega) ?_; intro v9 w9 ho hb hg hat; obtain ⟨A9, c9, rfl⟩ := own_form ho; have BK1 := Aside0.mk (show w9.heap[g]? = some (.cells #[.slice A0 N c0, .int .i64 (p2 : Int), .slice A' o'.length c', .int .i64 most, vk] 102 (0, 0)) from (hg.block g (blk_lt HX3.out.1) (own_ne' HX3.out.2.2.2.2.1 HX3.out.1 (by decide))).trans HX3.out.1); have HPP := Aside0.mk (IsR.push (o2 := o' ++ [(j : Int)]) HX3.out (Below.refl _ _) hg hat ho (by simp) (by rw [encs_append]; rfl)); have hk1 : w9.cell? ⟨g, 2, none⟩ = some (.slice A' o'.length c') := (blk_cell BK1.out 2).trans rfl; have hz_1 := blk_frozen BK1.out 2; clear ho hb hg hat hc2))
              all_goals
                go_roundg f
                case measure => exact Nat.lt_succ_self _
                case rel => exact ⟨p2, _, o' ++ [(j : Int)], ⟨HPP.out.1⟩, ⟨HK3.out.trans HPP.out.2.1 HN.out⟩, ⟨HN.out.trans HPP.out.2.2 HK3.out.1⟩, HR2, ⟨HP2.out.1, by have := HP2.out; have := HP.out; omega, by have := HP.out; simp; omega⟩⟩

end Go.Proofs.Ytmanmjjjepdhlaa.XPrefix
