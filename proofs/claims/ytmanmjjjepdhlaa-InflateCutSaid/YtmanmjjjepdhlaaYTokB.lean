/- tokens, written by the plain code: their text It has no conditions. -/
import Derived.Test.YtmanmjjjepdhlaaYTokW
import Derived.Test.YtmanmjjjepdhlaaYAwake
import Derived.Test.YtmanmjjjepdhlaaXOpens
namespace Go.Proofs.Ytmanmjjjepdhlaa.XInflateTokens
set_option linter.unusedVariables false
set_option linter.unusedSimpArgs false
open Go.RowKit Go.Proofs.YtmanmjjjepdhlaaW.PrintWords Go.Proofs.YtmanmjjjepdhlaaW.PrintLast Go.Proofs.YtmanmjjjepdhlaaW.PrintMore
attribute [local go_sem] max2_int min2_int max_two min_two max_three min_three max_four min_four
open XPrefix XTok
open XInflateAny (by8 bl)
def G106 (x : S106) : Prop := (Lit.int .u8 x.f0).wf = true ∧ (Lit.int .i64 x.f1).wf = true ∧ (Lit.int .i64 x.f2).wf = true
theorem opens106 : Opens.Opens Try.prog 106 k106 G106 := by
 intro H enc W fuel cs x h
 obtain ⟨xs, n, _, _, hl, hlen, hf⟩ := DataW.trod_struct Try.underlying106 h
 have l0_ : cs.length = 3 := hl.trans (by kernel_rfl)
 clear hl
 obtain ⟨v0, r0, e0_, l1_⟩ := Opens.cons_of (n := 2) l0_
 subst e0_
 obtain ⟨v1, r1, rfl, l2_⟩ := Opens.cons_of (n := 1) l1_
 obtain ⟨v2, r2, rfl, l3_⟩ := Opens.cons_of (n := 0) l2_
 obtain rfl := Opens.nil_of l3_
 have h0 : DataW.trod enc Try.prog W 0 (fun _ => true) true n 5 (List.take (Try.prog.cellsOf 5) (List.drop 0 [v0, v1, v2])) = xs[0]? := hf 0 _ rfl
 obtain ⟨y0, hy0⟩ : ∃ y, xs[0]? = some y := ⟨_, List.getElem?_eq_getElem (by rw [hlen]; decide)⟩
 rw [hy0, show Try.prog.cellsOf 5 = 1 from by kernel_rfl] at h0
 obtain ⟨a0, k0_, g0⟩ := (Opens.opens_int (k := .u8) Try.underlying5) _ _ _ _ _ _ h0
 have h1 : DataW.trod enc Try.prog W 0 (fun _ => true) true n 3 (List.take (Try.prog.cellsOf 3) (List.drop 1 [v0, v1, v2])) = xs[1]? := hf 1 _ rfl
 obtain ⟨y1, hy1⟩ : ∃ y, xs[1]? = some y := ⟨_, List.getElem?_eq_getElem (by rw [hlen]; decide)⟩
 rw [hy1, show Try.prog.cellsOf 3 = 1 from by kernel_rfl] at h1
 obtain ⟨a1, k1_, g1⟩ := (Opens.opens_int (k := .i64) Try.underlying3) _ _ _ _ _ _ h1
 have h2 : DataW.trod enc Try.prog W 0 (fun _ => true) true n 3 (List.take (Try.prog.cellsOf 3) (List.drop 2 [v0, v1, v2])) = xs[2]? := hf 2 _ rfl
 obtain ⟨y2, hy2⟩ : ∃ y, xs[2]? = some y := ⟨_, List.getElem?_eq_getElem (by rw [hlen]; decide)⟩
 rw [hy2, show Try.prog.cellsOf 3 = 1 from by kernel_rfl] at h2
 obtain ⟨a2, k2_, g2⟩ := (Opens.opens_int (k := .i64) Try.underlying3) _ _ _ _ _ _ h2
 exact ⟨⟨a0, a1, a2⟩, ⟨[v0], [v1, v2], rfl, k0_, ⟨[v1], [v2], rfl, k1_, k2_⟩⟩, g0, g1, g2⟩
theorem g106_u8 {l : List S106} (g0 : ∀ x ∈ l, G106 x) (j : Nat) (hj : j < l.length) : 0 ≤ (rd_T106 l (j : Int)).f0 ∧ (rd_T106 l (j : Int)).f0 < 256 := by
 have e : rd_T106 l (j : Int) = l[j] := by
  unfold rd_T106
  rw [Int.toNat_natCast, List.getD_eq_getElem?_getD, List.getElem?_eq_getElem hj]
  rfl
 rw [e]
 have := (g0 l[j] (List.getElem_mem hj)).1
 simp only [Lit.wf, IntKind.min, IntKind.max, IntKind.signed, IntKind.bits, Bool.and_eq_true, decide_eq_true_eq] at this
 simp at this
 omega
/-! ### Bytes and bits -/
theorem mod_bytes (A B : Nat) : ∀ n : Nat, (∀ i, i < n → A / 256 ^ i % 256 = B / 256 ^ i % 256) → A % 256 ^ n = B % 256 ^ n
 | 0, _ => by rw [Nat.pow_zero, Nat.mod_one, Nat.mod_one]
 | n + 1, h => by
  have ih := mod_bytes A B n (fun i hi => h i (by omega))
  have hn := h n (by omega)
  have e : ∀ Y : Nat, Y % 256 ^ (n + 1) = Y % 256 ^ n + 256 ^ n * (Y / 256 ^ n % 256) := fun Y => by rw [Nat.pow_succ, Nat.mod_mul]
  rw [e, e, ih, hn]
theorem pow256 (n : Nat) : 256 ^ n = 2 ^ (8 * n) := by rw [show (256 : Nat) = 2 ^ 8 from rfl, ← Nat.pow_mul]
/-- The text of bits is bytes of their number. -/
theorem text_isZ (Z t : Nat) (ht : t ≤ 100000) : IsZ (strOfNums (by8 Z ((t + 7) / 8))) Z ∧ (strOfNums (by8 Z ((t + 7) / 8))).size = (t + 7) / 8 := by
 have hs : (strOfNums (by8 Z ((t + 7) / 8))).size = (t + 7) / 8 := by rw [XInflateAny.str_size, XInflateAny.by8_len]
 refine ⟨⟨by omega, fun i hi => ?_⟩, hs⟩
 rw [XInflateAny.str_get _ _ (by rw [XInflateAny.by8_len]; omega) (XInflateAny.by8_range _ _), XInflateAny.by8_get _ _ _ (by omega)]
/-- What the texts of tokens' bits are read as. -/
theorem dec_tokens (S : ByteArray) (Z Z0 q t : Nat) (l : List S106) (most : Int) (hS : t ≤ 8 * S.size) (hz : Z % 2 ^ t = Z0 % 2 ^ t) (h8 : Z0 % 8 = 3) (hE : EncT Z0 3 l q) (hA : At fixA Z0 q 256 t) (hk : okT l []) (hl : ((expT l []).length : Int) ≤ mostS most) : decS S Z most = .ok (t, expT l [], [1]) := by
 have h1 := hE.le
 have h2 := hA.lt
 have hz8 : Z % 8 = 3 := by
  have := num_loc Z0 Z t 0 3 hz (by omega)
  rw [Nat.pow_zero, Nat.div_one, Nat.div_one] at this
  rw [← h8]
  exact this
 unfold decS
 rw [stream_one Z (8 * S.size) (mostS most) hz8 (by omega), coded_ok Z (8 * S.size) (mostS most) l 3 [] q t _ (hE.loc hz (by omega)) (hA.loc hz (Nat.le_refl _)) hS hk hl (by omega)]
theorem dec_limit (S : ByteArray) (Z q t : Nat) (l : List S106) (most : Int) (hS : t ≤ 8 * S.size) (h8 : Z % 8 = 3) (hE : EncT Z 3 l q) (hA : At fixA Z q 256 t) (hk : okT l []) (h0 : 0 ≤ mostS most) (hl : mostS most < ((expT l []).length : Int)) : decS S Z most = .error 7 := by
 have h1 := hE.le
 have h2 := hA.lt
 unfold decS
 rw [stream_one Z (8 * S.size) (mostS most) h8 (by omega), coded_limit Z (8 * S.size) (mostS most) l 3 [] q _ hE (by omega) hk h0 hl (by omega)]
theorem dec_cut (S : ByteArray) (Z q t : Nat) (l : List S106) (most : Int) (hS : 8 * S.size < t) (h8 : Z % 8 = 3) (hE : EncT Z 3 l q) (hA : At fixA Z q 256 t) (hk : okT l []) (hl : ((expT l []).length : Int) ≤ mostS most) : decS S Z most = .error 3 := by
 unfold decS
 by_cases h3 : 8 * S.size < 3
 ·rw [streamS, if_pos (by omega)]
 rw [stream_one Z (8 * S.size) (mostS most) h8 (by omega)]
 rw [coded_short Z (8 * S.size) (mostS most) l 3 [] q t _ hE hA (by omega) hS hk hl (by omega)]
theorem bt_app (s u : ByteArray) (i : Nat) (h : i < s.size) : bt (s ++ u) (i : Int) = bt s (i : Int) := by
 have hz : (s ++ u).size = s.size + u.size := ByteArray.size_append
 unfold bt
 rw [dif_pos (by rw [Int.toNat_natCast]; omega), dif_pos (by rw [Int.toNat_natCast]; omega)]
 simp only [Int.toNat_natCast]
 rw [ByteArray.getElem_append_left h]
/-- A part of a text has the same number. -/
theorem isZ_cut {S : ByteArray} {Z k : Nat} (h : IsZ S Z) (hk : k ≤ S.size) : IsZ (S.extract 0 k) Z ∧ (S.extract 0 k).size = k := by
 have hs : (S.extract 0 k).size = k := by rw [ByteArray.size_extract]; omega
 refine ⟨⟨by have := h.1; omega, fun i hi => ?_⟩, hs⟩
 rw [bt_piece S 0 k i (by omega) hk, Nat.zero_add]
 exact h.2 i (by omega)
theorem isZ_more {S U : ByteArray} {Z : Nat} (h : IsZ S Z) (hU : (S ++ U).size ≤ 100000) : ∃ Z', IsZ (S ++ U) Z' ∧ Z' % 2 ^ (8 * S.size) = Z % 2 ^ (8 * S.size) := by
 obtain ⟨Z', hZ'⟩ := XInflateAny.S_num (S ++ U)
 refine ⟨Z', ⟨hU, hZ'⟩, ?_⟩
 have hz : (S ++ U).size = S.size + U.size := ByteArray.size_append
 rw [← pow256]
 refine mod_bytes Z' Z S.size (fun i hi => ?_)
 have h1 := hZ' i (by omega)
 rw [bt_app S U i hi, h.2 i hi] at h1
 omega
theorem mod_down {A B a b : Nat} (h : A % 2 ^ b = B % 2 ^ b) (hab : a ≤ b) : A % 2 ^ a = B % 2 ^ a := by
 have := num_loc B A b 0 a h (by omega)
 rwa [Nat.pow_zero, Nat.div_one, Nat.div_one] at this
/-- What a call of Tokens, and of Text, are: the text, its number. -/
def TextIs (l : List S106) (S : ByteArray) : Prop := ∃ Z q t : Nat, IsZ S Z ∧ S.size = (t + 7) / 8 ∧ Z % 8 = 3 ∧ EncT Z 3 l q ∧ At fixA Z q 256 t ∧ t ≤ 7000
theorem TextIs.all {l : List S106} {S : ByteArray} (h : TextIs l S) (hk : okT l []) (w : World) (n : Int) (hn : n = ((expT l []).length : Int)) (hl : (expT l []).length ≤ 2000) :
  Calls Try.prog 25 #[.string S, .int .i64 n] w fun e w' => e = .returned (.tuple #[.string (strOfNums (expT l [])), .int .i64 0]) ∧ Below w.heap.size w w' := by
 obtain ⟨Z, q, t, hZ, hs, h8, hE, hA, ht⟩ := h
 have hm : mostS n = n := by unfold mostS; rw [if_neg (by omega)]
 have hd := dec_tokens S Z Z q t l n (by omega) rfl h8 hE hA hk (by rw [hm]; omega)
 have := all_calls S Z n w hZ
 rw [hd] at this
 have e : allS S.size (strS (.ok (t, expT l [], [1]))) = (strOfNums (expT l []), 0) := by
  unfold allS strS
  dsimp only
  rw [if_neg (by decide), if_neg (by omega)]
 rwa [e] at this
theorem TextIs.limit {l : List S106} {S : ByteArray} (h : TextIs l S) (hk : okT l []) (w : World) (n : Int) (hn : n = ((expT l []).length : Int) - 1) (h0 : 0 ≤ n) (hl : (expT l []).length ≤ 2000) :
  Calls Try.prog 23 #[.string S, .int .i64 n] w fun e w' => e = .returned (.tuple #[.string ⟨#[]⟩, .int .i64 0, .int .i64 7]) ∧ Below w.heap.size w w' := by
 obtain ⟨Z, q, t, hZ, hs, h8, hE, hA, ht⟩ := h
 have hm : mostS n = n := by unfold mostS; rw [if_neg (by omega)]
 have hd := dec_limit S Z q t l n (by omega) h8 hE hA hk (by rw [hm]; exact h0) (by rw [hm]; omega)
 have := stream_calls S Z n w hZ
 rw [hd] at this
 exact this
/-- Behind Tokens and Text. -/
theorem TextIs.of {Z q t : Nat} {l : List S106} (hZ : Z < 2 ^ t) (h8 : Z % 8 = 3) (hE : EncT Z 3 l q) (hA : At fixA Z q 256 t) (ht : t ≤ 100 + 100 * l.length) (hl : l.length ≤ 60) : TextIs l (strOfNums (by8 Z ((t + 7) / 8))) := by
 obtain ⟨h1, h2⟩ := text_isZ Z t (by omega)
 exact ⟨Z, q, t, h1, h2, h8, hE, hA, by omega⟩
end Go.Proofs.Ytmanmjjjepdhlaa.XInflateTokens
