/- tokens as bits: the document's symbols It has no conditions. -/
import Derived.Test.YtmanmjjjepdhlaaYExp
import Derived.Test.YtmanmjjjepdhlaaYVec
import Derived.Test.YtmanmjjjepdhlaaYRowN
import Derived.BigRegion
import Derived.RegionTactic
import Derived.ChangeAlike
import Derived.Deep.RegionWith
import Derived.Deep.RegionLaw
import Derived.Laws.Tables
import Derived.Deep.QuietTactic
import Derived.BigQuiet
import Derived.Deep.RegionHeld3
import Derived.Deep.AppendLies
import Derived.Deep.DrawnRows
import Derived.Laws.CopyOwn
import Derived.Deep.MidRow
import Derived.Laws.ResultCell
import Derived.ChangeKeysEq
import Derived.Laws.BitsAllLaws
namespace Go.Proofs.Ytmanmjjjepdhlaa.XPrefix
set_option linter.unusedVariables false
set_option linter.unusedSimpArgs false
open Go.RowKit Go.Proofs.YtmanmjjjepdhlaaW.PrintWords Go.Proofs.YtmanmjjjepdhlaaW.PrintLast Go.Proofs.YtmanmjjjepdhlaaW.PrintMore
attribute [local go_sem] max2_int min2_int max_two min_two max_three min_three max_four min_four
open XInflateAny XTok
open XInflateTokens (S106 z106 rd_T106 k106 at_T106)
theorem codL_len (l : List Int) : (codL l).length = l.length := by unfold codL; exact listOf_len _ _
/-- The bits of a symbol. -/
theorem bits_sym (l : List Int) (hK : KRes l 0 0) (s L : Nat) (hs : s < l.length) (hL : rd l (s : Int) = L) (h1 : 1 ≤ L) (A : Option Addr) (c : Nat) (Ax : Option Addr) (cx : Nat) (w : World) (hC : RowN w A l) (hc : l.length ≤ c) (hX : RowN w Ax (codL l)) (hcx : l.length ≤ cx) :
  Calls Try.prog 65 #[.slice A l.length c, .slice Ax l.length cx, .int .i64 (s : Int)] w fun e w' => ∃ v, e = .returned v ∧ Kd.R (Kd.int .u8) 5 w' w.heap.size (fun _ => True) v (bl (encV l s) L) ∧ Below w.heap.size w w' := by
 obtain ⟨k, hk⟩ := (rbits hK s hs L hL h1).rounds
 have := XInflateTokens.montageref05_Bits.calls k A c l Ax cx (codL l) (s : Int) _ w hC.1 hc hX.1 (by rw [codL_len]; exact hcx) hk
 rw [codL_len] at this
 exact this
theorem RowN.keepV {w0 W W1 : World} {g : Nat} {v : Value} {B : List Int} {A : Option Addr} {l : List Int} (h : RowN W A l) (hI : IsV w0 W g v B) (hk : KeepBut W W1 g v.ownBlock) : RowN W1 A l :=
 h.keep (fun k hlt ⟨_, hc⟩ => hk.2 k hlt (blk_ne hc hI.1 (by decide)) (own_ne' hI.2.2 hc (by decide)))
/-- The four rows of the plain code. -/
def Tabs (W : World) (Aa Ax Ab Ay : Option Addr) : Prop := RowN W Aa fixA ∧ RowN W Ax (codL fixA) ∧ RowN W Ab fixB ∧ RowN W Ay (codL fixB)
theorem Tabs.below {W W1 : World} {Aa Ax Ab Ay : Option Addr} (h : Tabs W Aa Ax Ab Ay) (hb : Below W.heap.size W W1) : Tabs W1 Aa Ax Ab Ay := ⟨h.1.below hb, h.2.1.below hb, h.2.2.1.below hb, h.2.2.2.below hb⟩
theorem Tabs.keepV {w0 W W1 : World} {g : Nat} {v : Value} {B : List Int} {Aa Ax Ab Ay : Option Addr} (h : Tabs W Aa Ax Ab Ay) (hI : IsV w0 W g v B) (hk : KeepBut W W1 g v.ownBlock) : Tabs W1 Aa Ax Ab Ay := ⟨h.1.keepV hI hk, h.2.1.keepV hI hk, h.2.2.1.keepV hI hk, h.2.2.2.keepV hI hk⟩
/-- A number more behind the bits. -/
theorem loc_add (Z t x M : Nat) (hZ : Z < 2 ^ t) (hx : x < 2 ^ M) : (Z + x * 2 ^ t) % 2 ^ t = Z % 2 ^ t ∧ (Z + x * 2 ^ t) / 2 ^ t % 2 ^ M = x ∧ Z + x * 2 ^ t < 2 ^ (t + M) := by
 have h0 : 0 < 2 ^ t := Nat.two_pow_pos _
 refine ⟨Nat.add_mul_mod_self_right _ _ _, ?_, ?_⟩
 ·rw [Nat.add_mul_div_right _ _ h0, Nat.div_eq_of_lt hZ, Nat.zero_add, Nat.mod_eq_of_lt hx]
 ·rw [Nat.pow_add]
  have h1 : (x + 1) * 2 ^ t ≤ 2 ^ M * 2 ^ t := Nat.mul_le_mul_right _ hx
  rw [Nat.add_mul, Nat.one_mul, Nat.mul_comm (2 ^ M)] at h1
  omega
theorem fixA_rd : ∀ s : Fin 288, ∃ L : Fin 10, 1 ≤ L.val ∧ rd fixA (s.val : Int) = (L.val : Int) := by decide +kernel
theorem fixB_rd : ∀ s : Fin 32, rd fixB (s.val : Int) = 5 := by decide +kernel
theorem fixA_at2 (s : Nat) (hs : s < 288) : ∃ L : Nat, 1 ≤ L ∧ L ≤ 9 ∧ rd fixA (s : Int) = (L : Int) ∧ encV fixA s < 2 ^ L := by
 obtain ⟨L, h1, h2⟩ := fixA_rd ⟨s, hs⟩
 exact ⟨L.val, h1, by omega, h2, (bitsV_enc fixA_ok s (by rw [fixA_len]; exact hs) L.val h2 h1).2⟩
theorem fixB_at2 (s : Nat) (hs : s < 32) : rd fixB (s : Int) = ((5 : Nat) : Int) ∧ encV fixB s < 2 ^ 5 := by
 have h2 : rd fixB (s : Int) = ((5 : Nat) : Int) := fixB_rd ⟨s, hs⟩
 exact ⟨h2, (bitsV_enc fixB_ok s (by rw [fixB_len]; exact hs) 5 h2 (by decide)).2⟩
/-- A symbol's bits behind the others. -/
theorem At.snoc (l : List Int) (Z t s L : Nat) (hZ : Z < 2 ^ t) (hs : s < l.length) (hL : rd l (s : Int) = (L : Int)) (h1 : 1 ≤ L) (he : encV l s < 2 ^ L) :
  At l (Z + encV l s * 2 ^ t) t s (t + L) ∧ (Z + encV l s * 2 ^ t) % 2 ^ t = Z % 2 ^ t ∧ Z + encV l s * 2 ^ t < 2 ^ (t + L) := by
 obtain ⟨a, b, c⟩ := loc_add Z t (encV l s) L hZ he
 exact ⟨⟨L, hL, h1, hs, b, rfl⟩, a, c⟩
/-! Length and Distance of the document. -/
theorem rows_L : ∃ R : List S200, montageref07_lengths.f 500 = some R ∧ R.length = 29 ∧ ∀ p : Fin 29, ∃ h : p.val < R.length, R[p.val].f0 = 257 + p.val ∧ R[p.val].f1 = baseL p.val ∧ R[p.val].f2 = bitsL p.val := by
 refine ⟨rowsL.map (fun r => ⟨r.f0, r.f1, r.f2⟩), by kernel_rfl, by decide +kernel, ?_⟩
 intro p
 obtain ⟨h, h1, h2, h3, _⟩ := rowsL_of p.val p.isLt
 exact ⟨by rw [List.length_map]; exact h, by rw [List.getElem_map]; exact h1, by rw [List.getElem_map]; exact h2, by rw [List.getElem_map]; exact h3⟩
theorem rows_D : ∃ R : List S200, montageref07_distances.f 500 = some R ∧ R.length = 30 ∧ ∀ p : Fin 30, ∃ h : p.val < R.length, R[p.val].f0 = p.val ∧ R[p.val].f1 = baseD p.val ∧ R[p.val].f2 = bitsD p.val := by
 refine ⟨rowsD.map (fun r => ⟨r.f0, r.f1, r.f2⟩), by kernel_rfl, by decide +kernel, ?_⟩
 intro p
 obtain ⟨h, h1, h2, h3, _⟩ := rowsD_of p.val p.isLt
 exact ⟨by rw [List.length_map]; exact h, by rw [List.getElem_map]; exact h1, by rw [List.getElem_map]; exact h2, by rw [List.getElem_map]; exact h3⟩
theorem rd_row2 (l : List S200) (i : Nat) (h : i < l.length) : rd_T200 l (i : Int) = l[i] := by
 unfold rd_T200
 rw [Int.toNat_natCast, List.getD_eq_getElem?_getD, List.getElem?_eq_getElem h]
 rfl
theorem find_at (l : List S200) (hl : l.length ≤ 1000) (a : Nat) (ha : a < l.length) (n : Int) (hn : 0 ≤ n ∧ n ≤ 100000) (hf : 0 ≤ l[a].f1 ∧ l[a].f1 ≤ 100000) (h1 : l[a].f1 ≤ n) (h2 : ∀ i (h : i < l.length), a < i → n < l[i].f1) : ∀ (d i at_ : Nat), l.length - i = d → i ≤ l.length → at_ < l.length → (a < i → at_ = a) → Ev (fun k => XInflateTokens.montageref07_find.l0 k l n (at_ : Int) (i : Int)) (l[a].f0, l[a].f2, n - l[a].f1) := by
 intro d
 induction d with
 | zero =>
  intro i at_ hd hi hat hai
  obtain rfl : at_ = a := hai (by omega)
  refine Ev.step (f := fun _ => some (l[at_].f0, l[at_].f2, n - l[at_].f1)) (fun k => ?_) (Ev.now _)
  simp only [XInflateTokens.montageref07_find.l0]
  rw [if_neg (by omega), if_pos (by omega), if_pos (by omega), rd_row2 l at_ ha, w64 (by omega) (by omega)]
 | succ d ih =>
  intro i at_ hd hi hat hai
  have hlt : i < l.length := by omega
  by_cases hia : a < i
  ·refine Ev.step (fun k => ?_) (ih (i + 1) at_ (by omega) (by omega) hat (fun _ => hai hia))
   simp only [XInflateTokens.montageref07_find.l0]
   have := h2 i hlt hia
   rw [if_pos (by omega), if_pos (by omega), rd_row2 l i hlt, if_neg (by omega), w64 (by omega) (by omega), cast1]
  ·by_cases hie : i = a
   ·subst hie
    refine Ev.step (fun k => ?_) (ih (i + 1) i (by omega) (by omega) hlt (fun _ => rfl))
    simp only [XInflateTokens.montageref07_find.l0]
    rw [if_pos (by omega), if_pos (by omega), rd_row2 l i hlt, if_pos h1, w64 (by omega) (by omega), cast1]
   ·by_cases hc : l[i].f1 ≤ n
    ·refine Ev.step (fun k => ?_) (ih (i + 1) i (by omega) (by omega) hlt (fun h => by omega))
     simp only [XInflateTokens.montageref07_find.l0]
     rw [if_pos (by omega), if_pos (by omega), rd_row2 l i hlt, if_pos hc, w64 (by omega) (by omega), cast1]
    ·refine Ev.step (fun k => ?_) (ih (i + 1) at_ (by omega) (by omega) hat (fun h => by omega))
     simp only [XInflateTokens.montageref07_find.l0]
     rw [if_pos (by omega), if_pos (by omega), rd_row2 l i hlt, if_neg hc, w64 (by omega) (by omega), cast1]
theorem riseD : ∀ i j : Fin 30, i.val < j.val → baseD i.val + 2 ^ bitsD i.val ≤ baseD j.val := by decide +kernel
theorem riseL : ∀ i j : Fin 28, i.val < j.val → baseL i.val + 2 ^ bitsL i.val ≤ baseL j.val := by decide +kernel
theorem cover (base : Nat → Int) (bits : Nat → Nat) (n : Int) : ∀ (m : Nat), (∀ p, p < m → base (p + 1) = base p + 2 ^ bits p) → base 0 ≤ n → n < base m → ∃ p, p < m ∧ base p ≤ n ∧ n < base p + 2 ^ bits p
 | 0, _, h0, h1 => by omega
 | m + 1, hn, h0, h1 => by
  by_cases h : n < base m
  ·obtain ⟨p, hp, h2⟩ := cover base bits n m (fun p hp => hn p (by omega)) h0 h
   exact ⟨p, by omega, h2⟩
  ·have := hn m (by omega)
   exact ⟨m, by omega, by omega, by omega⟩
theorem coverD (n : Int) (h0 : 1 ≤ n) (h1 : n ≤ 32768) : ∃ p, p < 30 ∧ baseD p ≤ n ∧ n < baseD p + 2 ^ bitsD p := by
 have e0 : baseD 0 = 1 ∧ baseD 29 = 24577 ∧ (2 : Int) ^ bitsD 29 = 8192 := by decide +kernel
 by_cases h : n < baseD 29
 ·obtain ⟨p, hp, h2⟩ := cover baseD bitsD n 29 (fun p hp => nextD ⟨p, hp⟩) (by omega) h
  exact ⟨p, by omega, h2⟩
 ·exact ⟨29, by omega, by omega, by omega⟩
theorem coverL (n : Int) (h0 : 3 ≤ n) (h1 : n ≤ 257) : ∃ p, p < 28 ∧ baseL p ≤ n ∧ n < baseL p + 2 ^ bitsL p := by
 have e0 : baseL 0 = 3 ∧ baseL 27 = 227 ∧ (2 : Int) ^ bitsL 27 = 32 := by decide +kernel
 by_cases h : n < baseL 27
 ·obtain ⟨p, hp, h2⟩ := cover baseL bitsL n 27 (fun p hp => nextL ⟨p, hp⟩) (by omega) h
  exact ⟨p, by omega, h2⟩
 ·exact ⟨27, by omega, by omega, by omega⟩
theorem ref_length (n : Int) (h3 : 3 ≤ n) (h258 : n ≤ 258) : ∃ p m : Nat, p < 29 ∧ m < 2 ^ bitsL p ∧ bitsL p ≤ 5 ∧ Ev (fun k => XInflateTokens.montageref07_Length.f k n) (257 + (p : Int), (bitsL p : Int), (m : Int), true) ∧ saysL (257 + (p : Int)) (m : Int) = (n, true) := by
 obtain ⟨R, hR, hRl, hRr⟩ := rows_L
 have hin : ∀ a b c, Ev (fun k => XInflateTokens.montageref07_find.f k R n) (a, b, c) → Ev (fun k => XInflateTokens.montageref07_Length.f k n) (a, b, c, true) := by
  intro a b c hf
  have hj : Ev (fun k => XInflateTokens.montageref07_Length.j0 k n false) (a, b, c, true) := by
   refine Ev.step (fun k => ?_) (Ev.bind (f := fun k (t : List S200) => (XInflateTokens.montageref07_find.f k t n).bind fun b => some (b.1, b.2.1, b.2.2, true)) (Ev.of montageref07_lengths.mono hR) (Ev.bind (f := fun _ (b : Int × Int × Int) => some (b.1, b.2.1, b.2.2, true)) hf (Ev.now _)))
   simp only [XInflateTokens.montageref07_Length.j0]
   rw [if_neg (by simp)]
  refine Ev.congr (fun k => ?_) hj
  unfold XInflateTokens.montageref07_Length.f
  rw [if_neg (by omega), decide_eq_false (by omega)]
 have e28 : baseL 28 = 258 ∧ bitsL 28 = 0 := by decide +kernel
 by_cases h : n = 258
 ·subst h
  obtain ⟨hl, g2, g3, g4⟩ := hRr 28
  have hf := find_at R (by omega) 28 hl 258 (by omega) (by rw [show R[28].f1 = baseL 28 from g3, e28.1]; omega) (by rw [show R[28].f1 = baseL 28 from g3, e28.1]; omega) (fun i hi h => by omega) R.length 0 0 rfl (by omega) (by omega) (fun h => by omega)
  rw [show R[28].f1 = baseL 28 from g3, show R[28].f0 = 257 + (28 : Nat) from g2, show R[28].f2 = bitsL 28 from g4, e28.1] at hf
  exact ⟨28, 0, by decide, by rw [e28.2]; decide, by rw [e28.2]; decide, hin _ _ _ hf, by rw [show (257 : Int) + ((28 : Nat) : Int) = 285 from rfl, saysL_285]; rfl⟩
 ·obtain ⟨p, hp, c0, c1⟩ := coverL n h3 (by omega)
  obtain ⟨_, _, _, _, g5, g6, g7⟩ := rowsL_of p (by omega)
  obtain ⟨hl, g2, g3, g4⟩ := hRr ⟨p, by omega⟩
  have g3' : R[p].f1 = baseL p := g3
  have hf := find_at R (by omega) p hl n (by omega) (by omega) (by omega) (fun i hi h => by
   obtain ⟨_, _, g, _⟩ := hRr ⟨i, by omega⟩
   have g' : R[i].f1 = baseL i := g
   rw [g']
   by_cases h28 : i = 28
   ·subst h28; omega
   ·have := riseL ⟨p, hp⟩ ⟨i, by omega⟩ h
    have this' : baseL p + 2 ^ bitsL p ≤ baseL i := this
    omega) R.length 0 0 rfl (by omega) (by omega) (fun h => by omega)
  rw [g3', show R[p].f0 = 257 + p from g2, show R[p].f2 = bitsL p from g4] at hf
  obtain ⟨m, hm⟩ : ∃ m : Nat, n - baseL p = m := ⟨(n - baseL p).toNat, by omega⟩
  rw [hm] at hf
  have hm2 : m < 2 ^ bitsL p := by
   have : (m : Int) < ((2 ^ bitsL p : Nat) : Int) := by rw [show ((2 ^ bitsL p : Nat) : Int) = 2 ^ bitsL p from by simp]; omega
   omega
  refine ⟨p, m, by omega, hm2, g5, hin _ _ _ hf, ?_⟩
  rw [saysL_in (257 + (p : Int)) (m : Int) p (by omega) (by omega)]
  have hp27 : ¬ (p = 27 ∧ (m : Int) = 31) := by
   rintro ⟨rfl, h⟩
   have e27 : baseL 27 = 227 := by decide +kernel
   omega
  rw [if_neg hp27, if_pos (by omega), show baseL p + (m : Int) = n from by omega]
theorem ref_distance (n : Int) (h1 : 1 ≤ n) (h2 : n ≤ 32768) : ∃ p m : Nat, p < 30 ∧ m < 2 ^ bitsD p ∧ bitsD p ≤ 13 ∧ Ev (fun k => XInflateTokens.montageref07_Distance.f k n) ((p : Int), (bitsD p : Int), (m : Int), true) ∧ saysD (p : Int) (m : Int) = (n, true) := by
 obtain ⟨R, hR, hRl, hRr⟩ := rows_D
 obtain ⟨p, hp, c0, c1⟩ := coverD n h1 h2
 obtain ⟨_, _, _, _, g5, g6, g7⟩ := rowsD_of p hp
 obtain ⟨hl, g2, g3, g4⟩ := hRr ⟨p, hp⟩
 have g3' : R[p].f1 = baseD p := g3
 have hf := find_at R (by omega) p hl n (by omega) (by omega) (by omega) (fun i hi h => by
  obtain ⟨_, _, g, _⟩ := hRr ⟨i, by omega⟩
  have g' : R[i].f1 = baseD i := g
  rw [g']
  have := riseD ⟨p, hp⟩ ⟨i, by omega⟩ h
  have this' : baseD p + 2 ^ bitsD p ≤ baseD i := this
  omega) R.length 0 0 rfl (by omega) (by omega) (fun h => by omega)
 rw [g3', show R[p].f0 = p from g2, show R[p].f2 = bitsD p from g4] at hf
 obtain ⟨m, hm⟩ : ∃ m : Nat, n - baseD p = m := ⟨(n - baseD p).toNat, by omega⟩
 rw [hm] at hf
 have hm2 : m < 2 ^ bitsD p := by
  have : (m : Int) < ((2 ^ bitsD p : Nat) : Int) := by rw [show ((2 ^ bitsD p : Nat) : Int) = 2 ^ bitsD p from by simp]; omega
  omega
 have hj : Ev (fun k => XInflateTokens.montageref07_Distance.j0 k n false) ((p : Int), (bitsD p : Int), (m : Int), true) := by
  refine Ev.step (fun k => ?_) (Ev.bind (f := fun k (t : List S200) => (XInflateTokens.montageref07_find.f k t n).bind fun b => some (b.1, b.2.1, b.2.2, true)) (Ev.of montageref07_distances.mono hR) (Ev.bind (f := fun _ (b : Int × Int × Int) => some (b.1, b.2.1, b.2.2, true)) hf (Ev.now _)))
  simp only [XInflateTokens.montageref07_Distance.j0]
  rw [if_neg (by simp)]
 refine ⟨p, m, hp, hm2, g5, Ev.congr (fun k => ?_) hj, ?_⟩
 ·unfold XInflateTokens.montageref07_Distance.f
  rw [if_neg (by omega), decide_eq_false (by omega)]
 ·unfold saysD
  rw [if_pos (by omega), Int.toNat_natCast, if_pos (by omega), show baseD p + (m : Int) = n from by omega]
open XInflateAny XTok
open XInflateTokens (S106 z106 rd_T106 k106 at_T106)
theorem take_snoc106 (l : List S106) (i : Nat) (h : i < l.length) : l.take (i + 1) = l.take i ++ [rd_T106 l (i : Int)] := by
 rw [List.take_succ_eq_append_getElem h]
 congr 2
 unfold rd_T106
 rw [Int.toNat_natCast, List.getD_eq_getElem?_getD, List.getElem?_eq_getElem h]
 rfl
/-- What is written when i tokens are. -/
def ZT (l : List S106) (i Z t : Nat) : Prop := Z < 2 ^ t ∧ Z % 8 = 3 ∧ EncT Z 3 (l.take i) t ∧ t ≤ 3 + 50 * i
theorem mod8 {Z Z' t : Nat} (h : Z' % 2 ^ t = Z % 2 ^ t) (ht : 3 ≤ t) : Z' % 8 = Z % 8 := by
 have := num_loc Z Z' t 0 3 h (by omega)
 rwa [Nat.pow_zero, Nat.div_one, Nat.div_one] at this
theorem bl_add (Z t x M : Nat) (hZ : Z < 2 ^ t) (hx : x < 2 ^ M) : bl Z t ++ bl x M = bl (Z + x * 2 ^ t) (t + M) := by
 rw [bl_app Z t x M hZ, Nat.mod_eq_of_lt hx]
theorem step_lit (l : List S106) (i Z t bN L : Nat) (back : Int) (hlt : i < l.length) (hrow : rd_T106 l (i : Int) = ⟨(bN : Int), 0, back⟩) (hb : bN < 256) (h1 : 1 ≤ L) (h9 : L ≤ 9) (hL : rd fixA (bN : Int) = (L : Int)) (he : encV fixA bN < 2 ^ L) (h : ZT l i Z t) :
  ∃ Z', bl Z t ++ bl (encV fixA bN) L = bl Z' (t + L) ∧ ZT l (i + 1) Z' (t + L) := by
 obtain ⟨hZ, h8, hE, ht⟩ := h
 have h3 := hE.le
 obtain ⟨a1, a2, a3⟩ := At.snoc fixA Z t bN L hZ (by rw [fixA_len]; omega) hL h1 he
 refine ⟨_, bl_add Z t _ L hZ he, a3, (mod8 a2 (by omega)).trans h8, ?_, by omega⟩
 rw [take_snoc106 l i hlt, hrow]
 exact (hE.loc a2 (Nat.le_refl _)).snoc (.inl ⟨rfl, bN, hb, rfl, a1⟩)
theorem step_copy (l : List S106) (i Z t p m j x L b1 b2 : Nat) (bN n back : Int) (hlt : i < l.length) (hrow : rd_T106 l (i : Int) = ⟨bN, n, back⟩) (hn : n ≠ 0) (hp : p < 29) (hj : j < 30) (e1 : bitsL p = b1) (e2 : bitsD j = b2) (hm : m < 2 ^ b1) (hb5 : b1 ≤ 5) (hx : x < 2 ^ b2) (hb13 : b2 ≤ 13) (hsl : saysL (257 + (p : Int)) (m : Int) = (n, true)) (hsd : saysD (j : Int) (x : Int) = (back, true)) (h1 : 1 ≤ L) (h9 : L ≤ 9) (hL : rd fixA ((257 + p : Nat) : Int) = (L : Int)) (he : encV fixA (257 + p) < 2 ^ L) (hB : rd fixB (j : Int) = ((5 : Nat) : Int)) (heb : encV fixB j < 2 ^ 5) (h : ZT l i Z t) :
  ∃ Z' t', bl Z t ++ bl (encV fixA (257 + p)) L ++ bl m b1 ++ bl (encV fixB j) 5 ++ bl x b2 = bl Z' t' ∧ ZT l (i + 1) Z' t' := by
 obtain ⟨hZ, h8, hE, ht⟩ := h
 have h3 := hE.le
 obtain ⟨a1, a2, a3⟩ := At.snoc fixA Z t (257 + p) L hZ (by rw [fixA_len]; omega) hL h1 he
 obtain ⟨Z1, hZ1⟩ : ∃ y, Z + encV fixA (257 + p) * 2 ^ t = y := ⟨_, rfl⟩
 have c1 := bl_add Z t _ L hZ he
 rw [hZ1] at a1 a2 a3 c1
 obtain ⟨b1', b2', b3'⟩ := loc_add Z1 (t + L) m b1 a3 hm
 have c2 := bl_add Z1 (t + L) m b1 a3 hm
 obtain ⟨Z2, hZ2⟩ : ∃ y, Z1 + m * 2 ^ (t + L) = y := ⟨_, rfl⟩
 rw [hZ2] at b1' b2' b3' c2
 obtain ⟨d1, d2, d3⟩ := At.snoc fixB Z2 (t + L + b1) j 5 b3' (by rw [fixB_len]; omega) hB (by decide) heb
 have c3 := bl_add Z2 (t + L + b1) _ 5 b3' heb
 obtain ⟨Z3, hZ3⟩ : ∃ y, Z2 + encV fixB j * 2 ^ (t + L + b1) = y := ⟨_, rfl⟩
 rw [hZ3] at d1 d2 d3 c3
 obtain ⟨f1, f2, f3⟩ := loc_add Z3 (t + L + b1 + 5) x b2 d3 hx
 have c4 := bl_add Z3 (t + L + b1 + 5) x b2 d3 hx
 obtain ⟨Z4, hZ4⟩ : ∃ y, Z3 + x * 2 ^ (t + L + b1 + 5) = y := ⟨_, rfl⟩
 rw [hZ4] at f1 f2 f3 c4
 have down : ∀ {A B a b : Nat}, A % 2 ^ b = B % 2 ^ b → a ≤ b → A % 2 ^ a = B % 2 ^ a := fun {A B a b} h hab => by
  have := num_loc B A b 0 a h (by omega)
  rwa [Nat.pow_zero, Nat.div_one, Nat.div_one] at this
 -- the last number at the elder places
 have g3 : Z4 % 2 ^ (t + L + b1) = Z2 % 2 ^ (t + L + b1) := (down f1 (by omega)).trans d2
 have g2 : Z4 % 2 ^ (t + L) = Z1 % 2 ^ (t + L) := (down g3 (by omega)).trans b1'
 have g1 : Z4 % 2 ^ t = Z % 2 ^ t := (down g2 (by omega)).trans a2
 refine ⟨Z4, t + L + b1 + 5 + b2, by rw [c1, c2, c3, c4], f3, (mod8 g1 (by omega)).trans h8, ?_, by omega⟩
 rw [take_snoc106 l i hlt, hrow]
 refine (hE.loc g1 (Nat.le_refl _)).snoc (.inr ⟨hn, 257 + p, j, t + L, t + L + b1, t + L + b1 + 5, by omega, by omega, hj, a1.loc g2 (Nat.le_refl _), by rw [show 257 + p - 257 = p from by omega, e1], ?_, d1.loc f1 (by omega), by rw [e2], ?_⟩)
 ·rw [show 257 + p - 257 = p from by omega, e1, num_loc Z2 Z4 (t + L + b1) (t + L) b1 g3 (Nat.le_refl _), b2']
  exact hsl
 ·rw [e2, f2]
  exact hsd
theorem step_end (l : List S106) (Z t L : Nat) (h1 : 1 ≤ L) (h9 : L ≤ 9) (hL : rd fixA ((256 : Nat) : Int) = (L : Int)) (he : encV fixA 256 < 2 ^ L) (hl : l.length ≤ 60) (h : ZT l l.length Z t) :
  ∃ Z', bl Z t ++ bl (encV fixA 256) L = bl Z' (t + L) ∧ Z' < 2 ^ (t + L) ∧ Z' % 8 = 3 ∧ EncT Z' 3 l t ∧ At fixA Z' t 256 (t + L) ∧ t + L ≤ 100 + 100 * l.length := by
 obtain ⟨hZ, h8, hE, ht⟩ := h
 rw [List.take_length] at hE
 have h3 := hE.le
 obtain ⟨a1, a2, a3⟩ := At.snoc fixA Z t 256 L hZ (by rw [fixA_len]; omega) hL h1 he
 exact ⟨_, bl_add Z t _ L hZ he, a3, (mod8 a2 (by omega)).trans h8, hE.loc a2 (Nat.le_refl _), a1, by omega⟩
theorem fixed_is2 : Ev (fun k => montageref08_fixed.f k) (fixA, fixB) := by
 unfold montageref08_fixed.f
 have l1 : ([] ++ List.replicate 144 (8 : Int)).length = 144 := by simp
 have l2 : (([] ++ List.replicate 144 (8 : Int)) ++ List.replicate 112 9).length = 256 := by rw [List.length_append, l1]; simp
 have l3 : ((([] ++ List.replicate 144 (8 : Int)) ++ List.replicate 112 9) ++ List.replicate 24 7).length = 280 := by rw [List.length_append, l2]; simp
 have h1 := same_isN [] 144 8 (by decide) (by decide)
 have h2 := same_isN ([] ++ List.replicate 144 (8 : Int)) 112 9 (by decide) (by omega)
 have h3 := same_isN (([] ++ List.replicate 144 (8 : Int)) ++ List.replicate 112 9) 24 7 (by decide) (by omega)
 have h4 := same_isN ((([] ++ List.replicate 144 (8 : Int)) ++ List.replicate 112 9) ++ List.replicate 24 7) 8 8 (by decide) (by omega)
 have h5 := same_isN [] 32 5 (by decide) (by decide)
 exact Ev.bind h1 (Ev.bind h2 (Ev.bind h3 (Ev.bind h4 (Ev.bind h5 (Ev.now _)))))
theorem RowN_of_R {W : World} {base : Nat} {ok : Nat → Prop} {v : Value} {l : List Int} (h : Kd.R (Kd.int .i64) 3 W base ok v l) (hl : 0 < l.length) : ∃ A c, v = .slice A l.length c ∧ l.length ≤ c ∧ RowN W A l := by
 obtain ⟨A, c, rfl, hc, hC⟩ := Kd.R_reads h
 refine ⟨A, c, rfl, hc, hC, ?_⟩
 obtain ⟨g, c', e, _⟩ := Kd.R_form h hl
 cases e
 obtain ⟨inner, ho⟩ := Kd.R_own h
 obtain ⟨cells, hb⟩ := own_typed ho g rfl
 exact ⟨g, 0, rfl, cells, hb⟩
theorem cl_nat (b : Nat) (h : b ≤ 32) : cl (b : Int) = b := by unfold cl; rw [if_neg (by omega), if_neg (by omega), Int.toNat_natCast]
end Go.Proofs.Ytmanmjjjepdhlaa.XPrefix
