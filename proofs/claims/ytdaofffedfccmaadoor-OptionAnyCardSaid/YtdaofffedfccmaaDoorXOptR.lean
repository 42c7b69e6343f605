/- Option: Parse. It has no conditions. -/
import Derived.Test.YtdaofffedfccmaaDoorXOptV
import Derived.BigRegion
import Derived.RegionTactic
import Derived.ChangeAlike
import Derived.Deep.RegionWith
import Derived.Deep.RegionLaw
import Derived.Laws.Tables
import Derived.Deep.QuietTactic
import Derived.BigQuiet
import Derived.Deep.RegionHeld3
import Derived.Deep.AppendLies
import Derived.Deep.DrawnRows
import Derived.Laws.CopyOwn
import Derived.Deep.MidRow
import Derived.Laws.ResultCell
import Derived.ChangeKeysEq
import Derived.Laws.BitsAllLaws
namespace Go.Proofs.YtdaofffedfccmaaDoor.XGlob
set_option linter.unusedVariables false
set_option linter.unusedSimpArgs false
open Go.RowKit Go.Proofs.YtdaofffedfccmaaDoorW.PrintWords Go.Proofs.YtdaofffedfccmaaDoorW.PrintLast Go.Proofs.YtdaofffedfccmaaDoorW.PrintMore
attribute [local go_sem] max2_int min2_int max_two min_two max_three min_three max_four min_four
open Go.Maps
/-! ### option.Parse. -/
def offK (l : List UInt8) : Nat := if l = lvlL then 0 else 4
def dgK (l : List UInt8) : Int := if l = lvlL then 1 else 7
def moK (l : List UInt8) : Int := if l = lvlL then 3 else 4194304
abbrev OptS : Type := Int × Bool × Bool × Bool × Int × List (List UInt8)
/-- One word: an error, or the state behind it. -/
def wordR (st : OptS) (s : ByteArray) : Int ⊕ OptS :=
  if (numHas (cutA s 61).1.data.toList && (cutA s 61).2.2) = true then
    match setV (cutA s 61).2.1 (dgK (cutA s 61).1.data.toList) (moK (cutA s 61).1.data.toList) with
    | .inl er => .inl er
    | .inr v => if (cutA s 61).1.data.toList ∈ st.2.2.2.2.2 then .inl 6 else .inr (setLv (offK (cutA s 61).1.data.toList) v st.1, st.2.1, st.2.2.1, st.2.2.2.1, setMo (offK (cutA s 61).1.data.toList) v st.2.2.2.2.1, (cutA s 61).1.data.toList :: st.2.2.2.2.2)
  else if flagV s = 0 then .inl 2 else if (cutA s 61).1.data.toList ∈ st.2.2.2.2.2 then .inl 6 else
    .inr (st.1, setF (flagV s).toNat 1 st.2.1, setF (flagV s).toNat 2 st.2.2.1, setF (flagV s).toNat 3 st.2.2.2.1, st.2.2.2.2.1, (cutA s 61).1.data.toList :: st.2.2.2.2.2)
theorem cutA_size (s : ByteArray) (hs : s.size ≤ 1000) : (cutA s 61).1.size ≤ 1000 ∧ (cutA s 61).2.1.size ≤ 1000 := by
  unfold cutA
  by_cases h : 0 ≤ Lib.indexByte s.data.toList 61
  · rw [if_pos h]
    constructor
    · show (s.extract 0 _).size ≤ 1000
      rw [ByteArray.size_extract]; omega
    · show (s.extract _ s.size).size ≤ 1000
      rw [ByteArray.size_extract]; omega
  · rw [if_neg h]
    exact ⟨hs, Nat.zero_le _⟩
theorem flag_cases (s : ByteArray) : flagV s = 0 ∨ ∃ i : Nat, (i = 1 ∨ i = 2 ∨ i = 3) ∧ flagV s = (i : Int) := by
  unfold flagV
  split
  · exact .inr ⟨1, .inl rfl, rfl⟩
  · split
    · exact .inr ⟨2, .inr (.inl rfl), rfl⟩
    · split
      · exact .inr ⟨3, .inr (.inr rfl), rfl⟩
      · exact .inl rfl
/-- A word, whichever it is. -/
theorem word_calls (B p : Nat) (s : ByteArray) (hs : s.size ≤ 1000) (w : World) (hL : Laid w) (st : OptS) (n : Nat)
    (hP : IsP B w p st.1 st.2.1 st.2.2.1 st.2.2.2.1 st.2.2.2.2.1 n (seenD st.2.2.2.2.2)) (hn : n ≤ 1000000) (hB : B ≤ w.heap.size) :
    Calls Tryd.prog 91 #[.pointer (some ⟨p, 0, none⟩), .string s] w fun e w' => match wordR st s with
      | .inl er => e = .returned (.int .i64 er) ∧ er ≠ 0 ∧ Below B w w'
      | .inr st2 => e = .returned (.int .i64 0) ∧ Below B w w' ∧ IsP B w' p st2.1 st2.2.1 st2.2.2.1 st2.2.2.2.1 st2.2.2.2.2.1 (n + 1) (seenD st2.2.2.2.2.2) := by
  obtain ⟨lv, re, sh, wi, most, K⟩ := st
  obtain ⟨⟨kb, vb, eqb⟩, hcc⟩ : ∃ t, cutA s 61 = t := ⟨_, rfl⟩
  have hsz := cutA_size s hs
  rw [hcc] at hsz
  unfold wordR
  rw [hcc]
  simp only []
  simp only [] at hP hsz
  by_cases hh : (numHas kb.data.toList && eqb) = true
  · rw [if_pos hh]
    obtain ⟨h1, rfl⟩ : numHas kb.data.toList = true ∧ eqb = true := by simpa using hh
    have hnum : numAt p kb.data.toList = .agg #[.pointer (some ⟨p, offK kb.data.toList, none⟩), .int .i64 (dgK kb.data.toList), .int .i64 (moK kb.data.toList)] := by
      unfold numAt offK dgK moK
      unfold numHas at h1
      by_cases hl : kb.data.toList = lvlL
      · simp only [if_pos hl]; rfl
      · rw [if_neg hl] at h1
        by_cases hm : kb.data.toList = mostL
        · simp only [if_neg hl, if_pos hm]; rfl
        · rw [if_neg hm] at h1; cases h1
    have hoff : (offK kb.data.toList = 0 ∧ dgK kb.data.toList = 1 ∧ moK kb.data.toList = 3) ∨ (offK kb.data.toList = 4 ∧ dgK kb.data.toList = 7 ∧ moK kb.data.toList = 4194304) := by
      unfold offK dgK moK
      by_cases hl : kb.data.toList = lvlL
      · simp [hl]
      · simp [hl]
    have hw := word_num B p _ _ _ s kb vb hs hcc hsz.1 hsz.2 w hL lv re sh wi most n K hP hn hB hnum h1 hoff
    cases hset : setV vb (dgK kb.data.toList) (moK kb.data.toList) with
    | inl er =>
      rw [hset] at hw
      refine hw.mono ?_
      rintro e w' ⟨h2, h3⟩
      refine ⟨h2, ?_, h3⟩
      unfold setV at hset
      split at hset
      · split at hset
        · cases hset; decide
        · cases hset
      · cases hset; decide
    | inr v =>
      rw [hset] at hw
      simp only [] at hw ⊢
      by_cases hin : kb.data.toList ∈ K
      · simp only [if_pos hin] at hw ⊢
        exact hw.mono fun e w' h => ⟨h.1, by decide, h.2⟩
      · simp only [if_neg hin] at hw ⊢
        exact hw
  · rw [if_neg hh]
    obtain ⟨q, dg, mo, hnum⟩ := numAt_agg p kb.data.toList
    have hbe : (numHas kb.data.toList && eqb) = false := by simpa using hh
    rcases flag_cases s with hf | ⟨i, hi, hf⟩
    · rw [if_pos hf]
      exact (word_f0 B p s kb vb _ eqb q dg mo hs hcc hsz.1 w hL lv re sh wi most n K hP hn hB hnum rfl hbe hf).mono fun e w' h => ⟨h.1, by decide, h.2⟩
    · rw [if_neg (by omega), hf, Int.toNat_natCast]
      by_cases hin : kb.data.toList ∈ K
      · rw [if_pos hin]
        exact (word_f6 B p s kb vb _ eqb q dg mo hs hcc hsz.1 w hL lv re sh wi most n K hP hn hB hnum rfl hbe i hi hf hin).mono fun e w' h => ⟨h.1, by decide, h.2⟩
      · rw [if_neg hin]
        exact word_fi B p s kb vb _ eqb q dg mo hs hcc hsz.1 w hL lv re sh wi most n K hP hn hB hnum rfl hbe i hi hf hin
def parseL : List ByteArray → OptS → Int × Bool × Bool × Bool × Int × Int
  | [], st => (st.1, st.2.1, st.2.2.1, st.2.2.2.1, st.2.2.2.2.1, 0)
  | s :: l, st => match wordR st s with
    | .inl er => (0, false, false, false, 0, er)
    | .inr st2 => parseL l st2
theorem put5 {W : World} {g : Nat} {a0 a1 a2 a3 a4 b0 b1 b2 b3 b4 : Value} (h : W.heap[g]? = some (.cells #[a0, a1, a2, a3, a4] 58 (0, 0))) : (((((W.setCell ⟨g, 0, none⟩ b0).setCell ⟨g, 1, none⟩ b1).setCell ⟨g, 2, none⟩ b2).setCell ⟨g, 3, none⟩ b3).setCell ⟨g, 4, none⟩ b4).heap[g]? = some (.cells #[b0, b1, b2, b3, b4] 58 (0, 0)) :=
  blk_put (blk_put (blk_put (blk_put (blk_put h 0 b0 rfl) 1 b1 rfl) 2 b2 rfl) 3 b3 rfl) 4 b4 rfl
theorem below5 {w W : World} {g : Nat} (b0 b1 b2 b3 b4 : Value) (hg : w.heap.size ≤ g) (h : Below w.heap.size w W) : Below w.heap.size w (((((W.setCell ⟨g, 0, none⟩ b0).setCell ⟨g, 1, none⟩ b1).setCell ⟨g, 2, none⟩ b2).setCell ⟨g, 3, none⟩ b3).setCell ⟨g, 4, none⟩ b4) :=
  below_set (below_set (below_set (below_set (below_set h hg) hg) hg) hg) hg
set_option maxHeartbeats 6400000 in
set_option maxRecDepth 100000 in
theorem parse_walk (A0 : Option Addr) (c0 : Nat) (l : List ByteArray) (r1 : Int) (r2 r3 r4 : Bool) (r5 r6 : Int) (w : World) (hr : Kd.C Kd.string w A0 l.length l) (hlen : l.length ≤ 1000) (hsz : ∀ s ∈ l, s.size ≤ 1000) (hL : Laid w) (h : parseL l (1, false, false, false, 4194304, []) = (r1, r2, r3, r4, r5, r6)) :
    Calls Tryd.prog 45 #[.slice A0 l.length c0] w fun e w' => e = .returned (.tuple #[.agg #[.int .i64 r1, .bool r2, .bool r3, .bool r4, .int .i64 r5], .int .i64 r6]) ∧ Below w.heap.size w w' := by
  have HR := Aside0.mk hr
  have HLd := Aside0.mk hL
  have HH := Aside0.mk h
  have HSZ := Aside0.mk hsz
  have hu58 := Tryd.underlying58
  clear hr hL h hsz
  go_enter Tryd.func45, Tryd.ntmps45
  go_wp2_with (first | ((with_reducible refine gate_dst (N := 2) rfl ?_); refine box_event rfl (N := 2) rfl (cs := #[.int .i64 0, .bool false, .bool false, .bool false, .int .i64 0]) (t := 58) (by first | (go_simp; done) | (go_simp; rfl)) ?_; intro gb hg w1 hblk hb3; have BG := Aside0.mk hblk; have HG := Aside0.mk hg; have HB0 := Aside0.mk hb3; clear hg hblk hb3))
  refine Calls.mono (newParser_calls _) ?_
  rintro e w2 ⟨p, rfl, hP, b2⟩
  have HP := Aside0.mk hP
  have B2 := Aside0.mk b2
  have G2 := Aside0.mk (blk_below BG.out b2)
  clear hP b2
  go_wp2
  go_loopg [11] l.length (fun gg v11 W => ∃ (i : Nat) (st : OptS), v11 = .int .i64 (i : Int) ∧ l.length - i ≤ gg ∧ i ≤ l.length ∧ Aside0 (parseL (l.drop i) st = (r1, r2, r3, r4, r5, r6)) ∧ Aside0 (IsP w1.heap.size W p st.1 st.2.1 st.2.2.1 st.2.2.2.1 st.2.2.2.2.1 i (seenD st.2.2.2.2.2)) ∧ Aside0 (W.heap[gb]? = some (.cells #[.int .i64 0, .bool false, .bool false, .bool false, .int .i64 0] 58 (0, 0))) ∧ Aside0 (Below w1.heap.size w1 W))
  case atStart => exact ⟨0, (1, false, false, false, 4194304, []), rfl, Nat.le_refl _, Nat.zero_le _, HH, HP, G2, B2⟩
  case round =>
    clear HH HP G2 B2
    obtain ⟨i, st, rfl, hgg, hi, HH, HP, G2, B2⟩ := hrel
    have HBW := Aside0.mk (below_step HB0.out B2.out)
    have z0 : wr.cell? ⟨gb, 0, none⟩ = some (.int .i64 0) := blk_cell G2.out 0
    have z1 : wr.cell? ⟨gb, 1, none⟩ = some (.bool false) := blk_cell G2.out 1
    have z2 : wr.cell? ⟨gb, 2, none⟩ = some (.bool false) := blk_cell G2.out 2
    have z3 : wr.cell? ⟨gb, 3, none⟩ = some (.bool false) := blk_cell G2.out 3
    have z4 : wr.cell? ⟨gb, 4, none⟩ = some (.int .i64 0) := blk_cell G2.out 4
    by_cases hlt : i < l.length
    · have q1 : (i : Int) < (l.length : Int) := by omega
      have hrW := Kd.C_below HR.out HBW.out
      obtain ⟨ad, e0, hx⟩ := Kd.at_string hrW (i : Int) (by omega) q1
      subst e0
      obtain ⟨s, hs⟩ : ∃ s, l[i]'hlt = s := ⟨_, rfl⟩
      have hrd : rdOf ByteArray.empty l (i : Int) = s := by
        unfold rdOf
        rw [Int.toNat_natCast, List.getD_eq_getElem?_getD, List.getElem?_eq_getElem hlt, hs]
        rfl
      rw [hrd, Int.toNat_natCast] at hx
      have hss : s.size ≤ 1000 := HSZ.out s (by rw [← hs]; exact List.getElem_mem hlt)
      have hH := HH.out
      rw [List.drop_eq_getElem_cons hlt, hs, parseL] at hH
      have hB2 : w1.heap.size ≤ wr.heap.size := B2.out.size
      have K := fun W (hW : W = wr) => word_calls w1.heap.size p s hss W (by rw [hW]; exact HLd.out.below HBW.out) st i (by rw [hW]; exact HP.out) (by omega) (by rw [hW]; exact hB2)
      cases hw : wordR st s with
      | inl er =>
        rw [hw] at hH
        simp only [hw] at K
        simp only [Prod.mk.injEq] at hH
        obtain ⟨rfl, rfl, rfl, rfl, rfl, rfl⟩ := hH
        have hK := K wr rfl
        clear K hrW hrd hs
        go_wp2_with fail
        refine Calls.mono hK ?_
        rintro e w5 ⟨rfl, her, b5⟩
        have g1 : (er == 0) = false := beq_eq_false_iff_ne.mpr her
        have g2 : (er != 0) = true := bne_iff_ne.mpr her
        have hgb : gb < w1.heap.size := blk_lt BG.out
        have G5 := Aside0.mk (show w5.heap[gb]? = some (.cells #[.int .i64 0, .bool false, .bool false, .bool false, .int .i64 0] 58 (0, 0)) from by rw [b5.block gb hgb]; exact G2.out)
        have B5 := Aside0.mk (below_step HB0.out (B2.out.trans b5))
        clear hK b5 z0 z1 z2 z3 z4 hgb
        have z0 : w5.cell? ⟨gb, 0, none⟩ = some (.int .i64 0) := blk_cell G5.out 0
        have z1 : w5.cell? ⟨gb, 1, none⟩ = some (.bool false) := blk_cell G5.out 1
        have z2 : w5.cell? ⟨gb, 2, none⟩ = some (.bool false) := blk_cell G5.out 2
        have z3 : w5.cell? ⟨gb, 3, none⟩ = some (.bool false) := blk_cell G5.out 3
        have z4 : w5.cell? ⟨gb, 4, none⟩ = some (.int .i64 0) := blk_cell G5.out 4
        have f0 := blk_frozen G5.out 0
        have f1 := blk_frozen G5.out 1
        have f2 := blk_frozen G5.out 2
        have f3 := blk_frozen G5.out 3
        have f4 := blk_frozen G5.out 4
        go_wp2
        refine bodyPost_ret (results_ct rfl _ _ gb 58 _ (0, 0) _ rfl (put5 G5.out) Tryd.underlying58 rfl (by kernel_rfl)) rfl ?_
        exact ⟨rfl, below5 _ _ _ _ _ (Nat.le_of_eq HG.out.symm) B5.out⟩
      | inr st2 =>
        rw [hw] at hH
        simp only [hw] at K
        simp only [] at hH
        have HH2 := Aside0.mk hH
        have hK := K wr rfl
        clear K hrW hrd hs hH
        go_wp2_with fail
        refine Calls.mono hK ?_
        rintro e w5 ⟨rfl, b5, hP5⟩
        have hgb : gb < w1.heap.size := blk_lt BG.out
        have G5 := Aside0.mk (show w5.heap[gb]? = some (.cells #[.int .i64 0, .bool false, .bool false, .bool false, .int .i64 0] 58 (0, 0)) from by rw [b5.block gb hgb]; exact G2.out)
        have B5 := Aside0.mk (B2.out.trans b5)
        have P5 := Aside0.mk hP5
        clear hK b5 z0 z1 z2 z3 z4 hgb hP5
        go_wp2
        go_roundg (l.length - (i + 1))
        case measure => omega
        case rel => exact ⟨i + 1, st2, by go_num, Nat.le_refl _, by omega, HH2, P5, G5, B5⟩
    · obtain rfl : i = l.length := by omega
      have d0 : ¬ (l.length : Int) < (l.length : Int) := by omega
      have hH := HH.out
      rw [List.drop_length, parseL] at hH
      simp only [Prod.mk.injEq] at hH
      obtain ⟨rfl, rfl, rfl, rfl, rfl, rfl⟩ := hH
      obtain ⟨m1, m2, hBp, _, _, _, hb, _, _⟩ := HP.out
      have k0 : wr.cell? ⟨p, 0, none⟩ = some (.int .i64 st.1) := blk_cell hb 0
      have k1 : wr.cell? ⟨p, 1, none⟩ = some (.bool st.2.1) := blk_cell hb 1
      have k2 : wr.cell? ⟨p, 2, none⟩ = some (.bool st.2.2.1) := blk_cell hb 2
      have k3 : wr.cell? ⟨p, 3, none⟩ = some (.bool st.2.2.2.1) := blk_cell hb 3
      have k4 : wr.cell? ⟨p, 4, none⟩ = some (.int .i64 st.2.2.2.2.1) := blk_cell hb 4
      have f0 := blk_frozen G2.out 0
      have f1 := blk_frozen G2.out 1
      have f2 := blk_frozen G2.out 2
      have f3 := blk_frozen G2.out 3
      have f4 := blk_frozen G2.out 4
      clear hb hBp
      go_wp2
      refine bodyPost_ret (results_ct rfl _ _ gb 58 _ (0, 0) _ rfl (put5 G2.out) Tryd.underlying58 rfl (by kernel_rfl)) rfl ?_
      exact ⟨rfl, below5 _ _ _ _ _ (Nat.le_of_eq HG.out.symm) HBW.out⟩

end Go.Proofs.YtdaofffedfccmaaDoor.XGlob
