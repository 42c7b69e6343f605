/- Option: a word. It has no conditions. -/
import Derived.Test.YtdaofffedfccmaaDoorXOptP
import Derived.BigRegion
import Derived.RegionTactic
import Derived.ChangeAlike
import Derived.Deep.RegionWith
import Derived.Deep.RegionLaw
import Derived.Laws.Tables
import Derived.Deep.QuietTactic
import Derived.BigQuiet
import Derived.Deep.RegionHeld3
import Derived.Deep.AppendLies
import Derived.Deep.DrawnRows
import Derived.Laws.CopyOwn
import Derived.Deep.MidRow
import Derived.Laws.ResultCell
import Derived.ChangeKeysEq
import Derived.Laws.BitsAllLaws
namespace Go.Proofs.YtdaofffedfccmaaDoor.XGlob
set_option linter.unusedVariables false
set_option linter.unusedSimpArgs false
open Go.RowKit Go.Proofs.YtdaofffedfccmaaDoorW.PrintWords Go.Proofs.YtdaofffedfccmaaDoorW.PrintLast Go.Proofs.YtdaofffedfccmaaDoorW.PrintMore
attribute [local go_sem] max2_int min2_int max_two min_two max_three min_three max_four min_four
open Go.Maps
/-! ### option: one word. -/
theorem numZ_R (p : Nat) : numR p numZ = some (.lit (.int .i64 0), []) := by
  unfold numR
  rw [if_neg (by intro h; injection h with h; injection h with h; injection h with h1 h2; cases h1), if_neg (by intro h; injection h with h; injection h with h; injection h with h1 h2; cases h1), if_pos rfl]
theorem numR_inv (p : Nat) (v : Value) (c : Int) (ps : List MemPlace) (h : numR p v = some (.lit (.int .i64 c), ps)) : (c = 1 ∧ v = numA p) ∨ (c = 2 ∧ v = numB p) ∨ (c = 0 ∧ v = numZ) := by
  unfold numR at h
  by_cases h1 : v = numA p
  · rw [if_pos h1] at h
    injection h with h
    injection h with h h'
    injection h with h
    injection h with _ h
    exact .inl ⟨h.symm, h1⟩
  · rw [if_neg h1] at h
    by_cases h2 : v = numB p
    · rw [if_pos h2] at h
      injection h with h
      injection h with h h'
      injection h with h
      injection h with _ h
      exact .inr (.inl ⟨h.symm, h2⟩)
    · rw [if_neg h2] at h
      by_cases h3 : v = numZ
      · rw [if_pos h3] at h
        injection h with h
        injection h with h h'
        injection h with h
        injection h with _ h
        exact .inr (.inr ⟨h.symm, h3⟩)
      · rw [if_neg h3] at h
        cases h
def lvlL : List UInt8 := [108, 101, 118, 101, 108]
def mostL : List UInt8 := [109, 111, 115, 116]
theorem keyLit (l : List UInt8) : WideAt.IsKeyLit (.string l) := by first | trivial | exact ⟨_, rfl⟩ | simp [WideAt.IsKeyLit]
theorem strK_ne {a b : List UInt8} (h : a ≠ b) : (Lit.string a) ≠ (Lit.string b) := fun e => h (by injection e)
theorem numD_at (l : List UInt8) : numD.atKey (.string l) (.lit (.int .i64 0)) = (if l = lvlL then .lit (.int .i64 1) else if l = mostL then .lit (.int .i64 2) else .lit (.int .i64 0)) ∧ Maps.has (numD) (.string l) = (if l = lvlL then true else if l = mostL then true else false) := by
  have hne : (Lit.string lvlL) ≠ (Lit.string mostL) := strK_ne (by decide)
  have h0 : IsMap (DataW.map [] : DataW Unit) := isMap_empty
  have h1 : IsMap ((DataW.map [] : DataW Unit).put lvlK (.lit (.int .i64 1))) := h0.put _ _
  unfold numD
  by_cases hl : l = lvlL
  · subst hl
    rw [if_pos rfl, if_pos rfl]
    constructor
    · rw [atKey_put_other (k := mostK) (k' := .string lvlL) hne]
      exact atKey_put_same h0 (keyLit _) _ _
    · rw [has_put_other (k := mostK) (k' := .string lvlL) hne]
      exact has_put_same h0 (keyLit _) _
  · rw [if_neg hl, if_neg hl]
    by_cases hm : l = mostL
    · subst hm
      rw [if_pos rfl, if_pos rfl]
      exact ⟨atKey_put_same h1 (keyLit _) _ _, has_put_same h1 (keyLit _) _⟩
    · rw [if_neg hm, if_neg hm]
      constructor
      · rw [atKey_put_other (k := mostK) (k' := .string l) (strK_ne hm), atKey_put_other (k := lvlK) (k' := .string l) (strK_ne hl)]
        rfl
      · rw [has_put_other (k := mostK) (k' := .string l) (strK_ne hm), has_put_other (k := lvlK) (k' := .string l) (strK_ne hl)]
        rfl
theorem zero136 (w : World) : (zeroValue 136).run Tryd.prog w = .ok numZ w := by kernel_rfl
theorem zero3 (w : World) : (zeroValue 3).run Tryd.prog w = .ok (.int .i64 0) w := by kernel_rfl
/-- What the numbers' map answers at a key. -/
def numAt (p : Nat) (l : List UInt8) : Value := if l = lvlL then numA p else if l = mostL then numB p else numZ
def numHas (l : List UInt8) : Bool := if l = lvlL then true else if l = mostL then true else false
theorem look_num (W : World) (p m1 : Nat) (h : W.ownsMap Tryd.prog 9 (numR p) m1 2 numD) (s : ByteArray) (hs : s.size ≤ 1000000) : (Instr.lookup 113 (.map (some m1)) (.string s) true).run Tryd.prog W = .ok (.tuple #[numAt p s.data.toList, .bool (numHas s.data.toList)]) W := by
  obtain ⟨v, ps, hrun, hv⟩ := h.look_ok law9 Tryd.underlying113 (zero136 W) (numZ_R p) (key_of s hs)
  obtain ⟨h1, h2⟩ := numD_at s.data.toList
  rw [h1] at hv
  rw [h2] at hrun
  have hvv : v = numAt p s.data.toList := by
    unfold numAt
    by_cases hl : s.data.toList = lvlL
    · rw [if_pos hl] at hv ⊢
      rcases numR_inv p v 1 ps hv with ⟨_, h⟩ | ⟨h, _⟩ | ⟨h, _⟩
      · exact h
      · omega
      · omega
    · rw [if_neg hl] at hv ⊢
      by_cases hm : s.data.toList = mostL
      · rw [if_pos hm] at hv ⊢
        rcases numR_inv p v 2 ps hv with ⟨h, _⟩ | ⟨_, h⟩ | ⟨h, _⟩
        · omega
        · exact h
        · omega
      · rw [if_neg hm] at hv ⊢
        rcases numR_inv p v 0 ps hv with ⟨h, _⟩ | ⟨h, _⟩ | ⟨_, h⟩
        · omega
        · omega
        · exact h
  rw [hvv] at hrun
  exact hrun
/-- The keys that were seen, as a datum. -/
noncomputable def seenD : List (List UInt8) → DataW Unit
  | [] => .map []
  | k :: K => (seenD K).put (.string k) (.lit (.int .i64 1))
theorem seenD_map : ∀ K, IsMap (seenD K)
  | [] => isMap_empty
  | k :: K => (seenD_map K).put _ _
theorem seenD_at (l : List UInt8) : ∀ K, (seenD K).atKey (.string l) (.lit (.int .i64 0)) = .lit (.int .i64 (if l ∈ K then 1 else 0))
  | [] => by rw [if_neg (by simp)]; rfl
  | k :: K => by
    by_cases h : l = k
    · subst h
      rw [if_pos (by simp)]
      exact atKey_put_same (seenD_map K) (keyLit l) _ _
    · rw [seenD, atKey_put_other (strK_ne h), seenD_at l K]
      have : (l ∈ k :: K) ↔ l ∈ K := by simp [h]
      by_cases h2 : l ∈ K
      · rw [if_pos h2, if_pos (this.2 h2)]
      · rw [if_neg h2, if_neg (fun h3 => h2 (this.1 h3))]
theorem look_seen (W : World) (m2 n : Nat) (K : List (List UInt8)) (h : W.ownsMap Tryd.prog 9 (plainElem Tryd.prog 3) m2 n (seenD K)) (s : ByteArray) (hs : s.size ≤ 1000000) : (Instr.lookup 114 (.map (some m2)) (.string s) false).run Tryd.prog W = .ok (.int .i64 (if s.data.toList ∈ K then 1 else 0)) W := by
  obtain ⟨c, hrun, hat, _⟩ := h.lookup_int law9 Tryd.underlying114 Tryd.underlying3 (zero3 W) (key_of s hs)
  rw [seenD_at] at hat
  obtain ⟨z, hz⟩ : ∃ z : Int, (if s.data.toList ∈ K then (1 : Int) else 0) = z := ⟨_, rfl⟩
  rw [hz] at hat ⊢
  have h2 : Lit.int .i64 z = Lit.int .i64 c := DataW.lit.inj hat
  have h3 : z = c := (Lit.int.inj h2).2
  rw [h3]
  exact hrun
def setLv (off : Nat) (v lv : Int) : Int := if off = 0 then v else lv
def setMo (off : Nat) (v most : Int) : Int := if off = 0 then most else v
theorem own_old {R : Value → Option (DataW Unit × List MemPlace)} {D : DataW Unit} {m n : Nat} {w1 W : World} (h : w1.ownsMap Tryd.prog 9 R m n D) (hb : Below w1.heap.size w1 W) : W.ownsMap Tryd.prog 9 R m n D := by
  have hlt := h.lt
  obtain ⟨es, ck, h1, F, h2, h3⟩ := h
  exact ⟨es, ck, (hb.block m hlt).trans h1, F, h2, h3⟩
theorem own_ne {R : Value → Option (DataW Unit × List MemPlace)} {D : DataW Unit} {m n p : Nat} {w1 : World} {cs : Array Value} {t : TypeId} {z : Nat × Nat} (h : w1.ownsMap Tryd.prog 9 R m n D) (hp : w1.heap[p]? = some (.cells cs t z)) : m ≠ p := by
  intro e
  obtain ⟨es, ck, h1, _⟩ := h
  rw [e, hp] at h1
  cases h1
theorem below3 {w1 w2 : World} {gb : Nat} (hg : gb = w1.heap.size) (hb3 : Below w1.heap.size w1 w2) (v0 v1 v2 : Value) : Below w1.heap.size w1 (((w2.setCell ⟨gb, 0, none⟩ v0).setCell ⟨gb, 1, none⟩ v1).setCell ⟨gb, 2, none⟩ v2) := by
  have hle : w1.heap.size ≤ gb := Nat.le_of_eq hg.symm
  exact below_set (below_set (below_set hb3 hle) hle) hle
theorem base_mono {B : Nat} {w w1 W : World} (h : Below B w w1) (hB : B ≤ w1.heap.size) (h2 : Below w1.heap.size w1 W) : Below B w W := h.trans (h2.mono hB)
set_option maxHeartbeats 6400000 in
set_option maxRecDepth 100000 in
/-- A word that sets a number: refused, or the parser behind it. -/
theorem word_num (B p off : Nat) (dg mo : Int) (s kb vb : ByteArray) (hs : s.size ≤ 1000) (hc : cutA s 61 = (kb, vb, true)) (hk : kb.size ≤ 1000) (hv : vb.size ≤ 1000) (w : World) (hL : Laid w) (lv : Int) (re sh wi : Bool) (most : Int) (n : Nat) (K : List (List UInt8))
    (hP : IsP B w p lv re sh wi most n (seenD K)) (hn : n ≤ 1000000) (hB : B ≤ w.heap.size) (hnum : numAt p kb.data.toList = .agg #[.pointer (some ⟨p, off, none⟩), .int .i64 dg, .int .i64 mo]) (hhas : numHas kb.data.toList = true) (hoff : (off = 0 ∧ dg = 1 ∧ mo = 3) ∨ (off = 4 ∧ dg = 7 ∧ mo = 4194304)) :
    Calls Tryd.prog 91 #[.pointer (some ⟨p, 0, none⟩), .string s] w fun e w' => match setV vb dg mo with
      | .inl er => e = .returned (.int .i64 er) ∧ Below B w w'
      | .inr v => if kb.data.toList ∈ K then e = .returned (.int .i64 6) ∧ Below B w w' else e = .returned (.int .i64 0) ∧ Below B w w' ∧ IsP B w' p (setLv off v lv) re sh wi (setMo off v most) (n + 1) (seenD (kb.data.toList :: K)) := by
  obtain ⟨m1, m2, hBp, hB1, hB2, hm12, hb, ho1, ho2⟩ := hP
  have HC := Aside0.mk (fun W => cut_one s 61 W (by omega))
  have HLd := Aside0.mk hL
  have HO1 := Aside0.mk ho1
  have HO2 := Aside0.mk ho2
  have HBK := Aside0.mk hb
  have HBp := Aside0.mk (show B ≤ p ∧ B ≤ m1 ∧ B ≤ m2 ∧ m1 ≠ m2 from ⟨hBp, hB1, hB2, hm12⟩)
  have HHB := Aside0.mk hB
  have HNN := Aside0.mk hn
  rw [hc] at HC
  have hlk : ∀ W : World, W.ownsMap Tryd.prog 9 (numR p) m1 2 numD → (Instr.lookup 113 (.map (some m1)) (.string kb) true).run Tryd.prog W = .ok (.tuple #[.agg #[.pointer (some ⟨p, off, none⟩), .int .i64 dg, .int .i64 mo], .bool true]) W := fun W hW => by
    rw [look_num W p m1 hW kb (by omega), hnum, hhas]
  have HLK := Aside0.mk hlk
  have hu136 := Tryd.underlying136
  clear hL ho1 ho2 hb hBp hB1 hB2 hm12 hB hn hlk hc hnum hhas
  cases hset : setV vb dg mo with
  | inl er =>
    have her : (er == 0) = false := by
      unfold setV at hset
      split at hset
      · split at hset
        · cases hset; rfl
        · cases hset
      · cases hset; rfl
    have her2 : (er != 0) = true := by rw [bne, her]; rfl
    go_enter Tryd.func91, Tryd.ntmps91
    go_wp2_with fail
    refine Calls.mono (HC.out _) ?_
    rintro e w1 ⟨rfl, ⟨nd, hw1⟩⟩
    have c5 : w1.cell? ⟨p, 5, none⟩ = some (.map (some m1)) := by rw [hw1]; exact blk_cell (blk_drewN HBK.out nd) 5
    have O1 := Aside0.mk (show w1.ownsMap (H := Unit) Tryd.prog 9 (numR p) m1 2 numD from by rw [hw1]; exact HO1.out)
    have O2 := Aside0.mk (show w1.ownsMap (H := Unit) Tryd.prog 9 (plainElem Tryd.prog 3) m2 n (seenD K) from by rw [hw1]; exact HO2.out)
    have BK1 := Aside0.mk (show w1.heap[p]? = some (.cells #[.int .i64 lv, .bool re, .bool sh, .bool wi, .int .i64 most, .map (some m1), .map (some m2)] 116 (0, 0)) from by rw [hw1]; exact blk_drewN HBK.out nd)
    have L1 := Aside0.mk (show Laid w1 from by rw [hw1]; exact HLd.out.below (pw_below_drewN (Below.refl _ _) nd))
    have B1 := Aside0.mk (show Below B w w1 from by rw [hw1]; exact pw_below_drewN (Below.refl _ _) nd)
    have S1 := Aside0.mk (show B ≤ w1.heap.size from by rw [hw1]; exact HHB.out)
    have hlk1 := HLK.out w1 O1.out
    clear HO1 HO2 HBK HLd hw1 HLK
    go_wp2_with (first | ((with_reducible refine gate_dst (N := 9) rfl ?_); refine box_event rfl (N := 9) rfl (cs := #[.pointer none, .int .i64 0, .int .i64 0]) (t := 136) (by first | (go_simp; done) | (go_simp; rfl)) ?_; intro gb hg w2 hblk hb3; have BG := Aside0.mk hblk; have HG := Aside0.mk hg; have HB3 := Aside0.mk hb3; clear hg hblk hb3; have z0 : w2.cell? ⟨gb, 0, none⟩ = some (.pointer none) := blk_cell BG.out 0; have z1 : w2.cell? ⟨gb, 1, none⟩ = some (.int .i64 0) := blk_cell BG.out 1; have z2 : w2.cell? ⟨gb, 2, none⟩ = some (.int .i64 0) := blk_cell BG.out 2; have q0 := blk_frozen BG.out 0; have q1 := blk_frozen BG.out 1; have q2 := blk_frozen BG.out 2))
    have hW5 := Aside0.mk (below3 HG.out HB3.out (.pointer (some ⟨p, off, none⟩)) (.int .i64 dg) (.int .i64 mo))
    generalize (((w2.setCell ⟨gb, 0, none⟩ (.pointer (some ⟨p, off, none⟩))).setCell ⟨gb, 1, none⟩ (.int .i64 dg)).setCell ⟨gb, 2, none⟩ (.int .i64 mo)) = W5 at hW5 ⊢
    obtain ⟨u, hu⟩ : ∃ u, (#[.int .i64 lv, .bool re, .bool sh, .bool wi, .int .i64 most, .map (some m1), .map (some m2)] : Array Value)[off]? = some u := by
      rcases hoff with ⟨rfl, _, _⟩ | ⟨rfl, _, _⟩
      · exact ⟨_, rfl⟩
      · exact ⟨_, rfl⟩
    have K5 := set_calls vb p off dg mo W5 (by omega) (L1.out.below hW5.out) _ (blk_below BK1.out hW5.out) u hu
    rw [hset] at K5
    refine Calls.mono K5 ?_
    rintro e w6 ⟨rfl, b6⟩
    have B6 := Aside0.mk (base_mono B1.out S1.out (below_step hW5.out b6))
    clear K5 b6 hlk1 c5 z0 z1 z2 q0 q1 q2
    go_wp2
    go_ret
    exact ⟨rfl, B6.out⟩
  | inr v =>
    by_cases hin : kb.data.toList ∈ K
    · simp only [if_pos hin]
      go_enter Tryd.func91, Tryd.ntmps91
      go_wp2_with fail
      refine Calls.mono (HC.out _) ?_
      rintro e w1 ⟨rfl, ⟨nd, hw1⟩⟩
      have c5 : w1.cell? ⟨p, 5, none⟩ = some (.map (some m1)) := by rw [hw1]; exact blk_cell (blk_drewN HBK.out nd) 5
      have O1 := Aside0.mk (show w1.ownsMap (H := Unit) Tryd.prog 9 (numR p) m1 2 numD from by rw [hw1]; exact HO1.out)
      have O2 := Aside0.mk (show w1.ownsMap (H := Unit) Tryd.prog 9 (plainElem Tryd.prog 3) m2 n (seenD K) from by rw [hw1]; exact HO2.out)
      have BK1 := Aside0.mk (show w1.heap[p]? = some (.cells #[.int .i64 lv, .bool re, .bool sh, .bool wi, .int .i64 most, .map (some m1), .map (some m2)] 116 (0, 0)) from by rw [hw1]; exact blk_drewN HBK.out nd)
      have L1 := Aside0.mk (show Laid w1 from by rw [hw1]; exact HLd.out.below (pw_below_drewN (Below.refl _ _) nd))
      have B1 := Aside0.mk (show Below B w w1 from by rw [hw1]; exact pw_below_drewN (Below.refl _ _) nd)
      have S1 := Aside0.mk (show B ≤ w1.heap.size from by rw [hw1]; exact HHB.out)
      have hlk1 := HLK.out w1 O1.out
      clear HO1 HO2 HBK HLd hw1 HLK
      go_wp2_with (first | ((with_reducible refine gate_dst (N := 9) rfl ?_); refine box_event rfl (N := 9) rfl (cs := #[.pointer none, .int .i64 0, .int .i64 0]) (t := 136) (by first | (go_simp; done) | (go_simp; rfl)) ?_; intro gb hg w2 hblk hb3; have BG := Aside0.mk hblk; have HG := Aside0.mk hg; have HB3 := Aside0.mk hb3; clear hg hblk hb3; have z0 : w2.cell? ⟨gb, 0, none⟩ = some (.pointer none) := blk_cell BG.out 0; have z1 : w2.cell? ⟨gb, 1, none⟩ = some (.int .i64 0) := blk_cell BG.out 1; have z2 : w2.cell? ⟨gb, 2, none⟩ = some (.int .i64 0) := blk_cell BG.out 2; have q0 := blk_frozen BG.out 0; have q1 := blk_frozen BG.out 1; have q2 := blk_frozen BG.out 2))
      have hW5 := Aside0.mk (below3 HG.out HB3.out (.pointer (some ⟨p, off, none⟩)) (.int .i64 dg) (.int .i64 mo))
      generalize (((w2.setCell ⟨gb, 0, none⟩ (.pointer (some ⟨p, off, none⟩))).setCell ⟨gb, 1, none⟩ (.int .i64 dg)).setCell ⟨gb, 2, none⟩ (.int .i64 mo)) = W5 at hW5 ⊢
      obtain ⟨u, hu⟩ : ∃ u, (#[.int .i64 lv, .bool re, .bool sh, .bool wi, .int .i64 most, .map (some m1), .map (some m2)] : Array Value)[off]? = some u := by
        rcases hoff with ⟨rfl, _, _⟩ | ⟨rfl, _, _⟩
        · exact ⟨_, rfl⟩
        · exact ⟨_, rfl⟩
      have K5 := set_calls vb p off dg mo W5 (by omega) (L1.out.below hW5.out) _ (blk_below BK1.out hW5.out) u hu
      rw [hset] at K5
      refine Calls.mono K5 ?_
      rintro e w7 ⟨rfl, w6, b6, hw7⟩
      have B6 := below_step hW5.out b6
      have hb6 := blk_below BK1.out B6
      have hb7 : w7.heap[p]? = some (.cells #[.int .i64 (setLv off v lv), .bool re, .bool sh, .bool wi, .int .i64 (setMo off v most), .map (some m1), .map (some m2)] 116 (0, 0)) := by
        rw [hw7]
        rcases hoff with ⟨rfl, _, _⟩ | ⟨rfl, _, _⟩
        · exact blk_put hb6 0 _ rfl
        · exact blk_put hb6 4 _ rfl
      have o1 := own_old O1.out B6
      have o2 := own_old O2.out B6
      have o17 : w7.ownsMap (H := Unit) Tryd.prog 9 (numR p) m1 2 numD := by rw [hw7]; exact o1.setCell (own_ne o1 hb6) _
      have o27 : w7.ownsMap (H := Unit) Tryd.prog 9 (plainElem Tryd.prog 3) m2 n (seenD K) := by rw [hw7]; exact o2.setCell (own_ne o2 hb6) _
      have B7 := Aside0.mk (show Below B w w7 from by rw [hw7]; exact (base_mono B1.out S1.out B6).setCell HBp.out.1 _)
      have BK7 := Aside0.mk hb7
      have O17 := Aside0.mk o17
      have O27 := Aside0.mk o27
      have S7 := Aside0.mk (show B ≤ w7.heap.size from Nat.le_trans HHB.out B7.out.size)
      have c6 : w7.cell? ⟨p, 6, none⟩ = some (.map (some m2)) := blk_cell hb7 6
      have hs7 := look_seen w7 m2 n K o27 kb (by omega)
      clear K5 b6 hlk1 c5 z0 z1 z2 q0 q1 q2 hw7 B6 hb6 hb7 o1 o2 o17 o27
      rw [if_pos hin] at hs7
      go_wp2
      go_ret
      exact ⟨rfl, B7.out⟩
    · simp only [if_neg hin]
      go_enter Tryd.func91, Tryd.ntmps91
      go_wp2_with fail
      refine Calls.mono (HC.out _) ?_
      rintro e w1 ⟨rfl, ⟨nd, hw1⟩⟩
      have c5 : w1.cell? ⟨p, 5, none⟩ = some (.map (some m1)) := by rw [hw1]; exact blk_cell (blk_drewN HBK.out nd) 5
      have O1 := Aside0.mk (show w1.ownsMap (H := Unit) Tryd.prog 9 (numR p) m1 2 numD from by rw [hw1]; exact HO1.out)
      have O2 := Aside0.mk (show w1.ownsMap (H := Unit) Tryd.prog 9 (plainElem Tryd.prog 3) m2 n (seenD K) from by rw [hw1]; exact HO2.out)
      have BK1 := Aside0.mk (show w1.heap[p]? = some (.cells #[.int .i64 lv, .bool re, .bool sh, .bool wi, .int .i64 most, .map (some m1), .map (some m2)] 116 (0, 0)) from by rw [hw1]; exact blk_drewN HBK.out nd)
      have L1 := Aside0.mk (show Laid w1 from by rw [hw1]; exact HLd.out.below (pw_below_drewN (Below.refl _ _) nd))
      have B1 := Aside0.mk (show Below B w w1 from by rw [hw1]; exact pw_below_drewN (Below.refl _ _) nd)
      have S1 := Aside0.mk (show B ≤ w1.heap.size from by rw [hw1]; exact HHB.out)
      have hlk1 := HLK.out w1 O1.out
      clear HO1 HO2 HBK HLd hw1 HLK
      go_wp2_with (first | ((with_reducible refine gate_dst (N := 9) rfl ?_); refine box_event rfl (N := 9) rfl (cs := #[.pointer none, .int .i64 0, .int .i64 0]) (t := 136) (by first | (go_simp; done) | (go_simp; rfl)) ?_; intro gb hg w2 hblk hb3; have BG := Aside0.mk hblk; have HG := Aside0.mk hg; have HB3 := Aside0.mk hb3; clear hg hblk hb3; have z0 : w2.cell? ⟨gb, 0, none⟩ = some (.pointer none) := blk_cell BG.out 0; have z1 : w2.cell? ⟨gb, 1, none⟩ = some (.int .i64 0) := blk_cell BG.out 1; have z2 : w2.cell? ⟨gb, 2, none⟩ = some (.int .i64 0) := blk_cell BG.out 2; have q0 := blk_frozen BG.out 0; have q1 := blk_frozen BG.out 1; have q2 := blk_frozen BG.out 2))
      have hW5 := Aside0.mk (below3 HG.out HB3.out (.pointer (some ⟨p, off, none⟩)) (.int .i64 dg) (.int .i64 mo))
      generalize (((w2.setCell ⟨gb, 0, none⟩ (.pointer (some ⟨p, off, none⟩))).setCell ⟨gb, 1, none⟩ (.int .i64 dg)).setCell ⟨gb, 2, none⟩ (.int .i64 mo)) = W5 at hW5 ⊢
      obtain ⟨u, hu⟩ : ∃ u, (#[.int .i64 lv, .bool re, .bool sh, .bool wi, .int .i64 most, .map (some m1), .map (some m2)] : Array Value)[off]? = some u := by
        rcases hoff with ⟨rfl, _, _⟩ | ⟨rfl, _, _⟩
        · exact ⟨_, rfl⟩
        · exact ⟨_, rfl⟩
      have K5 := set_calls vb p off dg mo W5 (by omega) (L1.out.below hW5.out) _ (blk_below BK1.out hW5.out) u hu
      rw [hset] at K5
      refine Calls.mono K5 ?_
      rintro e w7 ⟨rfl, w6, b6, hw7⟩
      have B6 := below_step hW5.out b6
      have hb6 := blk_below BK1.out B6
      have hb7 : w7.heap[p]? = some (.cells #[.int .i64 (setLv off v lv), .bool re, .bool sh, .bool wi, .int .i64 (setMo off v most), .map (some m1), .map (some m2)] 116 (0, 0)) := by
        rw [hw7]
        rcases hoff with ⟨rfl, _, _⟩ | ⟨rfl, _, _⟩
        · exact blk_put hb6 0 _ rfl
        · exact blk_put hb6 4 _ rfl
      have o1 := own_old O1.out B6
      have o2 := own_old O2.out B6
      have o17 : w7.ownsMap (H := Unit) Tryd.prog 9 (numR p) m1 2 numD := by rw [hw7]; exact o1.setCell (own_ne o1 hb6) _
      have o27 : w7.ownsMap (H := Unit) Tryd.prog 9 (plainElem Tryd.prog 3) m2 n (seenD K) := by rw [hw7]; exact o2.setCell (own_ne o2 hb6) _
      have B7 := Aside0.mk (show Below B w w7 from by rw [hw7]; exact (base_mono B1.out S1.out B6).setCell HBp.out.1 _)
      have BK7 := Aside0.mk hb7
      have O17 := Aside0.mk o17
      have O27 := Aside0.mk o27
      have S7 := Aside0.mk (show B ≤ w7.heap.size from Nat.le_trans HHB.out B7.out.size)
      have c6 : w7.cell? ⟨p, 6, none⟩ = some (.map (some m2)) := blk_cell hb7 6
      have hs7 := look_seen w7 m2 n K o27 kb (by omega)
      clear K5 b6 hlk1 c5 z0 z1 z2 q0 q1 q2 hw7 B6 hb6 hb7 o1 o2 o17 o27
      rw [if_neg hin] at hs7
      go_wp2_with (at_mapUpdate; refine wpList_mapUpdate_own _ rfl _ _ _ 114 rfl 9 3 law9 Tryd.underlying114 _ m2 n _ rfl O27.out (by have := HNN.out; unfold maxLen; omega) _ _ (.string kb.data.toList) rfl rfl (key_of kb (by omega)) (.lit (.int .i64 1)) [] (plainElem_int Tryd.underlying3 (by decide)) ?_; intro w8 hown8 hg8; have O8 := Aside0.mk hown8; have G8 := Aside0.mk hg8; clear hown8 hg8)
      go_ret
      refine ⟨rfl, B7.out.trans ⟨G8.out.os, G8.out.tape, G8.out.output, G8.out.size, fun j hj => G8.out.block j (by have := S7.out; omega) (by have := HBp.out.2.2.1; simp; omega)⟩, m1, m2, HBp.out.1, HBp.out.2.1, HBp.out.2.2.1, HBp.out.2.2.2, ?_, ?_, O8.out⟩
      · rw [G8.out.block p (blk_lt BK7.out) (by have := own_ne O27.out BK7.out; simp; exact fun e => this e.symm)]
        exact BK7.out
      · exact O17.out.kept G8.out (by have := HBp.out.2.2.2; simp; exact this)

end Go.Proofs.YtdaofffedfccmaaDoor.XGlob
