/- prefix.New: what it does. It has no conditions. -/
import Derived.Test.YtiemjhoadobigaaYPrefixCodes
import Derived.BigRegion
import Derived.RegionTactic
import Derived.ChangeAlike
import Derived.Deep.RegionWith
import Derived.Deep.RegionLaw
import Derived.Laws.Tables
import Derived.Deep.QuietTactic
import Derived.BigQuiet
import Derived.Deep.RegionHeld3
import Derived.Deep.AppendLies
import Derived.Deep.DrawnRows
import Derived.Laws.CopyOwn
import Derived.Deep.MidRow
import Derived.Laws.ResultCell
import Derived.ChangeKeysEq
namespace Go.Proofs.Ytiemjhoadobigaa.XPrefix
set_option linter.unusedVariables false
set_option linter.unusedSimpArgs false
open Go.RowKit Go.Proofs.YtiemjhoadobigaaW.PrintWords Go.Proofs.YtiemjhoadobigaaW.PrintLast Go.Proofs.YtiemjhoadobigaaW.PrintMore

/-- A table's cells. -/
def tabOf (k : Int) (cv : Value) (f c : Nat → Int) (sv : Value) : Array Value := #[.int .i64 k, cv, .int .i64 (f 0), .int .i64 (f 1), .int .i64 (f 2), .int .i64 (f 3), .int .i64 (f 4), .int .i64 (f 5), .int .i64 (f 6), .int .i64 (f 7), .int .i64 (f 8), .int .i64 (f 9), .int .i64 (f 10), .int .i64 (f 11), .int .i64 (f 12), .int .i64 (f 13), .int .i64 (f 14), .int .i64 (f 15), .int .i64 (c 0), .int .i64 (c 1), .int .i64 (c 2), .int .i64 (c 3), .int .i64 (c 4), .int .i64 (c 5), .int .i64 (c 6), .int .i64 (c 7), .int .i64 (c 8), .int .i64 (c 9), .int .i64 (c 10), .int .i64 (c 11), .int .i64 (c 12), .int .i64 (c 13), .int .i64 (c 14), .int .i64 (c 15), sv]
theorem lt16 {P : Nat → Prop} (h : P 0 ∧ P 1 ∧ P 2 ∧ P 3 ∧ P 4 ∧ P 5 ∧ P 6 ∧ P 7 ∧ P 8 ∧ P 9 ∧ P 10 ∧ P 11 ∧ P 12 ∧ P 13 ∧ P 14 ∧ P 15) (i : Nat) (hi : i < 16) : P i := by
  obtain ⟨h0, h1, h2, h3, h4, h5, h6, h7, h8, h9, h10, h11, h12, h13, h14, h15⟩ := h
  have : i = 0 ∨ i = 1 ∨ i = 2 ∨ i = 3 ∨ i = 4 ∨ i = 5 ∨ i = 6 ∨ i = 7 ∨ i = 8 ∨ i = 9 ∨ i = 10 ∨ i = 11 ∨ i = 12 ∨ i = 13 ∨ i = 14 ∨ i = 15 := by omega
  rcases this with rfl | rfl | rfl | rfl | rfl | rfl | rfl | rfl | rfl | rfl | rfl | rfl | rfl | rfl | rfl | rfl <;> assumption
theorem tab_getF (k : Int) (cv : Value) (f c : Nat → Int) (sv : Value) (i : Nat) (hi : i < 16) : (tabOf k cv f c sv)[2 + i]? = some (.int .i64 (f i)) := lt16 (P := fun i => (tabOf k cv f c sv)[2 + i]? = some (.int .i64 (f i))) ⟨rfl, rfl, rfl, rfl, rfl, rfl, rfl, rfl, rfl, rfl, rfl, rfl, rfl, rfl, rfl, rfl⟩ i hi
theorem tab_getC (k : Int) (cv : Value) (f c : Nat → Int) (sv : Value) (i : Nat) (hi : i < 16) : (tabOf k cv f c sv)[18 + i]? = some (.int .i64 (c i)) := lt16 (P := fun i => (tabOf k cv f c sv)[18 + i]? = some (.int .i64 (c i))) ⟨rfl, rfl, rfl, rfl, rfl, rfl, rfl, rfl, rfl, rfl, rfl, rfl, rfl, rfl, rfl, rfl⟩ i hi
theorem tab_setF (k : Int) (cv : Value) (f c : Nat → Int) (sv : Value) (x : Int) (i : Nat) (hi : i < 16) : (tabOf k cv f c sv).setIfInBounds (2 + i) (.int .i64 x) = tabOf k cv (upd f i x) c sv := lt16 (P := fun i => (tabOf k cv f c sv).setIfInBounds (2 + i) (.int .i64 x) = tabOf k cv (upd f i x) c sv) ⟨rfl, rfl, rfl, rfl, rfl, rfl, rfl, rfl, rfl, rfl, rfl, rfl, rfl, rfl, rfl, rfl⟩ i hi
theorem tab_setC (k : Int) (cv : Value) (f c : Nat → Int) (sv : Value) (x : Int) (i : Nat) (hi : i < 16) : (tabOf k cv f c sv).setIfInBounds (18 + i) (.int .i64 x) = tabOf k cv f (upd c i x) sv := lt16 (P := fun i => (tabOf k cv f c sv).setIfInBounds (18 + i) (.int .i64 x) = tabOf k cv f (upd c i x) sv) ⟨rfl, rfl, rfl, rfl, rfl, rfl, rfl, rfl, rfl, rfl, rfl, rfl, rfl, rfl, rfl, rfl⟩ i hi
theorem tab_setS (k : Int) (cv : Value) (f c : Nat → Int) (sv sv' : Value) : (tabOf k cv f c sv).setIfInBounds 34 sv' = tabOf k cv f c sv' := rfl
def putAll (cs : Array Value) : Nat → List Value → Array Value
  | _, [] => cs
  | o, v :: vs => putAll (cs.setIfInBounds o v) (o + 1) vs
theorem blk_setCells {g : Nat} {t : TypeId} : ∀ (vs : List Value) (o : Nat) (W : World) (cs : Array Value), W.heap[g]? = some (.cells cs t (0, 0)) → (W.setCells g o vs).heap[g]? = some (.cells (putAll cs o vs) t (0, 0))
  | [], _, _, _, h => h
  | v :: vs, o, W, cs, h => blk_setCells vs (o + 1) _ _ (blk_set h o v)
theorem blk_setCells_far {g k : Nat} (hk : k ≠ g) : ∀ (vs : List Value) (o : Nat) (W : World), (W.setCells g o vs).heap[k]? = W.heap[k]?
  | [], _, _ => rfl
  | v :: vs, o, W => (blk_setCells_far hk vs (o + 1) _).trans (Below.heap_setCell W ⟨g, o, none⟩ v k hk)
theorem below_setCells {g : Nat} {w : World} (hg : w.heap.size ≤ g) : ∀ (vs : List Value) (o : Nat) (W : World), Below w.heap.size w W → Below w.heap.size w (W.setCells g o vs)
  | [], _, _, h => h
  | v :: vs, o, W, h => below_setCells hg vs (o + 1) _ (below_set h hg)
theorem tab_congrC (k : Int) (cv : Value) (f c c' : Nat → Int) (sv : Value) (h : ∀ i, i < 16 → c i = c' i) : tabOf k cv f c sv = tabOf k cv f c' sv := by
  unfold tabOf
  rw [h 0 (by omega), h 1 (by omega), h 2 (by omega), h 3 (by omega), h 4 (by omega), h 5 (by omega), h 6 (by omega), h 7 (by omega), h 8 (by omega), h 9 (by omega), h 10 (by omega), h 11 (by omega), h 12 (by omega), h 13 (by omega), h 14 (by omega), h 15 (by omega)]
theorem tab_congrF (k : Int) (cv : Value) (f f' c : Nat → Int) (sv : Value) (h : ∀ i, i < 16 → f i = f' i) : tabOf k cv f c sv = tabOf k cv f' c sv := by
  unfold tabOf
  rw [h 0 (by omega), h 1 (by omega), h 2 (by omega), h 3 (by omega), h 4 (by omega), h 5 (by omega), h 6 (by omega), h 7 (by omega), h 8 (by omega), h 9 (by omega), h 10 (by omega), h 11 (by omega), h 12 (by omega), h 13 (by omega), h 14 (by omega), h 15 (by omega)]
theorem putC (k : Int) (cv : Value) (f c : Nat → Int) (sv : Value) : ∀ (d i : Nat) (c0 : Nat → Int), i + d = 16 → (∀ j, j < i → c0 j = c j) → putAll (tabOf k cv f c0 sv) (18 + i) ((List.range' i d).map fun i => Value.int .i64 (c i)) = tabOf k cv f c sv
  | 0, i, c0, h, hc => by
    rw [List.range'_zero, List.map_nil, putAll]
    exact tab_congrC _ _ _ _ _ _ (fun j hj => hc j (by omega))
  | d + 1, i, c0, h, hc => by
    rw [List.range'_succ, List.map_cons, putAll, tab_setC _ _ _ _ _ _ _ (by omega)]
    exact putC k cv f c sv d (i + 1) (upd c0 i (c i)) (by omega) (fun j hj => by
      unfold upd
      by_cases e : j = i
      · rw [if_pos e, e]
      · rw [if_neg e]; exact hc j (by omega))
theorem tab_putC (k : Int) (cv : Value) (f c0 c : Nat → Int) (sv : Value) : putAll (tabOf k cv f c0 sv) 18 (rowOf 16 c).toList = tabOf k cv f c sv := by
  have := putC k cv f c sv 16 0 c0 rfl (fun j h => absurd h (by omega))
  rw [← List.range_eq_range'] at this
  exact this

/-- The codes' cells. -/
def codeRow (n : Nat) (F G : Nat → Int) : Array Value := ((List.range (n * 2)).map fun i => if i % 2 = 0 then Value.int .u32 (F (i / 2)) else .int .i64 (G (i / 2))).toArray
theorem codeRow_get0 (n : Nat) (F G : Nat → Int) (i : Nat) (h : i < n) : (codeRow n F G)[i * 2]? = some (.int .u32 (F i)) := by
  unfold codeRow
  rw [List.getElem?_toArray, List.getElem?_map, List.getElem?_range (by omega)]
  rw [Option.map_some, if_pos (by omega), show i * 2 / 2 = i from by omega]
theorem codeRow_get1 (n : Nat) (F G : Nat → Int) (i : Nat) (h : i < n) : (codeRow n F G)[i * 2 + 1]? = some (.int .i64 (G i)) := by
  unfold codeRow
  rw [List.getElem?_toArray, List.getElem?_map, List.getElem?_range (by omega)]
  rw [Option.map_some, if_neg (by omega), show (i * 2 + 1) / 2 = i from by omega]
theorem codeRow_set (n : Nat) (F G : Nat → Int) (i : Nat) (x y : Int) : ((codeRow n F G).setIfInBounds (i * 2) (.int .u32 x)).setIfInBounds (i * 2 + 1) (.int .i64 y) = codeRow n (upd F i x) (upd G i y) := by
  apply Array.ext'
  apply List.ext_getElem
  · simp [codeRow]
  · intro j h1 h2
    simp [codeRow] at h1 h2
    simp [codeRow, upd, List.getElem_set]
    by_cases hp : j % 2 = 0
    · by_cases h : j = i * 2
      · subst h
        rw [if_neg (by omega), if_pos rfl, if_pos (by omega), if_pos (by omega)]
      · rw [if_neg (by omega), if_neg (fun e => h e.symm), if_pos hp, if_pos hp, if_neg (by omega)]
    · by_cases h : j = i * 2 + 1
      · subst h
        rw [if_pos rfl, if_neg hp, if_pos (by omega)]
      · rw [if_neg (fun e => h e.symm), if_neg (by omega), if_neg hp, if_neg hp, if_neg (by omega)]
theorem codeRow_made (m : Nat) : madeCells #[Value.int .u32 0, Value.int .i64 0] (m * 2) = codeRow m (fun _ => 0) (fun _ => 0) := by
  apply Array.ext
  · simp [codeRow, madeCells]
  · intro i h1 h2
    simp [codeRow, madeCells]
    by_cases hp : i % 2 = 0
    · rw [if_pos hp, hp]; rfl
    · rw [if_neg hp, show i % 2 = 1 from by omega]; rfl

/-- The symbols of length n among the first i. -/
def symRow (l : List Int) (n : Nat) : Nat → List Int
  | 0 => []
  | i + 1 => symRow l n i ++ (if rd l (i : Int) = (n : Int) then [(i : Int)] else [])
/-- The symbols of lengths 1 to n, in order. -/
def symUp (l : List Int) : Nat → List Int
  | 0 => []
  | n + 1 => symUp l n ++ symRow l (n + 1) l.length
theorem symRow_len (l : List Int) (n : Nat) : ∀ i, (symRow l n i).length ≤ i
  | 0 => by simp [symRow]
  | i + 1 => by
    have := symRow_len l n i
    rw [symRow, List.length_append]
    split <;> simp <;> omega
theorem symUp_len (l : List Int) : ∀ n, (symUp l n).length ≤ n * l.length
  | 0 => by simp [symUp]
  | n + 1 => by
    have := symUp_len l n
    have := symRow_len l (n + 1) l.length
    rw [symUp, List.length_append, Nat.succ_mul]
    omega
def fAt (c : Nat → Int) (k j : Nat) : Int := if j ≤ k then nx c j else 0
theorem fAt_step (c : Nat → Int) (k : Nat) (hk : 1 ≤ k) : upd (fAt c k) (k + 1) (2 * (nx c k + c k)) = fAt c (k + 1) := by
  funext j
  unfold upd fAt
  obtain ⟨m, rfl⟩ : ∃ m, k = m + 1 := ⟨k - 1, by omega⟩
  by_cases h : j = m + 1 + 1
  · subst h
    rw [if_pos rfl, if_pos (by omega), nx]
  · rw [if_neg h]
    by_cases h2 : j ≤ m + 1
    · rw [if_pos h2, if_pos (by omega)]
    · rw [if_neg h2, if_neg (by omega)]
theorem fAt_one (c : Nat → Int) : fAt c 1 = fAt c 0 := by
  funext j
  unfold fAt
  by_cases h : j ≤ 0
  · rw [if_pos h, if_pos (by omega)]
  · rw [if_neg h]
    by_cases h2 : j = 1
    · subst h2; rfl
    · rw [if_neg (by omega)]
theorem fAt_zero (c : Nat → Int) : fAt c 0 = fun _ => 0 := by
  funext j
  unfold fAt
  by_cases h : j ≤ 0
  · rw [if_pos h, show j = 0 from by omega]; rfl
  · rw [if_neg h]
/-- The bits of the i-th symbol, the first one lowest. -/
def vOf (l : List Int) (R : Nat → Int) (i : Nat) (j : Nat) : Int := if j < i then R j else 0
def nOf (l : List Int) (i : Nat) (j : Nat) : Int := if j < i then rd l (j : Int) else 0

theorem info63 : (Try.prog.info? 63).map (fun i => (i.zero, i.size, i.bytes)) = some (some (.agg #[.int .u32 0, .int .i64 0]), 2, 16) := by kernel_rfl
theorem make63 (m : Nat) (hm : m ≤ 288) : ∀ W : World, (Instr.makeSlice 53 (.int .i64 (m : Int)) (.int .i64 (m : Int))).run Try.prog W = .ok (.slice (some ⟨W.heap.size, 0, none⟩) m m) (W.alloc (.cells (codeRow m (fun _ => 0) (fun _ => 0)) 63)) := by
  intro W
  obtain ⟨i0, hi, hz⟩ := Option.map_eq_some_iff.1 info63
  simp only [Prod.mk.injEq] at hz
  obtain ⟨h1, h2, h3⟩ := hz
  have h := run_make (P := Try.prog) W 53 63 i0 _ Try.underlying53 hi h1 .i64 .i64 (m : Int) (m : Int) (by omega) (by omega) (by rw [h3]; omega) (by omega)
  rw [Int.toNat_natCast, h2] at h
  rw [← codeRow_made]
  exact h

theorem cod_range (l : List Int) (i : Nat) (ok : OkL l) (hi : i < l.length) : 0 ≤ cod l i ∧ cod l i ≤ 41000000 := by
  have h1 := ok.1
  have h2 := ok.2 i hi
  unfold cod
  split
  · have a := nx_le (cnt l l.length) (fun j => by have := cnt_range l l.length j; omega) (rd l (i : Int)).toNat (by omega)
    have b := cnt_range l i (rd l (i : Int)).toNat
    omega
  · omega
theorem rev_some (x : Int) : ∃ r, XPrefixReads.bits_Reverse32.f x = some r := ⟨_, rfl⟩
def rv (x : Int) : Int := (XPrefixReads.bits_Reverse32.f x).getD 0
/-- A symbol's bits, the first one lowest. -/
def bitsV (l : List Int) (j : Nat) : Int := if rd l (j : Int) = 0 then 0 else rv (cod l j) / 2 ^ (32 - rd l (j : Int)).toNat

theorem row_hit (l : List Int) (i : Nat) (a r : Int) (ha : rd l (i : Int) = a) (h0 : a ≠ 0) (hr : XPrefixReads.bits_Reverse32.f (cod l i) = some r) :
    codeRow l.length (upd (vOf l (bitsV l) i) i (r / 2 ^ (32 - a).toNat)) (upd (nOf l i) i a) = codeRow l.length (vOf l (bitsV l) (i + 1)) (nOf l (i + 1)) := by
  have h1 : upd (vOf l (bitsV l) i) i (r / 2 ^ (32 - a).toNat) = vOf l (bitsV l) (i + 1) := by
    funext j
    unfold upd vOf
    by_cases h : j = i
    · subst h
      rw [if_pos rfl, if_pos (by omega), bitsV, ha, if_neg h0, rv, hr]
      rfl
    · rw [if_neg h]
      by_cases h2 : j < i
      · rw [if_pos h2, if_pos (by omega)]
      · rw [if_neg h2, if_neg (by omega)]
  have h2 : upd (nOf l i) i a = nOf l (i + 1) := by
    funext j
    unfold upd nOf
    by_cases h : j = i
    · subst h
      rw [if_pos rfl, if_pos (by omega), ha]
    · rw [if_neg h]
      by_cases h2 : j < i
      · rw [if_pos h2, if_pos (by omega)]
      · rw [if_neg h2, if_neg (by omega)]
  rw [h1, h2]
theorem row_miss (l : List Int) (i : Nat) (r : Int) (ha : rd l (i : Int) = 0) :
    codeRow l.length (upd (upd (vOf l (bitsV l) i) i (r / 2 ^ ((32 : Int) - 0).toNat)) i 0) (upd (upd (nOf l i) i 0) i 0) = codeRow l.length (vOf l (bitsV l) (i + 1)) (nOf l (i + 1)) := by
  have h1 : upd (upd (vOf l (bitsV l) i) i (r / 2 ^ ((32 : Int) - 0).toNat)) i 0 = vOf l (bitsV l) (i + 1) := by
    funext j
    unfold upd vOf
    by_cases h : j = i
    · subst h
      rw [if_pos rfl, if_pos (by omega), bitsV, ha, if_pos rfl]
    · rw [if_neg h, if_neg h]
      by_cases h2 : j < i
      · rw [if_pos h2, if_pos (by omega)]
      · rw [if_neg h2, if_neg (by omega)]
  have h2 : upd (upd (nOf l i) i 0) i 0 = nOf l (i + 1) := by
    funext j
    unfold upd nOf
    by_cases h : j = i
    · subst h
      rw [if_pos rfl, if_pos (by omega), ha]
    · rw [if_neg h, if_neg h]
      by_cases h2 : j < i
      · rw [if_pos h2, if_pos (by omega)]
      · rw [if_neg h2, if_neg (by omega)]
  rw [h1, h2]
/-- A table of lengths l and kind k at block g. -/
def IsT (base : Nat) (W : World) (g : Nat) (l : List Int) (k : Int) : Prop := ∃ (gc : Nat) (A : Option Addr) (cc : Nat),
  W.heap[g]? = some (.cells (tabOf k (.slice (some ⟨gc, 0, none⟩) l.length l.length) (fAt (cnt l l.length) 15) (upd (cnt l l.length) 0 0) (.slice A (symUp l 15).length cc)) 56 (0, 0)) ∧
  W.heap[gc]? = some (.cells (codeRow l.length (vOf l (bitsV l) l.length) (nOf l l.length)) 63 (0, 0)) ∧
  Kd.R (Kd.int .i64) 3 W base (fun _ => True) (.slice A (symUp l 15).length cc) (symUp l 15) ∧ base ≤ g ∧ base ≤ gc
/-- What New hands back. -/
def NewPost (l : List Int) (w : World) (e : Ending) (w' : World) : Prop := ∃ k er, KRes l k er ∧ Below w.heap.size w w' ∧
  ((er ≠ 0 ∧ e = .returned (.tuple #[.pointer none, .int .i64 er])) ∨ (er = 0 ∧ ∃ g, e = .returned (.tuple #[.pointer (some ⟨g, 0, none⟩), .int .i64 0]) ∧ IsT w.heap.size w' g l k))

set_option maxHeartbeats 1600000 in
set_option maxRecDepth 100000 in
theorem new_calls (A0 : Option Addr) (c0 : Nat) (l : List Int) (w : World) (hr0 : Kd.C (Kd.int .i64) w A0 l.length l) :
    Calls Try.prog 8 #[.slice A0 l.length c0] w fun e w' => NewPost l w e w' := by
  have HR0 := Aside0.mk hr0
  clear hr0
  go_enter Try.func8, Try.ntmps8
  go_wp2_with fail
  refine (check_calls A0 c0 l _ HR0.out).mono ?_
  rintro e w1 ⟨kd, er, rfl, hK, hB⟩
  have HB := Aside0.mk hB
  have HK := Aside0.mk hK
  clear hB hK
  by_cases h0 : er = 0
  · subst h0
    have HR1 := Aside0.mk (Kd.C_below HR0.out HB.out)
    have OK := Aside0.mk HK.out.okl
    have hl288 := OK.out.1
    have hmk := make63 l.length hl288
    go_wp2_with (first | ((with_reducible refine gate_dst (N := 26) rfl ?_); refine box_event ?hg (N := 26) ?hd (cs := tabOf kd (.slice (some ⟨w1.heap.size, 0, none⟩) l.length l.length) (fun _ => 0) (fun _ => 0) (.slice none 0 0)) (t := 56) ?hr ?_; (case hd => rfl); (case hg => rfl); (case hr => first | (go_simp; done) | (go_simp; rfl)); intro g hg w2 hbox hb; have BK := Aside0.mk hbox; have HB2 := Aside0.mk (below_step (below_alloc HB.out _) hb); have CK := Aside0.mk (blk_below (heap_alloc_new w1 (.cells (codeRow l.length (fun _ => 0) (fun _ => 0)) 63)) hb); have GE := Aside0.mk (show w.heap.size ≤ g by have := below_size HB.out; simp at hg; omega); have GC := Aside0.mk (below_size HB.out); clear hg hbox hb))
    generalize w1.heap.size = gc at BK CK GC ⊢
    have HR2 := Aside0.mk (Kd.C_below HR0.out HB2.out)
    refine (counts_calls A0 c0 l _ HR2.out).mono ?_
    rintro e w3 ⟨⟨f, b, rfl, hC⟩, hB⟩
    rcases hC with ⟨rfl, ok, rfl⟩ | ⟨rfl, nok⟩
    case inr => exact absurd OK.out nok
    clear ok
    obtain ⟨c, hc⟩ : ∃ c, cnt l l.length = c := ⟨_, rfl⟩
    have CR := Aside0.mk (fun j => (show 0 ≤ c j ∧ c j ≤ 288 from by have := hc ▸ cnt_range l l.length j; omega))
    rw [hc]
    have HC := Aside0.mk hc
    have BK3 := Aside0.mk (blk_below BK.out hB)
    have CK3 := Aside0.mk (blk_below CK.out hB)
    have HB3 := Aside0.mk (below_step HB2.out hB)
    clear hc hB BK CK HB2 hmk HB HR1 HR2
    have HTH := Aside0.mk (show w3.there g 18 16 from fun j hj => ⟨by rw [show w3.cell? ⟨g, 18 + j, none⟩ = some (.int .i64 0) from (blk_cell BK3.out (18 + j)).trans (tab_getC _ _ _ _ _ j hj)]; rfl, blk_frozen BK3.out (18 + j)⟩)
    go_wp2_with (refine wpList_store_mid rfl 54 _ _ rfl g 18 (rowOf 16 c) rfl rfl (by rw [rowOf_size]; exact HTH.out) (by rw [rowOf_size]; kernel_rfl) (rowOf_one 16 _) ?_; have BK4 := Aside0.mk (blk_setCells (rowOf 16 c).toList 18 w3 _ BK3.out); rw [tab_putC] at BK4; have CK4 := Aside0.mk ((blk_setCells_far (fun e => (blk_ne CK3.out BK3.out (by decide)) e) (rowOf 16 c).toList 18 w3).trans CK3.out); have HB4 := Aside0.mk (below_setCells GE.out (rowOf 16 c).toList 18 w3 HB3.out); generalize w3.setCells g 18 (rowOf 16 c).toList = w4 at BK4 CK4 HB4 ⊢; have zc : w4.cell? ⟨g, 18, none⟩ = some (.int .i64 (c 0)) := (blk_cell BK4.out 18).trans (tab_getC _ _ _ _ _ 0 (by omega)); have yc := blk_frozen BK4.out 18)
    clear zc yc HTH BK3 CK3 HB3
    have NC := Aside0.mk (blk_ne CK4.out BK4.out (by decide))
    obtain ⟨cv, hcv⟩ : ∃ cv, Value.slice (some ⟨gc, 0, none⟩) l.length l.length = cv := ⟨_, rfl⟩
    rw [hcv] at BK4
    have HCV := Aside0.mk hcv
    clear hcv
    go_loopw [7] (fun v7 wr => ∃ (k : Nat) (A : Option Addr) (cc : Nat), k ≤ 15 ∧ v7 = .int .i64 ((k : Int) + 1) ∧ Aside0 (wr.heap[g]? = some (.cells (tabOf kd cv (fAt c k) (upd c 0 0) (.slice A (symUp l k).length cc)) 56 (0, 0))) ∧ Aside0 (wr.heap[gc]? = some (.cells (codeRow l.length (fun _ => 0) (fun _ => 0)) 63 (0, 0))) ∧ Aside0 (Kd.R (Kd.int .i64) 3 wr w.heap.size (fun _ => True) (.slice A (symUp l k).length cc) (symUp l k)) ∧ Aside0 (Below w.heap.size w wr)) (fun v7 _ => 17 - (intOf v7).toNat)
    case atStart => exact ⟨0, none, 0, by omega, rfl, ⟨by rw [fAt_zero]; refine blk_put (cs := tabOf kd cv (fun _ => 0) c (.slice none 0 0)) ?_ 18 _ (tab_setC _ _ _ _ _ 0 0 (by omega)); exact BK4.out⟩, ⟨by refine blk_far ?_ (by exact NC.out) _; exact CK4.out⟩, ⟨Kd.R_nil _ _ _ _ _⟩, ⟨below_set HB4.out GE.out⟩⟩
    case round =>
      clear BK4 CK4 HB4
      obtain ⟨k, A, cc, hk, rfl, BK, CK, HO, HB⟩ := hrel
      by_cases hlt : k < 15
      · have d0 : decide ((k : Int) + 1 ≤ 15) = true := decide_eq_true (by omega)
        go_wp2
        go_loopw [45] (fun v45 wr => ∃ (i : Nat) (A : Option Addr) (cc : Nat), i ≤ l.length ∧ v45 = .int .i64 (i : Int) ∧ Aside0 (wr.heap[g]? = some (.cells (tabOf kd cv (fAt c k) (upd c 0 0) (.slice A (symUp l k ++ symRow l (k + 1) i).length cc)) 56 (0, 0))) ∧ Aside0 (wr.heap[gc]? = some (.cells (codeRow l.length (fun _ => 0) (fun _ => 0)) 63 (0, 0))) ∧ Aside0 (Kd.R (Kd.int .i64) 3 wr w.heap.size (fun _ => True) (.slice A (symUp l k ++ symRow l (k + 1) i).length cc) (symUp l k ++ symRow l (k + 1) i)) ∧ Aside0 (Below w.heap.size w wr)) (fun v45 _ => l.length - (intOf v45).toNat)
        case atStart => exact ⟨0, A, cc, by omega, rfl, ⟨by rw [symRow, List.append_nil]; exact BK.out⟩, CK, ⟨by rw [symRow, List.append_nil]; exact HO.out⟩, HB⟩
        case round =>
          clear BK CK HO HB
          obtain ⟨i, A, cc, hi, rfl, BK, CK, HO, HB⟩ := hrel
          by_cases hlt2 : i < l.length
          · have d1 : decide ((i : Int) < (l.length : Int)) = true := decide_eq_true (by omega)
            have p1 : 0 ≤ (i : Int) := by omega
            have q1 : (i : Int) < (l.length : Int) := by omega
            obtain ⟨ad, e1, hx0⟩ := Kd.at_int HR0.out (i : Int) p1 q1
            cases e1
            rw [Int.toNat_natCast] at hx0
            replace hx0 := (HB.out.cell (World.block_lt_of_cell? w _ hx0)).trans hx0
            obtain ⟨a, ha⟩ : ∃ a, rd l (i : Int) = a := ⟨_, rfl⟩
            rw [ha] at hx0
            have HA := Aside0.mk ha
            clear ha
            by_cases hit : a = (k : Int) + 1
            · have e2 : (a == (k : Int) + 1) = true := beq_iff_eq.mpr hit
              have HS := Aside0.mk (show symUp l k ++ symRow l (k + 1) (i + 1) = (symUp l k ++ symRow l (k + 1) i) ++ [(i : Int)] by rw [symRow, HA.out, if_pos (by omega), List.append_assoc])
              obtain ⟨xs, hxs⟩ : ∃ xs, symUp l k ++ symRow l (k + 1) i = xs := ⟨_, rfl⟩
              have HXL := Aside0.mk (show xs.length ≤ 15 * 288 + 288 by
                rw [← hxs, List.length_append]
                have h1 := symUp_len l k
                have h2 := symRow_len l (k + 1) i
                have h3 : k * l.length ≤ 15 * 288 := Nat.mul_le_mul (by omega) hl288
                omega)
              rw [hxs] at BK HO HS
              clear hxs
              have zs : wr.cell? ⟨g, 34, none⟩ = some (.slice A xs.length cc) := (blk_cell BK.out 34).trans rfl
              have ys := blk_frozen BK.out 34
              go_wp2_with (first | ((with_reducible refine gate_builtin (b := .append) (xs := #[.tmp 57, .tmp 59]) rfl ?_); at_builtin; refine Kd.R_append (Kd.int .i64) (w0 := w) w.heap.size rfl (.tmp 57) (.tmp 59) 22 3 (.int .i64 0) 8 rfl Try.underlying22 XPrefixReads.info3 rfl (by decide) (by omega) (.slice A xs.length cc) xs (i : Int) [.int .i64 (i : Int)] (fun _ => True) (fun _ => False) rfl rfl ?aP (fun _ hk => hk.elim) ?aF ?aO ?aB ?aS ?aL ?_; (case aP => exact rfl); (case aB => exact HB.out); (case aF => exact (fun _ _ => trivial)); (case aO => exact HO.out); (case aS => exact below_size HB.out); (case aL => have := HXL.out; omega); intro v1 w7 ho hb hg hat; obtain ⟨A1, cc1, rfl⟩ := Kd.R_slice ho; have BK7 := Aside0.mk ((hg.block g (blk_lt BK.out) (Kd.R_ne HO.out BK.out (by decide))).trans BK.out); have CK7 := Aside0.mk ((hg.block gc (blk_lt CK.out) (Kd.R_ne HO.out CK.out (by decide))).trans CK.out); have HO7 := Aside0.mk ho; have HB7 := Aside0.mk hb; clear ho hb hg hat; have zs7 : w7.cell? ⟨g, 34, none⟩ = some (.slice A xs.length cc) := (blk_cell BK7.out 34).trans rfl; have ys7 := blk_frozen BK7.out 34))
              go_roundw
              case rel => exact ⟨i + 1, A1, cc1, by omega, by go_num, ⟨by rw [HS.out, List.length_append, List.length_singleton]; refine blk_put (cs := tabOf kd cv (fAt c k) (upd c 0 0) (.slice A xs.length cc)) ?_ 34 _ (tab_setS _ _ _ _ _ _); exact BK7.out⟩, ⟨by refine blk_far ?_ (by exact NC.out) _; exact CK7.out⟩, ⟨by have h7 := HO7.out; rw [List.length_append, List.length_singleton] at h7; rw [HS.out, List.length_append, List.length_singleton]; refine R_far_ty ?_ BK7.out (by decide) _ _; exact h7⟩, ⟨below_set HB7.out GE.out⟩⟩
              case measure => simp [intOf]; omega
            · have e2 : (a == (k : Int) + 1) = false := beq_eq_false_iff_ne.mpr hit
              have HS := Aside0.mk (show symUp l k ++ symRow l (k + 1) (i + 1) = (symUp l k ++ symRow l (k + 1) i) by rw [symRow, HA.out, if_neg (by omega), List.append_nil])
              go_wp2
              go_roundw
              case rel => exact ⟨i + 1, A, cc, by omega, by go_num, ⟨by rw [HS.out]; exact BK.out⟩, CK, ⟨by rw [HS.out]; exact HO.out⟩, HB⟩
              case measure => simp [intOf]; omega
          · have hk2 : i = l.length := by omega
            subst hk2
            have d1 : decide ((l.length : Int) < (l.length : Int)) = false := decide_eq_false (by omega)
            have HS := Aside0.mk (show symUp l (k + 1) = symUp l k ++ symRow l (k + 1) l.length from rfl)
            by_cases hk0 : k = 0
            · subst hk0
              have d2 : decide ((1 : Int) < ((0 : Nat) : Int) + 1) = false := by decide
              go_wp2
              go_roundw
              case rel => exact ⟨1, A, cc, by omega, by go_num, ⟨by rw [HS.out, fAt_one]; exact BK.out⟩, CK, ⟨by rw [HS.out]; exact HO.out⟩, HB⟩
              case measure => first | (simp [intOf]; done) | (simp [intOf]; omega)
            · have d2 : decide ((1 : Int) < (k : Int) + 1) = true := decide_eq_true (by omega)
              have p1 : 0 ≤ (k : Int) := by omega
              have q1 : (k : Int) < 16 := by omega
              have p2 : 0 ≤ (k : Int) + 1 := by omega
              have q2 : (k : Int) + 1 < 16 := by omega
              have zf : wr.cell? ⟨g, 2 + k, none⟩ = some (.int .i64 (nx c k)) := (blk_cell BK.out (2 + k)).trans ((tab_getF _ _ _ _ _ k (by omega)).trans (by rw [fAt, if_pos (by omega)]))
              have zc : wr.cell? ⟨g, 18 + k, none⟩ = some (.int .i64 (c k)) := (blk_cell BK.out (18 + k)).trans ((tab_getC _ _ _ _ _ k (by omega)).trans (by rw [upd, if_neg hk0]))
              have zs : wr.cell? ⟨g, 2 + (k + 1), none⟩ = some (.int .i64 (fAt c k (k + 1))) := (blk_cell BK.out (2 + (k + 1))).trans (tab_getF _ _ _ _ _ (k + 1) (by omega))
              have ys := blk_frozen BK.out (2 + (k + 1))
              have r1 := CR.out k
              have r2 := nx_le c CR.out k (by omega)
              have HG := Aside0.mk ((tab_setF kd cv (fAt c k) (upd c 0 0) (.slice A (symUp l k ++ symRow l (k + 1) l.length).length cc) (2 * (nx c k + c k)) (k + 1) (by omega)).trans (by rw [fAt_step c k (by omega)]))
              obtain ⟨x, hx⟩ : ∃ x, c k = x := ⟨_, rfl⟩
              obtain ⟨y, hy⟩ : ∃ y, nx c k = y := ⟨_, rfl⟩
              rw [hx] at zc r1 HG
              rw [hy] at zf r2 HG
              clear hx hy
              go_wp2
              go_region
              all_goals
                go_wp2
                go_roundw
                case rel => exact ⟨k + 1, A, cc, by omega, by go_num, ⟨by refine blk_drew ?_; rw [HS.out]; refine blk_put (cs := tabOf kd cv (fAt c k) (upd c 0 0) (.slice A (symUp l k ++ symRow l (k + 1) l.length).length cc)) ?_ (2 + (k + 1)) _ (by rw [Int.mul_comm]; exact HG.out); exact BK.out⟩, ⟨by refine blk_drew ?_; refine blk_far ?_ (by exact NC.out) _; exact CK.out⟩, ⟨by rw [HS.out]; apply Kd.R_drew; refine R_far_ty ?_ BK.out (by decide) _ _; exact HO.out⟩, ⟨by apply below_drew1; exact below_set HB.out GE.out⟩⟩
                case measure => simp [intOf]; omega
      · have hk15 : k = 15 := by omega
        subst hk15
        have d0 : decide (((15 : Nat) : Int) + 1 ≤ 15) = false := by decide
        have HR4 := Aside0.mk (Kd.C_below HR0.out HB.out)
        go_wp2_with fail
        refine (codes_calls A0 c0 l _ HR4.out OK.out).mono ?_
        rintro e w5 ⟨vo, rfl, hR, hB⟩
        obtain ⟨Ao, co, rfl⟩ := Kd.R_slice hR
        obtain ⟨eo, _, _⟩ := Kd.R_reads' hR
        rw [codL, listOf_len] at hR
        have HRo := Aside0.mk (Kd.R_lower hR (below_size HB.out))
        have BK5 := Aside0.mk (blk_below BK.out hB)
        have CK5 := Aside0.mk (blk_below CK.out hB)
        have HO5 := Aside0.mk (Kd.R_below HO.out hB)
        have HB5 := Aside0.mk (below_step HB.out hB)
        rw [codL, listOf_len]
        clear hR hB BK CK HO HB HR4 eo
        go_wp2_with fail
        go_loopw [90] (fun v90 wr => ∃ (i : Nat), i ≤ l.length ∧ v90 = .int .i64 (i : Int) ∧ Aside0 (wr.heap[g]? = some (.cells (tabOf kd cv (fAt c 15) (upd c 0 0) (.slice A (symUp l 15).length cc)) 56 (0, 0))) ∧ Aside0 (wr.heap[gc]? = some (.cells (codeRow l.length (vOf l (bitsV l) i) (nOf l i)) 63 (0, 0))) ∧ Aside0 (Kd.R (Kd.int .i64) 3 wr w.heap.size (fun _ => True) (.slice A (symUp l 15).length cc) (symUp l 15)) ∧ Aside0 (Kd.R (Kd.int .i64) 3 wr w.heap.size (fun _ => True) (.slice Ao l.length co) (listOf l.length (cod l))) ∧ Aside0 (Below w.heap.size w wr)) (fun v90 _ => l.length - (intOf v90).toNat)
        case atStart => exact ⟨0, by omega, rfl, BK5, CK5, HO5, HRo, HB5⟩
        case round =>
          clear BK5 CK5 HO5 HRo HB5
          obtain ⟨i, hi, rfl, BK, CK, HO, HRo, HB⟩ := hrel
          by_cases hlt2 : i < l.length
          · have d1 : decide ((i : Int) < (l.length : Int)) = true := decide_eq_true (by omega)
            have p1 : 0 ≤ (i : Int) := by omega
            have q1 : (i : Int) < (l.length : Int) := by omega
            obtain ⟨ad, e1, hx0⟩ := Kd.at_int HR0.out (i : Int) p1 q1
            cases e1
            rw [Int.toNat_natCast] at hx0
            replace hx0 := (HB.out.cell (World.block_lt_of_cell? w _ hx0)).trans hx0
            obtain ⟨ga, ca, ea, _, _, _, _⟩ := Kd.R_form HRo.out (by rw [listOf_len]; omega)
            rw [listOf_len] at ea
            cases ea
            obtain ⟨hxo, _⟩ := Kd.R_celln 0 HRo.out (i : Int) p1 q1
            rw [Int.toNat_natCast] at hxo
            replace hxo : wr.cell? ⟨ga, i, none⟩ = some (.int .i64 (cod l i)) := hxo.trans (by rw [← rd_listOf l.length (cod l) i hlt2]; rfl)
            obtain ⟨h0, h15⟩ := OK.out.2 i hlt2
            obtain ⟨a, ha⟩ : ∃ a, rd l (i : Int) = a := ⟨_, rfl⟩
            rw [ha] at hx0 h0 h15
            have HA := Aside0.mk ha
            have hcb := cod_range l i OK.out hlt2
            obtain ⟨x, hx⟩ : ∃ x, cod l i = x := ⟨_, rfl⟩
            rw [hx] at hxo hcb
            have HX := Aside0.mk hx
            obtain ⟨r, hr⟩ := rev_some x
            have HRV := Aside0.mk hr
            have zs : wr.cell? ⟨g, 1, none⟩ = some (.slice (some ⟨gc, 0, none⟩) l.length l.length) := (blk_cell BK.out 1).trans (by rw [HCV.out]; rfl)
            have zg0 : wr.cell? ⟨gc, i * 2, none⟩ = some (.int .u32 (vOf l (bitsV l) i i)) := (blk_cell CK.out (i * 2)).trans (codeRow_get0 _ _ _ _ hlt2)
            have zg1 : wr.cell? ⟨gc, i * 2 + 1, none⟩ = some (.int .i64 (nOf l i i)) := (blk_cell CK.out (i * 2 + 1)).trans (codeRow_get1 _ _ _ _ hlt2)
            have y0 := blk_frozen CK.out (i * 2)
            have y1 := blk_frozen CK.out (i * 2 + 1)
            have s1 : IntKind.u32.wrap x = x := by rw [IntKind.wrap_u32]; omega
            have s2 : ¬ (32 - a) < 0 := by omega
            have s3 : ¬ 32 < a := by omega
            have s4 : 0 ≤ 32 - a := by omega
            have s5 : IntKind.i64.wrap (32 - a) = 32 - a := by rw [i64_w]; unfold wrap64; omega
            clear ha hx hr
            go_wp2_with fail
            go_region_law ((go_simp; go_at_call 27; refine (XPrefixReads.bits_Reverse32.calls x r _ HRV.out).mono ?_; rintro e w6 ⟨rfl, ⟨m, rfl⟩⟩))
            all_goals
              have n1 := Aside0.mk (blk_drewN BK.out (1 + m))
              have n2 := Aside0.mk (blk_drewN CK.out (1 + m))
              have n3 := Aside0.mk (Kd.R_drewN HO.out (1 + m))
              have n4 := Aside0.mk (Kd.R_drewN HRo.out (1 + m))
              have n5 := Aside0.mk (pw_below_drewN HB.out (1 + m))
              clear BK CK HO HRo HB
              have n6 := Aside0.mk (blk_set n2.out (i * 2) (.int .u32 (r / 2 ^ (32 - a).toNat)))
              have BK := Aside0.mk (show (((wr.drewN (1 + m)).setCell ⟨gc, i * 2, none⟩ (.int .u32 (r / 2 ^ (32 - a).toNat))).setCell ⟨gc, i * 2 + 1, none⟩ (.int .i64 a)).heap[g]? = some (.cells (tabOf kd cv (fAt c 15) (upd c 0 0) (.slice A (symUp l 15).length cc)) 56 (0, 0)) from by refine blk_far ?_ (by exact fun e => NC.out e.symm) _; refine blk_far ?_ (by exact fun e => NC.out e.symm) _; exact n1.out)
              have CK := Aside0.mk (show (((wr.drewN (1 + m)).setCell ⟨gc, i * 2, none⟩ (.int .u32 (r / 2 ^ (32 - a).toNat))).setCell ⟨gc, i * 2 + 1, none⟩ (.int .i64 a)).heap[gc]? = some (.cells (codeRow l.length (upd (vOf l (bitsV l) i) i (r / 2 ^ (32 - a).toNat)) (upd (nOf l i) i a)) 63 (0, 0)) from by rw [← codeRow_set]; exact blk_set n6.out _ _)
              have HO := Aside0.mk (show Kd.R (Kd.int .i64) 3 (((wr.drewN (1 + m)).setCell ⟨gc, i * 2, none⟩ (.int .u32 (r / 2 ^ (32 - a).toNat))).setCell ⟨gc, i * 2 + 1, none⟩ (.int .i64 a)) w.heap.size (fun _ => True) (.slice A (symUp l 15).length cc) (symUp l 15) from R_far_ty (R_far_ty n3.out n2.out (by decide) _ _) n6.out (by decide) _ _)
              have HRo := Aside0.mk (show Kd.R (Kd.int .i64) 3 (((wr.drewN (1 + m)).setCell ⟨gc, i * 2, none⟩ (.int .u32 (r / 2 ^ (32 - a).toNat))).setCell ⟨gc, i * 2 + 1, none⟩ (.int .i64 a)) w.heap.size (fun _ => True) (.slice (some ⟨ga, 0, none⟩) l.length co) (listOf l.length (cod l)) from R_far_ty (R_far_ty n4.out n2.out (by decide) _ _) n6.out (by decide) _ _)
              have HB := Aside0.mk (show Below w.heap.size w (((wr.drewN (1 + m)).setCell ⟨gc, i * 2, none⟩ (.int .u32 (r / 2 ^ (32 - a).toNat))).setCell ⟨gc, i * 2 + 1, none⟩ (.int .i64 a)) from below_set (below_set n5.out GC.out) GC.out)
              clear n1 n2 n3 n4 n5 n6 zs zg0 zg1 y0 y1
              generalize ((wr.drewN (1 + m)).setCell ⟨gc, i * 2, none⟩ (.int .u32 (r / 2 ^ (32 - a).toNat))).setCell ⟨gc, i * 2 + 1, none⟩ (.int .i64 a) = w8 at BK CK HO HRo HB ⊢
              by_cases ha0 : a = 0
              · subst ha0
                have e0 : ((0 : Int) == 0) = true := rfl
                have zs : w8.cell? ⟨g, 1, none⟩ = some (.slice (some ⟨gc, 0, none⟩) l.length l.length) := (blk_cell BK.out 1).trans (by rw [HCV.out]; rfl)
                have zg0 : w8.cell? ⟨gc, i * 2, none⟩ = some (.int .u32 _) := (blk_cell CK.out (i * 2)).trans (codeRow_get0 _ _ _ _ hlt2)
                have zg1 : w8.cell? ⟨gc, i * 2 + 1, none⟩ = some (.int .i64 _) := (blk_cell CK.out (i * 2 + 1)).trans (codeRow_get1 _ _ _ _ hlt2)
                have y0 := blk_frozen CK.out (i * 2)
                have y1 := blk_frozen CK.out (i * 2 + 1)
                have n6 := Aside0.mk (blk_set CK.out (i * 2) (.int .u32 0))
                have HV := Aside0.mk (row_miss l i r HA.out)
                go_wp2
                go_roundw
                case rel => exact ⟨i + 1, by omega, by go_num, ⟨by refine blk_far ?_ (by exact fun e => NC.out e.symm) _; refine blk_far ?_ (by exact fun e => NC.out e.symm) _; exact BK.out⟩, ⟨by rw [← HV.out, ← codeRow_set]; exact blk_set n6.out _ _⟩, ⟨R_far_ty (R_far_ty HO.out CK.out (by decide) _ _) n6.out (by decide) _ _⟩, ⟨R_far_ty (R_far_ty HRo.out CK.out (by decide) _ _) n6.out (by decide) _ _⟩, ⟨below_set (below_set HB.out GC.out) GC.out⟩⟩
                case measure => simp [intOf]; omega
              · have e0 : (a == 0) = false := beq_eq_false_iff_ne.mpr ha0
                have HV := Aside0.mk (row_hit l i a r HA.out ha0 (by rw [HX.out]; exact HRV.out))
                go_wp2
                go_roundw
                case rel => exact ⟨i + 1, by omega, by go_num, BK, ⟨by rw [← HV.out]; exact CK.out⟩, HO, HRo, HB⟩
                case measure => simp [intOf]; omega
          · have hk2 : i = l.length := by omega
            subst hk2
            have d1 : decide ((l.length : Int) < (l.length : Int)) = false := decide_eq_false (by omega)
            go_wp2
            go_ret2
            exact ⟨kd, 0, HK.out, HB.out, .inr ⟨rfl, g, rfl, gc, A, cc, by rw [HCV.out, HC.out]; exact BK.out, CK.out, HO.out, GE.out, GC.out⟩⟩
  · have e1 : (er != 0) = true := bne_iff_ne.mpr h0
    have e2 : (er == 0) = false := beq_eq_false_iff_ne.mpr h0
    go_wp2
    go_ret2
    exact ⟨kd, er, HK.out, HB.out, .inl ⟨h0, rfl⟩⟩

end Go.Proofs.Ytiemjhoadobigaa.XPrefix
