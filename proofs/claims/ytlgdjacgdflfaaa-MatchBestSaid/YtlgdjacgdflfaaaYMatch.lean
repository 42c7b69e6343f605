/- match.finder: what its functions do to a finder and its rows. It has no conditions. -/
import Derived.Test.YtlgdjacgdflfaaaXMatchTokensx
import Derived.BigRegion
import Derived.RegionTactic
import Derived.ChangeAlike
import Derived.Deep.RegionWith
import Derived.Deep.RegionLaw
import Derived.Laws.Tables
import Derived.Deep.QuietTactic
import Derived.BigQuiet
import Derived.Deep.RegionHeld3
import Derived.Deep.AppendLies
import Derived.Deep.DrawnRows
namespace Go.Proofs.Ytlgdjacgdflfaaa.XMatchTokens
set_option linter.unusedVariables false
set_option linter.unusedSimpArgs false
open Go.RowKit Go.Proofs.YtlgdjacgdflfaaaW.PrintWords Go.Proofs.YtlgdjacgdflfaaaW.PrintLast Go.Proofs.YtlgdjacgdflfaaaW.PrintMore
attribute [local go_sem] max2_int min2_int max_two min_two max_three min_three max_four min_four
attribute [local go_sem ↓] Go.wp_at_zero Go.wp_at_succ

/-- A row of numbers. -/
def rowOf (n : Nat) (f : Nat → Int) : Array Value := ((List.range n).map fun i => Value.int .i64 (f i)).toArray
theorem rowOf_get (n : Nat) (f : Nat → Int) (i : Nat) (h : i < n) : (rowOf n f)[i]? = some (.int .i64 (f i)) := by
  unfold rowOf
  rw [List.getElem?_toArray, List.getElem?_map, List.getElem?_range h]
  rfl
def upd (f : Nat → Int) (i : Nat) (x : Int) : Nat → Int := fun j => if j = i then x else f j
theorem rowOf_set (n : Nat) (f : Nat → Int) (i : Nat) (x : Int) : (rowOf n f).setIfInBounds i (.int .i64 x) = rowOf n (upd f i x) := by
  apply Array.ext'
  apply List.ext_getElem
  · simp [rowOf]
  · intro j h1 h2
    simp [rowOf] at h1 h2
    simp [rowOf, upd, List.getElem_set]
    by_cases h : i = j
    · subst h; simp
    · rw [if_neg h, if_neg (fun e => h e.symm)]
theorem rowOf_made (m : Nat) : madeCells #[Value.int .i64 0] m = rowOf m (fun _ => 0) := by
  apply Array.ext'
  have hl : (madeCells #[Value.int .i64 0] m).toList = nums .i64 (List.replicate m 0) := by
    apply List.ext_getElem
    · simp [nums, madeCells]
    · intro i h1 h2
      simp [nums, madeCells, Nat.mod_one]
  rw [hl]
  apply List.ext_getElem
  · simp [nums, rowOf]
  · intro i h1 h2
    simp [nums, rowOf]

/-- A finder at block g, its rows at gl and ga. -/
def FS (w0 W : World) (g gl ga : Nat) (S : ByteArray) (tries : Int) (LL AA : Nat → Int) : Prop :=
  W.heap[g]? = some (.cells #[.string S, .slice (some ⟨gl, 0, none⟩) 32768 32768, .slice (some ⟨ga, 0, none⟩) S.size S.size, .int .i64 tries] 100 (0, 0)) ∧ W.heap[gl]? = some (.cells (rowOf 32768 LL) 3 (0, 0)) ∧ W.heap[ga]? = some (.cells (rowOf S.size AA) 3 (0, 0)) ∧ gl ≠ ga ∧ w0.heap.size ≤ g ∧ w0.heap.size ≤ gl ∧ w0.heap.size ≤ ga
theorem FS.drewN {w0 W : World} {g gl ga : Nat} {S : ByteArray} {tries : Int} {LL AA : Nat → Int} (h : FS w0 W g gl ga S tries LL AA) (m : Nat) : FS w0 (W.drewN m) g gl ga S tries LL AA := h
theorem FS.below {w0 W W1 : World} {g gl ga : Nat} {S : ByteArray} {tries : Int} {LL AA : Nat → Int} (h : FS w0 W g gl ga S tries LL AA) (hb : Below W.heap.size W W1) : FS w0 W1 g gl ga S tries LL AA :=
  ⟨blk_below h.1 hb, blk_below h.2.1 hb, blk_below h.2.2.1 hb, h.2.2.2⟩

/-- What three bytes hash to. -/
def hv (S : ByteArray) (p : Nat) : Int :=
  (((Go.bits .or .u32 (Go.bits .or .u32 ((bt S (p : Int)) % 4294967296) ((((bt S ((p + 1 : Nat) : Int)) % 4294967296) * 256) % 4294967296)) ((((bt S ((p + 2 : Nat) : Int)) % 4294967296) * 65536) % 4294967296)) * 2654435761) % 4294967296) / 131072
theorem hv_range (S : ByteArray) (p : Nat) : 0 ≤ hv S p ∧ hv S p < 32768 := by
  unfold hv
  omega
set_option maxHeartbeats 800000 in
set_option maxRecDepth 100000 in
theorem hash_quiet (w0 : World) (g gl ga : Nat) (S : ByteArray) (tries : Int) (LL AA : Nat → Int) (p : Nat) (hp : p + 3 ≤ S.size) (hS : S.size ≤ 4194304) (w : World) (hI : FS w0 w g gl ga S tries LL AA) :
    Calls Try.prog 69 #[.pointer (some ⟨g, 0, none⟩), .int .i64 (p : Int)] w fun e w' => e = .returned (.int .i64 (hv S p)) ∧ ∃ m, w' = w.drewN m := by
  have hc0 : w.cell? ⟨g, 0, none⟩ = some (.string S) := (blk_cell hI.1 0).trans rfl
  clear hI
  obtain ⟨a, ha⟩ : ∃ a : Int, (p : Int) = a := ⟨_, rfl⟩
  obtain ⟨j1, hj1⟩ : ∃ a : Int, ((p + 1 : Nat) : Int) = a := ⟨_, rfl⟩
  obtain ⟨j2, hj2⟩ : ∃ a : Int, ((p + 2 : Nat) : Int) = a := ⟨_, rfl⟩
  have hw1 : IntKind.i64.wrap (a + 1) = j1 := by rw [i64_w]; unfold wrap64; omega
  have hw2 : IntKind.i64.wrap (a + 2) = j2 := by rw [i64_w]; unfold wrap64; omega
  have p5 := eq_true (show 0 ≤ a by omega)
  have q5 := eq_true (show a < (S.size : Int) by omega)
  have p9 := eq_true (show 0 ≤ j1 by omega)
  have q9 := eq_true (show j1 < (S.size : Int) by omega)
  have p13 := eq_true (show 0 ≤ j2 by omega)
  have q13 := eq_true (show j2 < (S.size : Int) by omega)
  have hx5 := bt_at S a
  have hx9 := bt_at S j1
  have hx13 := bt_at S j2
  have HV := Aside0.mk (show hv S p = (((Go.bits .or .u32 (Go.bits .or .u32 ((bt S a) % 4294967296) ((((bt S j1) % 4294967296) * 256) % 4294967296)) ((((bt S j2) % 4294967296) * 65536) % 4294967296)) * 2654435761) % 4294967296) / 131072 from by unfold hv; rw [ha, hj1, hj2])
  rw [ha]
  clear ha hj1 hj2 hp hS
  go_enter Try.func69, Try.ntmps69
  go_wp2
  repeat (go_quiet (fail); try go_wp2)
  go_ret
  exact ⟨by rw [HV.out]; rfl, _, rfl⟩

/-- The row that is changed, and the others. -/
def FR (w w' : World) (gl ga : Nat) : Prop := w.heap.size ≤ w'.heap.size ∧ ∀ k, k < w.heap.size → k ≠ gl → k ≠ ga → w'.heap[k]? = w.heap[k]?
def entL (S : ByteArray) (p : Nat) (LL : Nat → Int) : Nat → Int := if p + 3 ≤ S.size then upd LL (hv S p).toNat p else LL
def entA (S : ByteArray) (p : Nat) (LL AA : Nat → Int) : Nat → Int := if p + 3 ≤ S.size then upd AA p (LL (hv S p).toNat) else AA
set_option maxHeartbeats 1600000 in
set_option maxRecDepth 100000 in
theorem enter_walk (w0 : World) (g gl ga : Nat) (S : ByteArray) (tries : Int) (LL AA : Nat → Int) (p : Nat) (hp : p < S.size) (hS : S.size ≤ 4194304) (w : World) (hI : FS w0 w g gl ga S tries LL AA) (hB : Below w0.heap.size w0 w) :
    Calls Try.prog 49 #[.pointer (some ⟨g, 0, none⟩), .int .i64 (p : Int)] w fun e w' => e = .returned (.tuple #[]) ∧ FS w0 w' g gl ga S tries (entL S p LL) (entA S p LL AA) ∧ FR w w' gl ga ∧ Below w0.heap.size w0 w' := by
  have HI := Aside0.mk hI
  have HB := Aside0.mk hB
  have hc0 : w.cell? ⟨g, 0, none⟩ = some (.string S) := (blk_cell hI.1 0).trans rfl
  clear hI hB
  by_cases h3 : p + 3 ≤ S.size
  · have d0 : decide ((p : Int) + 3 ≤ (S.size : Int)) = true := decide_eq_true (by omega)
    have HH := Aside0.mk (hash_quiet w0 g gl ga S tries LL AA p h3 hS w HI.out)
    have hr := hv_range S p
    obtain ⟨h, hh⟩ : ∃ h : Nat, hv S p = (h : Int) := ⟨(hv S p).toNat, by omega⟩
    rw [hh] at HH hr
    have EL := Aside0.mk (show entL S p LL = upd LL h p by unfold entL; rw [if_pos h3, hh, Int.toNat_natCast])
    have EA := Aside0.mk (show entA S p LL AA = upd AA p (LL h) by unfold entA; rw [if_pos h3, hh, Int.toNat_natCast])
    have H3 := Aside0.mk h3
    have H4 := Aside0.mk hp
    have b3 : 0 ≤ (p : Int) := by omega
    have b4 : (p : Int) < (S.size : Int) := by omega
    have b5 : (p : Int) ≤ 4194304 := by omega
    clear h3 hh hp
    go_enter Try.func49, Try.ntmps49
    go_wp2_with fail
    refine HH.out.mono ?_
    rintro e w1 ⟨rfl, m, rfl⟩
    have hc1 : w.cell? ⟨g, 1, none⟩ = some (.slice (some ⟨gl, 0, none⟩) 32768 32768) := (blk_cell HI.out.1 1).trans rfl
    have hc2 : w.cell? ⟨g, 2, none⟩ = some (.slice (some ⟨ga, 0, none⟩) S.size S.size) := (blk_cell HI.out.1 2).trans rfl
    have hcl : w.cell? ⟨gl, h, none⟩ = some (.int .i64 (LL h)) := (blk_cell HI.out.2.1 h).trans (rowOf_get _ _ _ (by omega))
    have hca : w.cell? ⟨ga, p, none⟩ = some (.int .i64 (AA p)) := (blk_cell HI.out.2.2.1 p).trans (rowOf_get _ _ _ H4.out)
    have hfl := blk_frozen HI.out.2.1 h
    have hfa := blk_frozen HI.out.2.2.1 p
    have b1 : 0 ≤ (h : Int) := by omega
    have b2 : (h : Int) < 32768 := by omega
    have n1 : gl ≠ ga := HI.out.2.2.2.1
    have n2 : ga ≠ gl := HI.out.2.2.2.1.symm
    have n3 := blk_ne HI.out.1 HI.out.2.1 (by decide)
    have n4 := blk_ne HI.out.1 HI.out.2.2.1 (by decide)
    go_wp2_with fail
    go_region
    all_goals
      first | go_end0 | ((try simp only [Exit.inBlock, Exit.then]); refine bodyPost_ret (results_none rfl _ _ _) rfl ?_)
      rw [EL.out, EA.out]
      refine ⟨rfl, ⟨?_, ?_, ?_, HI.out.2.2.2⟩, ⟨?_, fun k hk hk1 hk2 => ?_⟩, ?_⟩
      · exact blk_far (blk_far HI.out.1 n4 _) n3 _
      · rw [← rowOf_set]; exact blk_set (blk_far HI.out.2.1 n1 _) h _
      · rw [← rowOf_set]; exact blk_far (blk_set HI.out.2.2.1 p _) n2 _
      · simp [World.setCell]
      · exact (Below.heap_setCell _ _ _ k hk1).trans (Below.heap_setCell _ _ _ k hk2)
      · exact below_set (below_set (pw_below_drewN HB.out _) HI.out.2.2.2.2.2.2) HI.out.2.2.2.2.2.1
  · have d0 : decide ((p : Int) + 3 ≤ (S.size : Int)) = false := decide_eq_false (by omega)
    have EL := Aside0.mk (show entL S p LL = LL from if_neg h3)
    have EA := Aside0.mk (show entA S p LL AA = AA from if_neg h3)
    have b3 : 0 ≤ (p : Int) := by omega
    have b5 : (p : Int) ≤ 4194304 := by omega
    go_enter Try.func49, Try.ntmps49
    go_wp2
    first | go_end0 | ((try simp only [Exit.inBlock, Exit.then]); refine bodyPost_ret (results_none rfl _ _ _) rfl ?_)
    exact ⟨rfl, by rw [EL.out, EA.out]; exact HI.out, ⟨Nat.le_refl _, fun _ _ _ _ => rfl⟩, HB.out⟩

/-- How many bytes from two places on are the same. -/
def sm (S : ByteArray) (a b : Nat) : Nat → Nat → Nat
  | 0, n => n
  | f + 1, n => if n < 258 ∧ a + n < S.size ∧ bt S ((a + n : Nat) : Int) = bt S ((b + n : Nat) : Int) then sm S a b f (n + 1) else n
def sameN (S : ByteArray) (a b : Nat) : Nat := sm S a b 258 0
theorem sm_spec (S : ByteArray) (a b : Nat) : ∀ f n, n ≤ sm S a b f n ∧ sm S a b f n ≤ n + f ∧ (∀ i, n ≤ i → i < sm S a b f n → a + i < S.size ∧ bt S ((a + i : Nat) : Int) = bt S ((b + i : Nat) : Int)) ∧ (sm S a b f n < n + f → ¬ (sm S a b f n < 258 ∧ a + sm S a b f n < S.size ∧ bt S ((a + sm S a b f n : Nat) : Int) = bt S ((b + sm S a b f n : Nat) : Int))) := by
  intro f
  induction f with
  | zero => intro n; exact ⟨Nat.le_refl _, Nat.le_refl _, fun i h1 h2 => absurd h2 (by simp only [sm]; omega), fun h => absurd h (by simp only [sm]; omega)⟩
  | succ f ih =>
    intro n
    simp only [sm]
    split
    · rename_i h
      obtain ⟨h1, h2, h3, h4⟩ := ih (n + 1)
      refine ⟨by omega, by omega, fun i hi1 hi2 => ?_, fun hh => h4 (by omega)⟩
      by_cases e : i = n
      · subst e; exact ⟨h.2.1, h.2.2⟩
      · exact h3 i (by omega) hi2
    · rename_i h
      exact ⟨Nat.le_refl _, by omega, fun i h1 h2 => by omega, fun _ => h⟩
theorem same_ev (S : ByteArray) (a b : Nat) (hb : b < a) (hS : S.size ≤ 4194304) (ha : a ≤ S.size) : Ev (fun k => match_same.f k S (a : Int) (b : Int)) ((sameN S a b : Nat) : Int) := by
  have key : ∀ f n : Nat, n + f = 258 → Ev (fun k => match_same.l0 k S (a : Int) (b : Int) (n : Int)) ((sm S a b f n : Nat) : Int) := by
    intro f
    induction f with
    | zero =>
      intro n hn
      refine Ev.step (f := fun _ => some ((n : Nat) : Int)) (fun k => ?_) (Ev.now _)
      simp only [match_same.l0]
      rw [if_neg (by omega)]
    | succ f ih =>
      intro n hn
      have w1 : wrap64 ((a : Int) + n) = ((a + n : Nat) : Int) := by unfold wrap64; omega
      have w2 : wrap64 ((b : Int) + n) = ((b + n : Nat) : Int) := by unfold wrap64; omega
      have w3 : wrap64 ((n : Int) + 1) = ((n + 1 : Nat) : Int) := by unfold wrap64; omega
      by_cases h1 : a + n < S.size
      · by_cases h2 : bt S ((a + n : Nat) : Int) = bt S ((b + n : Nat) : Int)
        · have e : sm S a b (f + 1) n = sm S a b f (n + 1) := by simp only [sm]; rw [if_pos ⟨by omega, h1, h2⟩]
          rw [e]
          refine Ev.step (fun k => ?_) (ih (n + 1) (by omega))
          simp only [match_same.l0]
          rw [if_pos (by omega), w1, if_pos (by omega), if_pos (by omega), w2, if_pos (by omega), if_pos (by omega), if_pos h2, w3]
        · have e : sm S a b (f + 1) n = n := by simp only [sm]; rw [if_neg (fun h => h2 h.2.2)]
          rw [e]
          refine Ev.step (f := fun _ => some ((n : Nat) : Int)) (fun k => ?_) (Ev.now _)
          simp only [match_same.l0]
          rw [if_pos (by omega), w1, if_pos (by omega), if_pos (by omega), w2, if_pos (by omega), if_pos (by omega), if_neg h2]
      · have e : sm S a b (f + 1) n = n := by simp only [sm]; rw [if_neg (fun h => h1 h.2.1)]
        rw [e]
        refine Ev.step (f := fun _ => some ((n : Nat) : Int)) (fun k => ?_) (Ev.now _)
        simp only [match_same.l0]
        rw [if_pos (by omega), w1, if_neg (by omega)]
  exact key 258 0 rfl

/-- The search of a finder. -/
def findl (S : ByteArray) (AA : Nat → Int) (p : Nat) : Nat → Int → Nat → Nat → Nat × Nat
  | 0, _, lo, ba => (lo, ba)
  | t + 1, be, lo, ba => if be < (if (p : Int) - 32768 < 0 then 0 else (p : Int) - 32768) then (lo, ba) else
      if lo < sameN S p be.toNat then findl S AA p t (AA be.toNat) (sameN S p be.toNat) (p - be.toNat) else findl S AA p t (AA be.toNat) lo ba
def find (S : ByteArray) (tries : Nat) (LL AA : Nat → Int) (p : Nat) : Nat × Nat :=
  if S.size < p + 3 then (0, 0) else if (findl S AA p tries (LL (hv S p).toNat) 2 0).2 = 0 then (0, 0) else findl S AA p tries (LL (hv S p).toNat) 2 0
/-- What lies in the rows lies ahead of place q. -/
def Bd (S : ByteArray) (LL AA : Nat → Int) (q : Nat) : Prop := (∀ i, i < 32768 → -1 ≤ LL i ∧ LL i < q) ∧ (∀ i, i < S.size → -1 ≤ AA i ∧ (AA i < q ∨ AA i < 1))
set_option maxHeartbeats 1600000 in
set_option maxRecDepth 100000 in
theorem find_quiet (w0 : World) (g gl ga : Nat) (S : ByteArray) (tries : Nat) (LL AA : Nat → Int) (p q : Nat) (ht : tries ≤ 1000) (hq : q ≤ p) (hp : p ≤ S.size) (hS : S.size ≤ 4194304) (hBd : Bd S LL AA q) (w : World) (hI : FS w0 w g gl ga S tries LL AA) :
    Calls Try.prog 80 #[.pointer (some ⟨g, 0, none⟩), .int .i64 (p : Int)] w fun e w' => e = .returned (.tuple #[.int .i64 ((find S tries LL AA p).1 : Int), .int .i64 ((find S tries LL AA p).2 : Int)]) ∧ ∃ m, w' = w.drewN m := by
  have HI := Aside0.mk hI
  have hc0 : w.cell? ⟨g, 0, none⟩ = some (.string S) := (blk_cell hI.1 0).trans rfl
  have b3 : 0 ≤ (p : Int) := by omega
  have b5 : (p : Int) ≤ 4194304 := by omega
  by_cases h3 : S.size < p + 3
  · have d0 : decide ((S.size : Int) < (p : Int) + 3) = true := decide_eq_true (by omega)
    have FE := Aside0.mk (show find S tries LL AA p = (0, 0) from if_pos h3)
    clear hBd hI
    go_enter Try.func80, Try.ntmps80
    go_wp2
    go_ret2
    exact ⟨by rw [FE.out]; rfl, 0, rfl⟩
  · have d0 : decide ((S.size : Int) < (p : Int) + 3) = false := decide_eq_false (by omega)
    have hr := hv_range S p
    have HH := Aside0.mk (hash_quiet w0 g gl ga S tries LL AA p (by omega) hS)
    obtain ⟨h, hh⟩ : ∃ h : Nat, hv S p = (h : Int) := ⟨(hv S p).toNat, by omega⟩
    have FE := Aside0.mk (show find S tries LL AA p = if (findl S AA p tries (LL h) 2 0).2 = 0 then (0, 0) else findl S AA p tries (LL h) 2 0 from by unfold find; rw [if_neg h3, hh, Int.toNat_natCast])
    rw [hh] at HH hr
    have hc1 : w.cell? ⟨g, 1, none⟩ = some (.slice (some ⟨gl, 0, none⟩) 32768 32768) := (blk_cell hI.1 1).trans rfl
    have hc2 : w.cell? ⟨g, 2, none⟩ = some (.slice (some ⟨ga, 0, none⟩) S.size S.size) := (blk_cell hI.1 2).trans rfl
    have hc3 : w.cell? ⟨g, 3, none⟩ = some (.int .i64 (tries : Int)) := (blk_cell hI.1 3).trans rfl
    have hcl : w.cell? ⟨gl, h, none⟩ = some (.int .i64 (LL h)) := (blk_cell hI.2.1 h).trans (rowOf_get _ _ _ (by omega))
    have bl0 := hBd.1 h (by omega)
    have BD := Aside0.mk hBd
    have b1 : 0 ≤ (h : Int) := by omega
    have b2 : (h : Int) < 32768 := by omega
    obtain ⟨be0, hbe0⟩ : ∃ z, LL h = z := ⟨_, rfl⟩
    rw [hbe0] at FE hcl bl0
    obtain ⟨R, hR⟩ : ∃ R, findl S AA p tries be0 2 0 = R := ⟨_, rfl⟩
    rw [hR] at FE
    have RR := Aside0.mk hR
    have B0 := Aside0.mk bl0
    have QP := Aside0.mk hq
    have PS := Aside0.mk (show p + 3 ≤ S.size by omega)
    clear hBd hI h3 hh hbe0 hR bl0 hq hp
    go_enter Try.func80, Try.ntmps80
    go_wp2_with fail
    go_quiet ((go_at_call 69; exact Calls.quiet_of (HH.out _ (HI.out.drewN _))))
    go_wp2_with fail
    clear b1 b2 hr
    go_loopw [6, 7, 8, 9, 31] (fun v6 v7 v8 v9 v31 wr => ∃ (i lo ba : Nat) (be : Int) (m : Nat), i ≤ tries ∧ v6 = .int .i64 (lo : Int) ∧ v7 = .int .i64 (ba : Int) ∧ v8 = .int .i64 be ∧ v31 = .int .i64 (i : Int) ∧ wr = w.drewN m ∧ Aside0 (-1 ≤ be ∧ be < q ∧ lo ≤ 258 ∧ ba ≤ p) ∧ Aside0 (findl S AA p (tries - i) be lo ba = R)) (fun _ _ _ _ v31 _ => tries - (intOf v31).toNat)
    case atStart => exact ⟨0, 2, 0, be0, _, by omega, rfl, rfl, rfl, rfl, rfl, ⟨by have := B0.out; omega, by have := B0.out; omega, by omega, by omega⟩, RR⟩
    case round =>
      obtain ⟨i, lo, ba, be, m, hi, rfl, rfl, rfl, rfl, rfl, HR, HF⟩ := hrel
      obtain ⟨M, hM⟩ : ∃ M : Int, (if (p : Int) - 32768 < 0 then 0 else (p : Int) - 32768) = M := ⟨_, rfl⟩
      have hM0 : 0 ≤ M := by rw [← hM]; split <;> omega
      obtain ⟨r1, r2⟩ : ∃ r1 r2, R = (r1, r2) := ⟨R.1, R.2, rfl⟩
      by_cases hlt : i < tries
      · have c0 : decide ((i : Int) < (tries : Int)) = true := decide_eq_true (by omega)
        obtain ⟨t, htt⟩ : ∃ t, tries - i = t + 1 := ⟨tries - i - 1, by omega⟩
        have hf := HF.out
        rw [htt] at hf
        unfold findl at hf
        rw [hM] at hf
        by_cases hbe : be < M
        · have c1 : decide (be < M) = true := decide_eq_true hbe
          rw [if_pos hbe] at hf
          have F := Aside0.mk hf
          clear hf hbe htt
          by_cases hba : ba = 0
          · have e0 : ((ba : Int) == 0) = true := beq_iff_eq.mpr (by omega)
            have FE2 := Aside0.mk (show find S tries LL AA p = (0, 0) from by rw [FE.out, ← F.out]; exact if_pos hba)
            clear hba
            go_wp2
            go_ret2
            exact ⟨by rw [FE2.out]; first | done | rfl, _, rfl⟩
          · have e0 : ((ba : Int) == 0) = false := beq_eq_false_iff_ne.mpr (by omega)
            have FE2 := Aside0.mk (show find S tries LL AA p = (lo, ba) from by rw [FE.out, ← F.out]; exact if_neg hba)
            clear hba
            go_wp2
            go_ret2
            exact ⟨by rw [FE2.out]; first | done | rfl, _, rfl⟩
        · have c1 : decide (be < M) = false := decide_eq_false hbe
          rw [if_neg hbe] at hf
          obtain ⟨b, rfl⟩ : ∃ b : Nat, be = b := ⟨be.toNat, by omega⟩
          rw [Int.toNat_natCast] at hf
          have F := Aside0.mk hf
          have hbq : (b : Int) < (q : Int) := HR.out.2.1
          have x1 : 0 ≤ (b : Int) := by omega
          have x2 : (b : Int) < (S.size : Int) := by have := QP.out; have := PS.out; omega
          have x3 : (b : Int) < (p : Int) := by have := QP.out; omega
          have hca : w.cell? ⟨ga, b, none⟩ = some (.int .i64 (AA b)) := (blk_cell HI.out.2.2.1 b).trans (rowOf_get _ _ _ (by omega))
          obtain ⟨ks, hks⟩ := (same_ev S p b (by omega) hS (by have := PS.out; omega)).rounds
          obtain ⟨n, hn⟩ : ∃ n, sameN S p b = n := ⟨_, rfl⟩
          rw [hn] at hks F
          have n258 : n ≤ 258 := by rw [← hn]; have := (sm_spec S p b 258 0).2.1; unfold sameN; omega
          have KS := Aside0.mk hks
          have TT := Aside0.mk htt
          have BQ := Aside0.mk hbq
          have hAA := BD.out.2 b (by omega)
          obtain ⟨nx, hnx⟩ : ∃ z, AA b = z := ⟨_, rfl⟩
          rw [hnx] at hAA hca F
          have AX := Aside0.mk (show -1 ≤ nx ∧ nx < (q : Int) by omega)
          have lb : (lo : Int) ≤ 258 := by have := HR.out; omega
          have l0 : 0 ≤ (lo : Int) := by omega
          clear hf hbe htt hks hn hbq hAA hnx
          have nb : (n : Int) ≤ 258 := by omega
          have nb0 : 0 ≤ (n : Int) := by omega
          by_cases hlo : lo < n
          · have c2 : decide (lo < n) = true := decide_eq_true hlo
            have F2 := Aside0.mk (show findl S AA p t nx n (p - b) = R from by have := F.out; rwa [if_pos hlo] at this)
            clear hlo
            go_wp2_with fail
            refine (match_same.calls ks S (p : Int) (b : Int) (n : Int) _ KS.out).mono ?_
            rintro e w1 ⟨rfl, ⟨⟨m1, rfl⟩⟩⟩
            rw [World.drewN_drewN]
            obtain ⟨m2, hm2⟩ : ∃ m2, m + m1 = m2 := ⟨_, rfl⟩
            rw [hm2]
            clear hm2 hM hM0 c1 r2 hcl
            go_wp2_with fail
            go_roundw
            case rel => exact ⟨i + 1, n, p - b, nx, _, by omega, by first | rfl | go_num, by first | rfl | go_num, rfl, by go_num, rfl, ⟨by have := AX.out; omega, by have := AX.out; omega, by omega, by have := HR.out; omega⟩, ⟨by have := F2.out; rwa [show tries - (i + 1) = t from by have := TT.out; omega]⟩⟩
            case measure => simp [intOf]; omega
          · have c2 : decide (lo < n) = false := decide_eq_false hlo
            have F2 := Aside0.mk (show findl S AA p t nx lo ba = R from by have := F.out; rwa [if_neg hlo] at this)
            clear hlo
            go_wp2_with fail
            refine (match_same.calls ks S (p : Int) (b : Int) (n : Int) _ KS.out).mono ?_
            rintro e w1 ⟨rfl, ⟨⟨m1, rfl⟩⟩⟩
            rw [World.drewN_drewN]
            obtain ⟨m2, hm2⟩ : ∃ m2, m + m1 = m2 := ⟨_, rfl⟩
            rw [hm2]
            clear hm2 hM hM0 c1 r2 hcl
            go_wp2_with fail
            go_roundw
            case rel => exact ⟨i + 1, lo, ba, nx, _, by omega, by first | rfl | go_num, by first | rfl | go_num, rfl, by go_num, rfl, ⟨by have := AX.out; omega, by have := AX.out; omega, by omega, by have := HR.out; omega⟩, ⟨by have := F2.out; rwa [show tries - (i + 1) = t from by have := TT.out; omega]⟩⟩
            case measure => simp [intOf]; omega
      · have c0 : decide ((i : Int) < (tries : Int)) = false := decide_eq_false (by omega)
        have hf := HF.out
        rw [show tries - i = 0 from by omega] at hf
        unfold findl at hf
        have F := Aside0.mk hf
        clear hf
        by_cases hba : ba = 0
        · have e0 : ((ba : Int) == 0) = true := beq_iff_eq.mpr (by omega)
          have FE2 := Aside0.mk (show find S tries LL AA p = (0, 0) from by rw [FE.out, ← F.out]; exact if_pos hba)
          clear hba
          go_wp2
          go_ret2
          exact ⟨by rw [FE2.out]; first | done | rfl, _, rfl⟩
        · have e0 : ((ba : Int) == 0) = false := beq_eq_false_iff_ne.mpr (by omega)
          have FE2 := Aside0.mk (show find S tries LL AA p = (lo, ba) from by rw [FE.out, ← F.out]; exact if_neg hba)
          clear hba
          go_wp2
          go_ret2
          exact ⟨by rw [FE2.out]; first | done | rfl, _, rfl⟩

/-- How a level looks. -/
def lookf (level : Nat) (S : ByteArray) (tries : Nat) (LL AA : Nat → Int) (p : Nat) : Nat × Nat :=
  if level = 0 then (0, 0) else if level = 1 then find S tries LL AA p else
    if (find S tries LL AA p).1 = 0 ∨ (find S tries LL AA p).1 = 258 then find S tries LL AA p else
      if (find S tries LL AA p).1 < (find S tries LL AA (p + 1)).1 then (0, 0) else find S tries LL AA p
set_option maxHeartbeats 400000 in
theorem none_quiet (a : Value) (p : Int) (w : World) : Calls Try.prog 66 #[a, .int .i64 p] w fun e w' => e = .returned (.tuple #[.int .i64 0, .int .i64 0]) ∧ ∃ m, w' = w.drewN m := by
  go_enter Try.func66, Try.ntmps66
  go_wp2
  go_ret2
  exact ⟨rfl, 0, rfl⟩
set_option maxHeartbeats 400000 in
theorem eager_quiet (w0 : World) (g gl ga : Nat) (S : ByteArray) (tries : Nat) (LL AA : Nat → Int) (p q : Nat) (ht : tries ≤ 1000) (hq : q ≤ p) (hp : p ≤ S.size) (hS : S.size ≤ 4194304) (hBd : Bd S LL AA q) (w : World) (hI : FS w0 w g gl ga S tries LL AA) :
    Calls Try.prog 67 #[.pointer (some ⟨g, 0, none⟩), .int .i64 (p : Int)] w fun e w' => e = .returned (.tuple #[.int .i64 ((find S tries LL AA p).1 : Int), .int .i64 ((find S tries LL AA p).2 : Int)]) ∧ ∃ m, w' = w.drewN m := by
  have H := Aside0.mk (find_quiet w0 g gl ga S tries LL AA p q ht hq hp hS hBd w hI)
  obtain ⟨r, hr⟩ : ∃ r, find S tries LL AA p = r := ⟨_, rfl⟩
  rw [hr] at H ⊢
  obtain ⟨n, b⟩ := r
  clear hI hBd hq hp hS hr
  go_enter Try.func67, Try.ntmps67
  go_wp2_with fail
  refine H.out.mono ?_
  rintro e w1 ⟨rfl, m, rfl⟩
  go_wp2
  go_ret2
  exact ⟨rfl, m, rfl⟩
theorem findl_le (S : ByteArray) (AA : Nat → Int) (p : Nat) : ∀ t be lo ba, lo ≤ 258 → (findl S AA p t be lo ba).1 ≤ 258
  | 0, be, lo, ba, h => h
  | t + 1, be, lo, ba, h => by
    unfold findl
    have h2 : sameN S p be.toNat ≤ 258 := by have := (sm_spec S p be.toNat 258 0).2.1; unfold sameN; omega
    generalize (if (p : Int) - 32768 < 0 then (0 : Int) else (p : Int) - 32768) = M
    by_cases h1 : be < M
    · rw [if_pos h1]; exact h
    · rw [if_neg h1]
      by_cases h3 : lo < sameN S p be.toNat
      · rw [if_pos h3]; exact findl_le S AA p t _ _ _ h2
      · rw [if_neg h3]; exact findl_le S AA p t _ _ _ h
theorem find_le (S : ByteArray) (tries : Nat) (LL AA : Nat → Int) (p : Nat) : (find S tries LL AA p).1 ≤ 258 := by
  unfold find
  split
  · simp
  · split
    · simp
    · exact findl_le S AA p _ _ _ _ (by omega)
set_option maxHeartbeats 800000 in
set_option maxRecDepth 100000 in
theorem lazy_quiet (w0 : World) (g gl ga : Nat) (S : ByteArray) (tries : Nat) (LL AA : Nat → Int) (p q : Nat) (ht : tries ≤ 1000) (hq : q ≤ p) (hp : p < S.size) (hS : S.size ≤ 4194304) (hBd : Bd S LL AA q) (level : Nat) (hl : 2 ≤ level) (w : World) (hI : FS w0 w g gl ga S tries LL AA) :
    Calls Try.prog 68 #[.pointer (some ⟨g, 0, none⟩), .int .i64 (p : Int)] w fun e w' => e = .returned (.tuple #[.int .i64 ((lookf level S tries LL AA p).1 : Int), .int .i64 ((lookf level S tries LL AA p).2 : Int)]) ∧ ∃ m, w' = w.drewN m := by
  have HI := Aside0.mk hI
  have H := Aside0.mk (find_quiet w0 g gl ga S tries LL AA p q ht hq (by omega) hS hBd)
  have H2 := Aside0.mk (find_quiet w0 g gl ga S tries LL AA (p + 1) q ht (by omega) (by omega) hS hBd)
  have LE := Aside0.mk (show lookf level S tries LL AA p = if (find S tries LL AA p).1 = 0 ∨ (find S tries LL AA p).1 = 258 then find S tries LL AA p else if (find S tries LL AA p).1 < (find S tries LL AA (p + 1)).1 then (0, 0) else find S tries LL AA p from by unfold lookf; rw [if_neg (by omega), if_neg (by omega)])
  have hn2 := find_le S tries LL AA p
  have hk2 := find_le S tries LL AA (p + 1)
  obtain ⟨r, hr⟩ : ∃ r, find S tries LL AA p = r := ⟨_, rfl⟩
  obtain ⟨r2, hr2⟩ : ∃ r, find S tries LL AA (p + 1) = r := ⟨_, rfl⟩
  rw [hr] at H LE hn2
  rw [hr2] at H2 LE hk2
  obtain ⟨n, b⟩ := r
  obtain ⟨k, c⟩ := r2
  replace hn2 : n ≤ 258 := hn2
  replace hk2 : k ≤ 258 := hk2
  have b0 : 0 ≤ (p : Int) := by omega
  have b5 : (p : Int) ≤ 4194304 := by omega
  have hp1 : ((p + 1 : Nat) : Int) = (p : Int) + 1 := by omega
  rw [hp1] at H2
  clear hI hBd hq hp hS hr hr2 hl hp1
  by_cases h0 : n = 0 ∨ n = 258
  · have LE2 := Aside0.mk (show lookf level S tries LL AA p = (n, b) from by rw [LE.out]; exact if_pos h0)
    have e1 : ((n : Int) == 0) = true ∨ (((n : Int) == 0) = false ∧ ((n : Int) == 258) = true) := by
      rcases h0 with h | h
      · exact .inl (beq_iff_eq.mpr (by omega))
      · exact .inr ⟨beq_eq_false_iff_ne.mpr (by omega), beq_iff_eq.mpr (by omega)⟩
    clear h0
    rcases e1 with e1 | ⟨e1, e2⟩
    all_goals
      go_enter Try.func68, Try.ntmps68
      go_wp2_with fail
      refine (H.out w HI.out).mono ?_
      rintro e w1 ⟨rfl, m, rfl⟩
      go_wp2
      go_ret2
      exact ⟨by rw [LE2.out]; first | done | rfl, m, rfl⟩
  · have e1 : ((n : Int) == 0) = false := beq_eq_false_iff_ne.mpr (by omega)
    have e2 : ((n : Int) == 258) = false := beq_eq_false_iff_ne.mpr (by omega)
    have LE2 := Aside0.mk (show lookf level S tries LL AA p = if n < k then (0, 0) else (n, b) from by rw [LE.out]; exact if_neg h0)
    clear h0
    by_cases hk : n < k
    · have d1 : decide (n < k) = true := decide_eq_true hk
      have LE3 := Aside0.mk (show lookf level S tries LL AA p = (0, 0) from by rw [LE2.out]; exact if_pos hk)
      clear hk
      go_enter Try.func68, Try.ntmps68
      go_wp2_with fail
      refine (H.out w HI.out).mono ?_
      rintro e w1 ⟨rfl, m, rfl⟩
      go_wp2_with fail
      refine (H2.out _ (HI.out.drewN m)).mono ?_
      rintro e w1 ⟨rfl, m2, rfl⟩
      go_wp2
      go_ret2
      exact ⟨by rw [LE3.out]; first | done | rfl, _, rfl⟩
    · have d1 : decide (n < k) = false := decide_eq_false hk
      have LE3 := Aside0.mk (show lookf level S tries LL AA p = (n, b) from by rw [LE2.out]; exact if_neg hk)
      clear hk
      go_enter Try.func68, Try.ntmps68
      go_wp2_with fail
      refine (H.out w HI.out).mono ?_
      rintro e w1 ⟨rfl, m, rfl⟩
      go_wp2_with fail
      refine (H2.out _ (HI.out.drewN m)).mono ?_
      rintro e w1 ⟨rfl, m2, rfl⟩
      go_wp2
      go_ret2
      exact ⟨by rw [LE3.out]; first | done | rfl, _, rfl⟩

theorem info3 : (Try.prog.info? 3).map (fun i => (i.zero, i.size, i.bytes)) = some (some (.int .i64 0), 1, 8) := by kernel_rfl
theorem updk (k : Nat) : upd (fun i => if i < k then (-1 : Int) else 0) k (-1) = fun i => if i < k + 1 then (-1 : Int) else 0 := by
  funext i
  unfold upd
  by_cases h : i = k
  · rw [if_pos h, if_pos (by omega)]
  · rw [if_neg h]
    show (if i < k then (-1 : Int) else 0) = _
    by_cases h2 : i < k
    · rw [if_pos h2, if_pos (by omega)]
    · rw [if_neg h2, if_neg (by omega)]
theorem rowOf_congr (n : Nat) (f g : Nat → Int) (h : ∀ i, i < n → f i = g i) : rowOf n f = rowOf n g := by
  unfold rowOf
  congr 1
  apply List.map_congr_left
  intro i hi
  rw [h i (by simpa using hi)]
theorem FS.congr {w0 W : World} {g gl ga : Nat} {S : ByteArray} {tries : Int} {LL AA LL2 AA2 : Nat → Int} (h : FS w0 W g gl ga S tries LL AA) (h1 : ∀ i, i < 32768 → LL i = LL2 i) (h2 : ∀ i, i < S.size → AA i = AA2 i) : FS w0 W g gl ga S tries LL2 AA2 :=
  ⟨h.1, by rw [← rowOf_congr _ _ _ h1]; exact h.2.1, by rw [← rowOf_congr _ _ _ h2]; exact h.2.2.1, h.2.2.2⟩
theorem new1 (w : World) (A B C : Obj) : (((w.alloc A).alloc B).alloc C).drew.heap[w.heap.size]? = some A :=
  (Below.heap_alloc ((w.alloc A).alloc B) C w.heap.size (by simp; omega)).trans ((Below.heap_alloc (w.alloc A) B w.heap.size (by simp)).trans (heap_alloc_new w A))
theorem new2 (w : World) (A B C : Obj) : (((w.alloc A).alloc B).alloc C).drew.heap[w.heap.size + 1]? = some B := by
  have h := heap_alloc_new (w.alloc A) B
  have e : (w.alloc A).heap.size = w.heap.size + 1 := by simp
  rw [e] at h
  exact (Below.heap_alloc ((w.alloc A).alloc B) C (w.heap.size + 1) (by simp)).trans h
theorem new3 (w : World) (A B C : Obj) : (((w.alloc A).alloc B).alloc C).drew.heap[w.heap.size + 1 + 1]? = some C := by
  have h := heap_alloc_new ((w.alloc A).alloc B) C
  have e : ((w.alloc A).alloc B).heap.size = w.heap.size + 1 + 1 := by simp
  rw [e] at h
  exact h
set_option maxHeartbeats 1600000 in
set_option maxRecDepth 100000 in
theorem newFinder_walk (S : ByteArray) (tries : Nat) (hS : S.size ≤ 4194304) (w : World) :
    Calls Try.prog 65 #[.string S, .int .i64 (tries : Int)] w fun e w' => ∃ g gl ga : Nat, e = .returned (.pointer (some ⟨g, 0, none⟩)) ∧ FS w w' g gl ga S tries (fun _ => -1) (fun _ => 0) ∧ Below w.heap.size w w' := by
  have hu100 := Try.underlying100
  obtain ⟨K, hK⟩ : ∃ K : Nat, K = 32768 := ⟨_, rfl⟩
  have hmk : ∀ W : World, (Instr.makeSlice 47 (.int .i64 32768) (.int .i64 32768)).run Try.prog W = .ok (.slice (some ⟨W.heap.size, 0, none⟩) 32768 32768) (W.alloc (.cells (rowOf 32768 (fun _ => 0)) 3)) := by
    have h := print_make (P := Try.prog) 47 3 .i64 8 Try.underlying47 info3 (by omega) 32768 (by omega)
    rw [rowOf_made] at h
    exact h
  have hmk2 : ∀ W : World, (Instr.makeSlice 47 (.int .i64 (S.size : Int)) (.int .i64 (S.size : Int))).run Try.prog W = .ok (.slice (some ⟨W.heap.size, 0, none⟩) S.size S.size) (W.alloc (.cells (rowOf S.size (fun _ => 0)) 3)) := by
    have h := print_make (P := Try.prog) 47 3 .i64 8 Try.underlying47 info3 (by omega) S.size (by omega)
    rw [rowOf_made] at h
    exact h
  go_enter Try.func65, Try.ntmps65
  go_wp2_with fail
  go_region
  · have F : FS w ((((w.alloc (Obj.cells (rowOf 32768 fun x => 0) 3)).alloc (Obj.cells (rowOf S.size fun x => 0) 3)).alloc (Obj.cells #[Value.string S, Value.slice (some { block := w.heap.size, off := 0 }) 32768 32768, Value.slice (some { block := w.heap.size + 1, off := 0 }) S.size S.size, Value.int IntKind.i64 ↑tries] 100)).drew) (w.heap.size + 1 + 1) (w.heap.size) (w.heap.size + 1) S tries (fun _ => 0) (fun _ => 0) :=
      ⟨new3 w _ _ _, new1 w _ _ _, new2 w _ _ _, by omega, by omega, by omega, by omega⟩
    have HB := below_drew1 (below_alloc (below_alloc (below_alloc (Below.refl w.heap.size w) (Obj.cells (rowOf 32768 fun x => 0) 3)) (Obj.cells (rowOf S.size fun x => 0) 3)) (Obj.cells #[Value.string S, Value.slice (some { block := w.heap.size, off := 0 }) 32768 32768, Value.slice (some { block := w.heap.size + 1, off := 0 }) S.size S.size, Value.int IntKind.i64 ↑tries] 100))
    generalize ((((w.alloc (Obj.cells (rowOf 32768 fun x => 0) 3)).alloc (Obj.cells (rowOf S.size fun x => 0) 3)).alloc (Obj.cells #[Value.string S, Value.slice (some { block := w.heap.size, off := 0 }) 32768 32768, Value.slice (some { block := w.heap.size + 1, off := 0 }) S.size S.size, Value.int IntKind.i64 ↑tries] 100)).drew) = W0 at F HB ⊢
    generalize w.heap.size + 1 + 1 = g at F ⊢
    generalize w.heap.size + 1 = ga at F ⊢
    generalize w.heap.size = gl at F ⊢
    have F := Aside0.mk F
    have HB := Aside0.mk HB
    have hc1 : W0.cell? ⟨g, 1, none⟩ = some (.slice (some ⟨gl, 0, none⟩) 32768 32768) := (blk_cell F.out.1 1).trans rfl
    go_wp2_with fail
    clear hc1
    go_loopw [6, 20] (fun v6 v20 wr => ∃ k : Nat, k ≤ 32768 ∧ v20 = .int .i64 (k : Int) ∧ Aside0 (FS w wr g gl ga S tries (fun i => if i < k then -1 else 0) (fun _ => 0)) ∧ Aside0 (Below w.heap.size w wr)) (fun _ v20 _ => 32768 - (intOf v20).toNat)
    case atStart => exact ⟨0, by omega, rfl, ⟨by simpa using F.out⟩, HB⟩
    case round =>
      clear F HB
      obtain ⟨k, hk, rfl, F, HB⟩ := hrel
      have hc1 : wr.cell? ⟨g, 1, none⟩ = some (.slice (some ⟨gl, 0, none⟩) 32768 32768) := (blk_cell F.out.1 1).trans rfl
      by_cases hlt : k < 32768
      · have c0 : decide ((k : Int) < 32768) = true := decide_eq_true (by omega)
        have hcl : wr.cell? ⟨gl, k, none⟩ = some (.int .i64 (if k < k then -1 else 0)) := (blk_cell F.out.2.1 k).trans (rowOf_get _ _ _ hlt)
        have hfl := blk_frozen F.out.2.1 k
        have x1 : 0 ≤ (k : Int) := by omega
        have x2 : (k : Int) < 32768 := by omega
        clear hlt hk
        go_wp2_with fail
        go_roundw
        case rel => exact ⟨k + 1, by omega, by go_num, ⟨⟨blk_far F.out.1 (blk_ne F.out.1 F.out.2.1 (by decide)) _, by rw [← updk, ← rowOf_set]; exact blk_set F.out.2.1 k _, blk_far F.out.2.2.1 F.out.2.2.2.1.symm _, F.out.2.2.2⟩⟩, ⟨below_set HB.out F.out.2.2.2.2.2.1⟩⟩
        case measure => simp [intOf]; omega
      · have c0 : decide ((k : Int) < 32768) = false := decide_eq_false (by omega)
        have hk2 : k = 32768 := by omega
        have FK := Aside0.mk hk2
        clear hk2 hlt hk
        go_wp2
        go_ret
        exact ⟨g, gl, ga, rfl, F.out.congr (fun i hi => if_pos (by have := FK.out; omega)) (fun i hi => rfl), HB.out⟩
  · have F : FS w ((((w.alloc (Obj.cells (rowOf S.size fun x => 0) 3)).alloc (Obj.cells (rowOf 32768 fun x => 0) 3)).alloc (Obj.cells #[Value.string S, Value.slice (some { block := w.heap.size + 1, off := 0 }) 32768 32768, Value.slice (some { block := w.heap.size, off := 0 }) S.size S.size, Value.int IntKind.i64 ↑tries] 100)).drew) (w.heap.size + 1 + 1) (w.heap.size + 1) (w.heap.size) S tries (fun _ => 0) (fun _ => 0) :=
      ⟨new3 w _ _ _, new2 w _ _ _, new1 w _ _ _, by omega, by omega, by omega, by omega⟩
    have HB := below_drew1 (below_alloc (below_alloc (below_alloc (Below.refl w.heap.size w) (Obj.cells (rowOf S.size fun x => 0) 3)) (Obj.cells (rowOf 32768 fun x => 0) 3)) (Obj.cells #[Value.string S, Value.slice (some { block := w.heap.size + 1, off := 0 }) 32768 32768, Value.slice (some { block := w.heap.size, off := 0 }) S.size S.size, Value.int IntKind.i64 ↑tries] 100))
    generalize ((((w.alloc (Obj.cells (rowOf S.size fun x => 0) 3)).alloc (Obj.cells (rowOf 32768 fun x => 0) 3)).alloc (Obj.cells #[Value.string S, Value.slice (some { block := w.heap.size + 1, off := 0 }) 32768 32768, Value.slice (some { block := w.heap.size, off := 0 }) S.size S.size, Value.int IntKind.i64 ↑tries] 100)).drew) = W0 at F HB ⊢
    generalize w.heap.size + 1 + 1 = g at F ⊢
    generalize w.heap.size + 1 = gl at F ⊢
    generalize w.heap.size = ga at F ⊢
    have F := Aside0.mk F
    have HB := Aside0.mk HB
    have hc1 : W0.cell? ⟨g, 1, none⟩ = some (.slice (some ⟨gl, 0, none⟩) 32768 32768) := (blk_cell F.out.1 1).trans rfl
    go_wp2_with fail
    clear hc1
    go_loopw [6, 20] (fun v6 v20 wr => ∃ k : Nat, k ≤ 32768 ∧ v20 = .int .i64 (k : Int) ∧ Aside0 (FS w wr g gl ga S tries (fun i => if i < k then -1 else 0) (fun _ => 0)) ∧ Aside0 (Below w.heap.size w wr)) (fun _ v20 _ => 32768 - (intOf v20).toNat)
    case atStart => exact ⟨0, by omega, rfl, ⟨by simpa using F.out⟩, HB⟩
    case round =>
      clear F HB
      obtain ⟨k, hk, rfl, F, HB⟩ := hrel
      have hc1 : wr.cell? ⟨g, 1, none⟩ = some (.slice (some ⟨gl, 0, none⟩) 32768 32768) := (blk_cell F.out.1 1).trans rfl
      by_cases hlt : k < 32768
      · have c0 : decide ((k : Int) < 32768) = true := decide_eq_true (by omega)
        have hcl : wr.cell? ⟨gl, k, none⟩ = some (.int .i64 (if k < k then -1 else 0)) := (blk_cell F.out.2.1 k).trans (rowOf_get _ _ _ hlt)
        have hfl := blk_frozen F.out.2.1 k
        have x1 : 0 ≤ (k : Int) := by omega
        have x2 : (k : Int) < 32768 := by omega
        clear hlt hk
        go_wp2_with fail
        go_roundw
        case rel => exact ⟨k + 1, by omega, by go_num, ⟨⟨blk_far F.out.1 (blk_ne F.out.1 F.out.2.1 (by decide)) _, by rw [← updk, ← rowOf_set]; exact blk_set F.out.2.1 k _, blk_far F.out.2.2.1 F.out.2.2.2.1.symm _, F.out.2.2.2⟩⟩, ⟨below_set HB.out F.out.2.2.2.2.2.1⟩⟩
        case measure => simp [intOf]; omega
      · have c0 : decide ((k : Int) < 32768) = false := decide_eq_false (by omega)
        have hk2 : k = 32768 := by omega
        have FK := Aside0.mk hk2
        clear hk2 hlt hk
        go_wp2
        go_ret
        exact ⟨g, gl, ga, rfl, F.out.congr (fun i hi => if_pos (by have := FK.out; omega)) (fun i hi => rfl), HB.out⟩

def fnOf (level : Nat) : Nat := if level = 0 then 66 else if level = 1 then 67 else 68
def triesOf (level : Nat) : Nat := if level = 0 then 4 else if level = 1 then 16 else if level = 2 then 64 else 256
set_option maxHeartbeats 800000 in
set_option maxRecDepth 100000 in
theorem way_walk (level : Nat) (hl : level ≤ 3) (S : ByteArray) (hS : S.size ≤ 4194304) (w : World) :
    Calls Try.prog 48 #[.string S, .int .i64 (level : Int)] w fun e w' => ∃ g gl ga : Nat, e = .returned (.tuple #[.pointer (some ⟨g, 0, none⟩), .func (Fn.func (fnOf level)) #[.pointer (some ⟨g, 0, none⟩)] #[]]) ∧ FS w w' g gl ga S (triesOf level : Nat) (fun _ => -1) (fun _ => 0) ∧ Below w.heap.size w w' := by
  have NF := Aside0.mk (newFinder_walk S (triesOf level) hS w)
  have h4 : level = 0 ∨ level = 1 ∨ level = 2 ∨ level = 3 := by omega
  rcases h4 with rfl | rfl | rfl | rfl
  all_goals
    go_enter Try.func48, Try.ntmps48
    go_wp2_with fail
    refine NF.out.mono ?_
    rintro e w1 ⟨g, gl, ga, rfl, F, hb⟩
    have F := Aside0.mk F
    have HB := Aside0.mk hb
    clear hb
    go_wp2
    go_ret2
    exact ⟨g, gl, ga, rfl, F.out, HB.out⟩

/-- A match that is one, or none. -/
def MG (S : ByteArray) (p n b : Nat) : Prop := 3 ≤ n ∧ n ≤ 258 ∧ 1 ≤ b ∧ b ≤ 32768 ∧ b ≤ p ∧ p + n ≤ S.size ∧ ∀ i, i < n → bt S ((p + i : Nat) : Int) = bt S ((p - b + i : Nat) : Int)
theorem findl_good (S : ByteArray) (AA : Nat → Int) (p q : Nat) (hq : q ≤ p) (hp : p < S.size) (hA : ∀ i, i < S.size → -1 ≤ AA i ∧ (AA i < q ∨ AA i < 1)) : ∀ (t : Nat) (be : Int) (lo ba : Nat), -1 ≤ be → be < p → (ba = 0 ∧ lo = 2 ∨ MG S p lo ba) →
    ((findl S AA p t be lo ba).2 = 0 ∧ (findl S AA p t be lo ba).1 = 2 ∨ MG S p (findl S AA p t be lo ba).1 (findl S AA p t be lo ba).2)
  | 0, be, lo, ba, _, _, h => h
  | t + 1, be, lo, ba, h0, h1, h => by
    unfold findl
    have hM : ∃ M : Int, (if (p : Int) - 32768 < 0 then (0 : Int) else (p : Int) - 32768) = M ∧ 0 ≤ M ∧ (p : Int) - 32768 ≤ M := ⟨_, rfl, by split <;> omega, by split <;> omega⟩
    obtain ⟨M, hM, hM0, hM1⟩ := hM
    rw [hM]
    by_cases h2 : be < M
    · rw [if_pos h2]; exact h
    · rw [if_neg h2]
      obtain ⟨b, rfl⟩ : ∃ b : Nat, be = b := ⟨be.toNat, by omega⟩
      rw [Int.toNat_natCast]
      have hb := hA b (by omega)
      obtain ⟨s1, s2, s3, s4⟩ := sm_spec S p b 258 0
      by_cases h3 : lo < sameN S p b
      · rw [if_pos h3]
        refine findl_good S AA p q hq hp hA t _ _ _ hb.1 (by omega) (.inr ?_)
        have hlo : 2 ≤ lo := by
          rcases h with h | h
          · omega
          · have := h.1; omega
        unfold sameN at h3 ⊢
        have hl := (s3 (sm S p b 258 0 - 1) (by omega) (by omega)).1
        refine ⟨by omega, by omega, by omega, by omega, by omega, by omega, fun i hi => ?_⟩
        have := (s3 i (by omega) hi).2
        rw [this]
        congr 2
        omega
      · rw [if_neg h3]
        exact findl_good S AA p q hq hp hA t _ _ _ hb.1 (by omega) h
theorem find_good (S : ByteArray) (tries : Nat) (LL AA : Nat → Int) (p q : Nat) (hq : q ≤ p) (hBd : Bd S LL AA q) : find S tries LL AA p = (0, 0) ∨ MG S p (find S tries LL AA p).1 (find S tries LL AA p).2 := by
  unfold find
  by_cases h : S.size < p + 3
  · rw [if_pos h]; exact .inl rfl
  · rw [if_neg h]
    have hr := hv_range S p
    have hL := hBd.1 (hv S p).toNat (by omega)
    have := findl_good S AA p q hq (by omega) hBd.2 tries (LL (hv S p).toNat) 2 0 hL.1 (by omega) (.inl ⟨rfl, rfl⟩)
    by_cases h0 : (findl S AA p tries (LL (hv S p).toNat) 2 0).2 = 0
    · rw [if_pos h0]; exact .inl rfl
    · rw [if_neg h0]
      rcases this with h1 | h1
      · exact absurd h1.1 h0
      · exact .inr h1
theorem lookf_good (level : Nat) (S : ByteArray) (tries : Nat) (LL AA : Nat → Int) (p q : Nat) (hq : q ≤ p) (hBd : Bd S LL AA q) : lookf level S tries LL AA p = (0, 0) ∨ MG S p (lookf level S tries LL AA p).1 (lookf level S tries LL AA p).2 := by
  have h := find_good S tries LL AA p q hq hBd
  unfold lookf
  by_cases h0 : level = 0
  · rw [if_pos h0]; exact .inl rfl
  · rw [if_neg h0]
    by_cases h1 : level = 1
    · rw [if_pos h1]; exact h
    · rw [if_neg h1]
      by_cases h2 : (find S tries LL AA p).1 = 0 ∨ (find S tries LL AA p).1 = 258
      · rw [if_pos h2]; exact h
      · rw [if_neg h2]
        by_cases h3 : (find S tries LL AA p).1 < (find S tries LL AA (p + 1)).1
        · rw [if_pos h3]; exact .inl rfl
        · rw [if_neg h3]; exact h
theorem ent_bd (S : ByteArray) (LL AA : Nat → Int) (p : Nat) (hp : p < S.size) (h : Bd S LL AA p) : Bd S (entL S p LL) (entA S p LL AA) (p + 1) := by
  have hr := hv_range S p
  unfold entL entA
  by_cases h3 : p + 3 ≤ S.size
  · rw [if_pos h3, if_pos h3]
    refine ⟨fun i hi => ?_, fun i hi => ?_⟩
    · have := h.1 i hi
      unfold upd
      split <;> omega
    · have h1 := h.2 i hi
      have h2 := h.1 (hv S p).toNat (by omega)
      unfold upd
      split <;> omega
  · rw [if_neg h3, if_neg h3]
    exact ⟨fun i hi => by have := h.1 i hi; omega, fun i hi => by have := h.2 i hi; omega⟩
/-- Some places, entered. -/
def ents (S : ByteArray) (p : Nat) (st : (Nat → Int) × (Nat → Int)) : Nat → (Nat → Int) × (Nat → Int)
  | 0 => st
  | j + 1 => (entL S (p + j) (ents S p st j).1, entA S (p + j) (ents S p st j).1 (ents S p st j).2)
theorem ents_bd (S : ByteArray) (p : Nat) (st : (Nat → Int) × (Nat → Int)) (h : Bd S st.1 st.2 p) : ∀ j, p + j ≤ S.size → Bd S (ents S p st j).1 (ents S p st j).2 (p + j)
  | 0, _ => h
  | j + 1, hj => by
    have := ent_bd S _ _ (p + j) (by omega) (ents_bd S p st h j (by omega))
    exact this
/-- A token of a place. -/
def tokOf (S : ByteArray) (p : Nat) (r : Nat × Nat) : S30 := if r.1 = 0 then ⟨bt S (p : Int), 0, (r.2 : Int)⟩ else ⟨0, (r.1 : Int), (r.2 : Int)⟩
def stepOf (r : Nat × Nat) : Nat := if r.1 = 0 then 1 else r.1
/-- What Tokens does, place by place. -/
inductive Run (level : Nat) (S : ByteArray) : Nat → List S30 → (Nat → Int) → (Nat → Int) → Prop
  | start : Run level S 0 [] (fun _ => -1) (fun _ => 0)
  | step {p : Nat} {l : List S30} {LL AA : Nat → Int} (h : Run level S p l LL AA) (hp : p < S.size) :
      Run level S (p + stepOf (lookf level S (triesOf level) LL AA p)) (l ++ [tokOf S p (lookf level S (triesOf level) LL AA p)])
        (ents S p (LL, AA) (stepOf (lookf level S (triesOf level) LL AA p))).1 (ents S p (LL, AA) (stepOf (lookf level S (triesOf level) LL AA p))).2
theorem step_le (level : Nat) (S : ByteArray) (tries : Nat) (LL AA : Nat → Int) (p : Nat) (hp : p < S.size) (hBd : Bd S LL AA p) : p + stepOf (lookf level S tries LL AA p) ≤ S.size ∧ 1 ≤ stepOf (lookf level S tries LL AA p) := by
  have h := lookf_good level S tries LL AA p p (Nat.le_refl _) hBd
  generalize lookf level S tries LL AA p = r at *
  unfold stepOf
  rcases h with rfl | h
  · rw [if_pos rfl]; omega
  · rw [if_neg (by have := h.1; omega)]
    exact ⟨h.2.2.2.2.2.1, by have := h.1; omega⟩
theorem Run.bd {level : Nat} {S : ByteArray} {p : Nat} {l : List S30} {LL AA : Nat → Int} (h : Run level S p l LL AA) : Bd S LL AA p ∧ p ≤ S.size ∧ l.length ≤ p := by
  induction h with
  | start => exact ⟨⟨fun i _ => ⟨Int.le_refl _, by show (-1 : Int) < ((0 : Nat) : Int); decide⟩, fun i _ => ⟨by show (-1 : Int) ≤ 0; decide, .inr (by show (0 : Int) < 1; decide)⟩⟩, by omega, by simp⟩
  | step h hp ih =>
    obtain ⟨h1, h2, h3⟩ := ih
    have hs := step_le level S (triesOf level) _ _ _ hp h1
    exact ⟨ents_bd S _ (_, _) h1 _ hs.1, hs.1, by simp; omega⟩
end Go.Proofs.Ytlgdjacgdflfaaa.XMatchTokens
